/- The law TopInverse: what goes on by a map by which nothing gets lost comes back by it turned. -/
import Derived.Test.YtkaihbkfobiejaaGreatDoorElv
import Derived.Test.YtkaihbkfobiejaaGreatDoorEr16
import Derived.Test.YtkaihbkfobiejaaGreatDoorExo
import Derived.Test.YtkaihbkfobiejaaGreatDoorNgi
import Derived.Test.YtkaihbkfobiejaaGreatDoorNgh
import Derived.Test.YtkaihbkfobiejaaGreatDoorXop
namespace Go.Proofs.YtkaihbkfobiejaaGreatDoor.Xe
open Go Go.RowKit Go.Proofs.YtkaihbkfobiejaaGreatDoor.Sp
set_option linter.unusedVariables false
set_option linter.unusedSimpArgs false
set_option maxRecDepth 100000
/-! ### groattop_TopInverse -/
@[reducible] def groattop_TopInverse.sg : List Shp := [.a (.pair (.sl (.pair (.str) (.str))) (.sl (.pair (.int .i64) (.pair (.int .i64) (.pair (.int .i64) (.pair (.str) (.sl (.pair (.str) (.str))))))))), .a (.pair (.pair (.int .i64) (.pair (.int .i64) (.sl (.pair (.int .i64) (.pair (.int .i64) (.pair (.int .i64) (.pair (.int .i64) (.int .i64)))))))) (.pair (.int .i64) (.pair (.int .i64) (.sl (.pair (.int .i64) (.pair (.int .i64) (.pair (.int .i64) (.pair (.int .i64) (.int .i64))))))))), .a (.pair (.str) (.sl (.pair (.int .i64) (.str))))]
@[reducible] def groattop_TopInverse.rs : Rs := .one (.v (.bool))
@[reducible] noncomputable def groattop_TopInverse.code : Code := Tryz.f6.body.getD .skip
noncomputable def groattop_TopInverse.C : Ctx := ⟨tab, [groattop_live.c, groattop_few.c, groatref16_Great.c, wire_Encode.c, strict_Decode.c, groatref21_Great.c, invert_Check.c, xlate_Translate.c, invert_Turn.c], [], ⟨[], [(1, [(49, .bool)]), (11, [(6, .bool)])]⟩⟩
theorem groattop_TopInverse.eq (n : Nat) (a0 : List ((ByteArray × ByteArray))) (a1 : List ((Int × (Int × (Int × (ByteArray × List ((ByteArray × ByteArray)))))))) (a2 : Int) (a3 : Int) (a4 : List ((Int × (Int × (Int × (Int × Int)))))) (a5 : Int) (a6 : Int) (a7 : List ((Int × (Int × (Int × (Int × Int)))))) (a8 : ByteArray) (a9 : List ((Int × ByteArray))) : call groattop_TopInverse.C Tryz.f6 groattop_TopInverse.code groattop_TopInverse.sg groattop_TopInverse.rs n ((a0, a1), (((a2, (a3, a4)), (a5, (a6, a7))), (a8, a9))) =
  (((((groattop_live.f ()).bind fun b0 =>
   (if ¬b0 = true then (some true)
   else ((groatref21_Great.f (a0, a1)).bind fun b1 =>
    (if b1 = true then (some true)
    else ((groattop_few.f (a2, a3, a4)).bind fun b2 =>
     (if ¬b2 = true then (some true)
     else ((groattop_few.f (a5, a6, a7)).bind fun b3 =>
      (if ¬b3 = true then (some true)
      else ((groatref16_Great.f (a8, a9)).bind fun b4 =>
       (if b4 = true then (some true)
       else ((invert_Check.f ((a0, a1), (a2, a3, a4), a5, a6, a7)).bind fun b5 =>
        (some (decide ¬b5 = true))))))))))))) : Option Bool)).bind fun b6 =>
  (if b6 = true then ((groattop_live.f ()).bind fun b7 =>
   (some (decide (b7 = true))))
  else ((xlate_Translate.f ((a0, a1), (a2, a3, a4), (a5, a6, a7), a8, a9)).bind fun b8 =>
   (if ¬(Prod.fst (Prod.snd b8) = 0 ∧ Prod.snd (Prod.snd b8) = 0 ∧ True) then (some true)
   else ((wire_Encode.f ((a2, a3, a4), a8, a9)).bind fun b9 =>
    ((wire_Encode.f ((a5, a6, a7), Prod.fst b8)).bind fun b10 =>
    ((strict_Decode.f ((a5, a6, a7), Prod.fst b10)).bind fun b11 =>
    ((invert_Turn.f (a0, a1)).bind fun b12 =>
    ((xlate_Translate.f (b12, (a5, a6, a7), (a2, a3, a4), Prod.fst b11)).bind fun b13 =>
    ((wire_Encode.f ((a2, a3, a4), Prod.fst b13)).bind fun b14 =>
    ((((if Prod.fst (Prod.snd b9) = 0 ∧ Prod.snd (Prod.snd b9) = 0 ∧ True then (if Prod.fst (Prod.snd b10) = 0 ∧ Prod.snd (Prod.snd b10) = 0 ∧ True then (if Prod.fst (Prod.snd b11) = 0 ∧ Prod.snd (Prod.snd b11) = 0 ∧ True then (if Prod.fst (Prod.snd b13) = 0 ∧ Prod.snd (Prod.snd b13) = 0 ∧ True then (if Prod.fst (Prod.snd b14) = 0 ∧ Prod.snd (Prod.snd b14) = 0 ∧ True then (some (decide (Prod.fst b14 = Prod.fst b9)))
         else (some false))
        else (some false))
       else (some false))
      else (some false))
     else (some false)) : Option Bool)).bind fun b15 =>
    (some (decide (b15 = true)))))))))))))) := by kernel_rfl
theorem groattop_TopInverse.ok : CtxOk Tryz.prog groattop_TopInverse.C := ⟨AllOk.all (show AllOk groattop_TopInverse.C.G from ⟨groattop_live.con, groattop_few.con, groatref16_Great.con, wire_Encode.con, strict_Decode.con, groatref21_Great.con, invert_Check.con, xlate_Translate.con, invert_Turn.con, trivial⟩), fun c hc => absurd (show c ∈ ([] : List ConS) from hc) (by simp)⟩
theorem ruleOf_mem' {n : Int} : ∀ {l : List RU}, (ruleOf n l).2 = true → (ruleOf n l).1 ∈ l
  | [], h => by cases h
  | r :: l, h => by
    rw [ruleOf] at h ⊢
    by_cases c : r.2.1 = n
    · rw [if_pos c]; exact List.mem_cons_self ..
    · rw [if_neg c] at h ⊢
      exact List.mem_cons_of_mem _ (ruleOf_mem' h)
theorem rule_Apply (r : RU) (hr : okR r) (b1 b2 : Int) (b : List S5) (hb : b.length ≤ 1000000) (t : ByteArray) : rule_Apply.f (r, (b1, b2, b), t) = some (applyR r b t) := by
  obtain ⟨r0, r1, r2, r3, r4⟩ := r
  obtain ⟨t, rfl⟩ := ex_sb t
  unfold applyR
  simp only [rule_Apply.f]
  by_cases c1 : r0 = 1
  · rw [if_pos c1, if_pos c1]
  rw [if_neg c1, if_neg c1]
  by_cases c2 : r0 = 2
  · rw [if_pos c2, if_pos c2]
  rw [if_neg c2, if_neg c2]
  by_cases c3 : r0 = 3
  · rw [if_pos c3, if_pos c3]
  rw [if_neg c3, if_neg c3]
  by_cases c4 : r0 = 4
  · rw [if_pos c4, if_pos c4, schema_Find b1 b2 b hb, Option.bind_some, digits_Pad, Option.bind_some, bl_sb]
    by_cases k1 : (findS r2 b).2 = true
    · rw [if_neg (not_not_intro k1), if_neg (show ¬ (findS r2 b).2 = false by rw [k1]; simp)]
      dsimp only
      by_cases k2 : (padB t (findS r2 b).1.2.2.2.1).2 = true
      · rw [if_neg (not_not_intro k2), if_neg (show ¬ (padB t (findS r2 b).1.2.2.2.1).2 = false by rw [k2]; simp)]
      · rw [if_pos k2, if_pos (show (padB t (findS r2 b).1.2.2.2.1).2 = false by simpa using k2)]
    · rw [if_pos k1, if_pos (show (findS r2 b).2 = false by simpa using k1)]
  rw [if_neg c4, if_neg c4]
  by_cases c5 : r0 = 5
  · rw [if_pos c5, if_pos c5, codes_Apply r4 hr.2, Option.bind_some]
    by_cases k1 : (applyP (sb t) r4).2 = true
    · rw [if_neg (by simpa using k1), if_neg (by simpa using k1)]
    · rw [if_pos (by simpa using k1), if_pos (by simpa using k1)]
  · rw [if_neg c5, if_neg c5]
theorem trL_eq (l : List RU) (hl : ∀ r ∈ l, okR r) (b : SC) (hb : b.2.2.length ≤ 1000000) (t : ByteArray) : ∀ g o : List V, trL l b t g o = some (trP l b.2.2 t g o)
  | [], o => rfl
  | v :: g, o => by
    rw [trL, trP]
    cases c : (ruleOf v.1 l).2
    · rw [if_pos rfl, if_pos rfl]
    · rw [if_neg (by simp), if_neg (by simp), rule_Apply _ (hl _ (ruleOf_mem' c)) b.1 b.2.1 b.2.2 hb v.2, Option.bind_some]
      by_cases c2 : ¬ (applyR (ruleOf v.1 l).1 b.2.2 v.2).2 = 0
      · rw [if_pos c2, if_pos c2]
      rw [if_neg c2, if_neg c2]
      by_cases c3 : ¬ (applyR (ruleOf v.1 l).1 b.2.2 v.2).1.1 = 0
      · rw [if_pos c3, if_pos c3]; exact trL_eq l hl b hb t g _
      · rw [if_neg c3, if_neg c3]; exact trL_eq l hl b hb t g _
theorem constL_no : ∀ (l : List RU) (o : List V), (∀ r ∈ l, r.1 ≠ 3) → constL l o = o
  | [], o, _ => rfl
  | r :: l, o, h => by
    rw [constL, if_neg (h r (List.mem_cons_self ..))]
    exact constL_no l o fun q hq => h q (List.mem_cons_of_mem _ hq)
theorem okC_turn {m : RC} (h : okC m) : okC (turnM m) := by
  obtain ⟨h1, h2, h3⟩ := h
  refine ⟨h1.turn, by show (m.2.map turnR).length ≤ 100000; rw [List.length_map]; exact h2, fun r hr => ?_⟩
  obtain ⟨q, hq, rfl⟩ := List.mem_map.1 hr
  exact ⟨(h3 q hq).1, (h3 q hq).2.turn⟩
theorem trM_of {m : RC} (hm : okC m) (a b : SC) (hb : b.2.2.length ≤ 1000000) (hc : ∀ r ∈ m.2, r.1 ≠ 3) (he : (mapE m a b).1 = 0) (x : M2) :
    trM m a b x = some (if ¬ (msgE a (bl x.1) x.2).1 = 0 then ((ByteArray.mk #[], []), msgE a (bl x.1) x.2) else if (applyP x.1 m.1).2 = false then ((ByteArray.mk #[], []), 7, 0) else trP m.2 b.2.2 (applyP x.1 m.1).1 x.2 []) := by
  unfold trM
  rw [if_neg (fun q => q he)]
  by_cases c1 : ¬ (msgE a (bl x.1) x.2).1 = 0
  · rw [if_pos c1, if_pos c1]
  rw [if_neg c1, if_neg c1]
  by_cases c2 : (applyP x.1 m.1).2 = false
  · rw [if_pos c2, if_pos c2]
  rw [if_neg c2, if_neg c2, constL_no _ _ hc]
  exact trL_eq m.2 hm.2.2 b hb _ _ _
theorem groattop_TopInverse.holds (x : RC × (SC × SC) × (ByteArray × List V)) (w : Wf (sgTy groattop_TopInverse.sg) x) : ∃ n, call groattop_TopInverse.C Tryz.f6 groattop_TopInverse.code groattop_TopInverse.sg groattop_TopInverse.rs n x = some true := by
  obtain ⟨⟨p, r⟩, ⟨⟨a1, a2, a⟩, b1, b2, b⟩, t, l⟩ := x
  refine ⟨0, ?_⟩
  rw [groattop_TopInverse.eq]
  have dead : ((groattop_live.f ()).bind fun b7 => some (decide (b7 = true))) = some true := rfl
  simp only [dead]
  rw [show groattop_live.f () = some true from rfl, Option.bind_some, if_neg (by simp), show groatref21_Great.f (p, r) = some (greatM (p, r)) from rfl, Option.bind_some]
  cases g0 : greatM (p, r) with
  | true => rw [if_pos rfl, Option.bind_some, if_pos rfl]
  | false =>
    obtain ⟨hm, hm1, hm2⟩ := okC_of g0
    rw [if_neg (by simp), show groattop_few.f (a1, a2, a) = some (decide ((a.length : Int) ≤ 200)) from rfl, Option.bind_some]
    by_cases c1 : (a.length : Int) ≤ 200
    · rw [if_neg (by simpa using c1), show groattop_few.f (b1, b2, b) = some (decide ((b.length : Int) ≤ 200)) from rfl, Option.bind_some]
      by_cases c2 : (b.length : Int) ≤ 200
      · have ha : a.length ≤ 1000000 := by omega
        have hb : b.length ≤ 1000000 := by omega
        rw [if_neg (by simpa using c2), groatref16_Great, Option.bind_some]
        cases g1 : great t l with
        | true => rw [if_pos rfl, Option.bind_some, if_pos rfl]
        | false =>
          obtain ⟨g2, g3, g4⟩ := great_no g1
          have ho : okM l := ⟨by omega, fun v hv => by have := g4 v hv; omega⟩
          rw [if_neg (by simp), invert_Check (p, r) hm (a1, a2, a) (b1, b2, b) ha hb, Option.bind_some, Option.bind_some]
          cases g5 : invE (p, r) (a1, a2, a) (b1, b2, b) with
          | false => rw [if_pos (by simp)]
          | true =>
            have hL := lossless_of g5
            have he : (mapE (p, r) (a1, a2, a) (b1, b2, b)).1 = 0 := by
              unfold invE at g5
              rw [Bool.and_eq_true, decide_eq_true_eq] at g5
              exact g5.1
            rw [if_neg (by simp), xlate_Translate (p, r) hm (a1, a2, a) (b1, b2, b) ha hb (t, l) ho, trM_of hm (a1, a2, a) (b1, b2, b) hb hL.noConst he, Option.bind_some]
            by_cases d1 : ¬ (msgE (a1, a2, a) (bl t) l).1 = 0
            · rw [if_pos d1, if_pos (fun q => d1 q.1)]
            rw [if_neg d1]
            by_cases d2 : (applyP t p).2 = false
            · rw [if_pos d2, if_pos (fun q => by cases q.1)]
            rw [if_neg d2]
            by_cases d3 : (trP r b (applyP t p).1 l []).2.1 = 0
            · have hv : msgE (a1, a2, a) (bl t) l = (0, 0) := (msgE_zero (a1, a2, a) (bl t) l).2.1 (Decidable.not_not.1 d1)
              obtain ⟨u, y, e1, e2, e3, e4, e5⟩ := hL.back (t := t) (g := l) hv (by simpa using d2) d3
              have e1 : trP r b (applyP t p).1 l [] = ((u, y), 0, 0) := e1
              obtain ⟨-, ry⟩ := (msgE_zero (b1, b2, b) (bl u) y).1.1 e2
              have sy := rise_size ⟨b1, b2, hL.sb⟩ ry
              have hy : okM y := ⟨by omega, fun v hv => by have := sy v hv; omega⟩
              obtain ⟨t, rfl⟩ := ex_sb t
              obtain ⟨u, rfl⟩ := ex_sb u
              rw [bl_sb] at hv e2
              have hw : (wireB b1 b u y).length ≤ 1000000 := wireB_length b1 b u y (by omega)
              have hd := decM_put e2 []
              rw [List.append_nil] at hd
              rw [e1]
              dsimp only at hd ⊢
              rw [if_neg (fun q => q ⟨rfl, rfl, trivial⟩), wire_Encode a1 a2 a ha t l ho, Option.bind_some, wireE_zero hv, wire_Encode b1 b2 b hb u y hy, Option.bind_some, wireE_zero e2]
              dsimp only
              rw [strict_Decode b1 b2 b hb _ (by omega), Option.bind_some, hd, if_pos rfl]
              dsimp only
              rw [invert_Turn (p, r) hm, Option.bind_some, xlate_Translate (turnM (p, r)) (okC_turn hm) (b1, b2, b) (a1, a2, a) hb ha (sb u, y) hy]
              rw [trM_of (okC_turn hm) (b1, b2, b) (a1, a2, a) ha (fun q hq => by
                obtain ⟨q, h, rfl⟩ := List.mem_map.1 hq
                exact hL.noConst q h) hL.turned, Option.bind_some]
              dsimp only
              rw [if_neg (by rw [bl_sb, e2]; simp), e4, if_neg (by simp), e5]
              dsimp only
              rw [wire_Encode a1 a2 a ha t l ho, Option.bind_some, wireE_zero hv]
              dsimp only
              rw [if_pos ⟨rfl, rfl, trivial⟩, if_pos ⟨rfl, rfl, trivial⟩, if_pos ⟨rfl, rfl, trivial⟩, if_pos ⟨rfl, rfl, trivial⟩, if_pos ⟨rfl, rfl, trivial⟩]
              simp
            · rw [if_pos (fun q => d3 q.1)]
      · rw [if_pos (by simpa using c2), Option.bind_some, if_pos rfl]
    · rw [if_pos (by simpa using c1), Option.bind_some, if_pos rfl]
end Go.Proofs.YtkaihbkfobiejaaGreatDoor.Xe
