/- The law WireParts. -/
import Derived.Test.YtjbhknfdfnilbaaA17
import Derived.Test.YtjbhknfdfnilbaaEr16
import Derived.Test.YtjbhknfdfnilbaaEcg
import Derived.Test.YtjbhknfdfnilbaaNWireL
import Derived.Test.YtjbhknfdfnilbaaXop
namespace Go.Proofs.Ytjbhknfdfnilbaa.Xe
open Go Go.RowKit Go.Proofs.Ytjbhknfdfnilbaa.Sp
set_option linter.unusedVariables false
set_option linter.unusedSimpArgs false
set_option maxRecDepth 100000
/-! ### groatlaw17_WireParts -/
@[reducible] def groatlaw17_WireParts.sg : List Shp := [.a (.pair (.int .i64) (.pair (.int .i64) (.sl (.pair (.int .i64) (.pair (.int .i64) (.pair (.int .i64) (.pair (.int .i64) (.int .i64)))))))), .a (.pair (.str) (.sl (.pair (.int .i64) (.str))))]
@[reducible] def groatlaw17_WireParts.rs : Rs := .one (.v (.bool))
@[reducible] noncomputable def groatlaw17_WireParts.code : Code := Try.f7.body.getD .skip
noncomputable def groatlaw17_WireParts.C : Ctx := ⟨tab, [groatlaw17_awake.c, wire_Type.c, groatref16_Great.c, wire_Encode.c, schema_Find.c, msg_Set.c, bitmap_Get.c, cell_Get.c], [], ⟨[(13, [2, 5, 10, 83, 84, 85], 4)], []⟩⟩
noncomputable def groatlaw17_WireParts.l0 (n : Nat) (v0 : ByteArray) (v1 : Int) (v2 : List ((Int × ByteArray))) (v3 : Int) (v4 : Int) (v5 : Int) (v6 : Int) (v7 : List ((Int × (Int × (Int × (Int × Int)))))) (v8 : ByteArray) (v9 : List ((Int × ByteArray))) (v10 : Int) (v11 : Int) (v12 : Int) (v13 : Int) : Option Bool := run groatlaw17_WireParts.C (finOf groatlaw17_WireParts.C Try.f7 groatlaw17_WireParts.rs) n (todoAt 13 groatlaw17_WireParts.code) ⟨[.junk, .junk, .ptr 0 0, .junk, .junk, .str v0, .junk, .junk, .junk, .junk, .int .i64 v1, .junk, .junk, .junk, .junk, .junk, .junk, .junk, .junk, .junk, .junk, .junk, .junk, .junk, .junk, .junk, .junk, .junk, .junk, .junk, .junk, .junk, .junk, .junk, .junk, .junk, .junk, .junk, .junk, .junk, .junk, .junk, .junk, .junk, .junk, .junk, .junk, .junk, .junk, .junk, .junk, .junk, .junk, .junk, .junk, .junk, .junk, .junk, .junk, .junk, .junk, .junk, .junk, .junk, .junk, .junk, .junk, .junk, .junk, .junk, .junk, .junk, .junk, .junk, .junk, .junk, .junk, .junk, .junk, .junk, .junk, .junk, .junk, .sl none (.pair (.int .i64) (.str)) v2, .int .i64 v3, .int .i64 v4, .junk, .junk, .junk, .junk, .junk, .junk, .junk, .junk, .junk, .junk, .junk, .junk, .junk, .junk, .junk, .junk, .junk, .junk, .junk, .junk, .junk, .junk, .junk, .junk, .junk, .junk, .junk, .junk, .junk, .junk, .junk, .junk, .junk, .junk, .junk, .junk, .junk, .junk, .junk], [[.int .i64 v5, .int .i64 v6, .sl none (.pair (.int .i64) (.pair (.int .i64) (.pair (.int .i64) (.pair (.int .i64) (.int .i64))))) v7], [.str v8, .sl none (.pair (.int .i64) (.str)) v9], [.int .i64 v10, .int .i64 v11], [.int .u64 v12, .int .u64 v13]], []⟩
-- the loop at region 13
theorem groatlaw17_WireParts.l0_eq (n : Nat) (v0 : ByteArray) (v1 : Int) (v2 : List ((Int × ByteArray))) (v3 : Int) (v4 : Int) (v5 : Int) (v6 : Int) (v7 : List ((Int × (Int × (Int × (Int × Int)))))) (v8 : ByteArray) (v9 : List ((Int × ByteArray))) (v10 : Int) (v11 : Int) (v12 : Int) (v13 : Int) : groatlaw17_WireParts.l0 (n + 1) v0 v1 v2 v3 v4 v5 v6 v7 v8 v9 v10 v11 v12 v13 =
  (if v4 < v3 then ((lget v2 v4).bind fun b10 =>
   ((schema_Find.f ((v5, v6, v7), Prod.fst b10)).bind fun b11 =>
   ((cell_Get.f (v5, Prod.fst b11, v0, v1)).bind fun b12 =>
   (if ¬Prod.snd (Prod.snd b12) = 0 then (some false)
   else (if ¬Prod.fst b12 = Prod.snd b10 then (some false)
    else (if Prod.fst (Prod.snd b12) ≤ v1 then (some false)
     else (groatlaw17_WireParts.l0 n v0 (Prod.fst (Prod.snd b12)) v2 v3 (IntKind.wrap IntKind.i64 (v4 + 1)) v5 v6 v7 v8 v9 v10 v11 v12 v13)))))))
  else (some (decide (v1 = (↑(ByteArray.size v0) : Int))))) := by kernel_rfl
theorem groatlaw17_WireParts.eq (n : Nat) (a0 : Int) (a1 : Int) (a2 : List ((Int × (Int × (Int × (Int × Int)))))) (a3 : ByteArray) (a4 : List ((Int × ByteArray))) : call groatlaw17_WireParts.C Try.f7 groatlaw17_WireParts.code groatlaw17_WireParts.sg groatlaw17_WireParts.rs n ((a0, (a1, a2)), (a3, a4)) =
  ((groatlaw17_awake.f ()).bind fun b0 =>
  (if ¬b0 = true then ((groatlaw17_awake.f ()).bind fun b1 =>
   (some (decide (b1 = true))))
  else (if (↑(List.length a2) : Int) > 200 then ((groatlaw17_awake.f ()).bind fun b2 =>
    (some (decide (b2 = true))))
   else ((groatref16_Great.f (a3, a4)).bind fun b3 =>
    (if b3 = true then ((groatlaw17_awake.f ()).bind fun b4 =>
     (some (decide (b4 = true))))
    else ((wire_Encode.f ((a0, a1, a2), a3, a4)).bind fun b5 =>
     (if ¬(Prod.fst (Prod.snd b5) = 0 ∧ Prod.snd (Prod.snd b5) = 0 ∧ True) then (some (decide (Prod.fst b5 = ByteArray.mk #[])))
     else ((wire_Type.f (a0, a3)).bind fun b6 =>
      (if (↑(ByteArray.size (Prod.fst b5)) : Int) < (↑(ByteArray.size (Prod.fst b6)) : Int) then (some false)
      else ((ssub (Prod.fst b5) 0 (↑(ByteArray.size (Prod.fst b6)) : Int)).bind fun b7 =>
       (if ¬b7 = Prod.fst b6 then (some false)
       else ((bitmap_Get.f (a0, Prod.fst b5, (↑(ByteArray.size (Prod.fst b6)) : Int))).bind fun b8 =>
        (if ¬Prod.snd (Prod.snd b8) = 0 then (some false)
        else ((msg_Set.f (a3, a4)).bind fun b9 =>
         (if ¬(Prod.fst (Prod.fst b8) = Prod.fst b9 ∧ Prod.snd (Prod.fst b8) = Prod.snd b9 ∧ True) then (some false)
         else (groatlaw17_WireParts.l0 n (Prod.fst b5) (Prod.fst (Prod.snd b8)) a4 ((↑(List.length a4) : Int)) 0 a0 a1 a2 a3 a4 (Prod.fst (Prod.snd b5)) (Prod.snd (Prod.snd b5)) (Prod.fst (Prod.fst b8)) (Prod.snd (Prod.fst b8)))))))))))))))))) := by kernel_rfl
theorem groatlaw17_WireParts.ok : CtxOk Try.prog groatlaw17_WireParts.C := ⟨AllOk.all (show AllOk groatlaw17_WireParts.C.G from ⟨groatlaw17_awake.con, wire_Type.con, groatref16_Great.con, wire_Encode.con, schema_Find.con, msg_Set.con, bitmap_Get.con, cell_Get.con, trivial⟩), fun c hc => absurd (show c ∈ ([] : List ConS) from hc) (by simp)⟩
theorem groatlaw17_WireParts_l (a b : Int) (s : List S5) (hs : s.length ≤ 1000000) (hst : a = 1 ∨ a = 2) (t : ByteArray) (l : List V) (hl : l.length ≤ 1000000) (e f g h : Int) : ∀ (m : List V) (z : List UInt8) (p : Int) (k i : Nat), l.drop i = m → Rise s p m → (z ++ fieldsB a s m).length ≤ 1000000 → m.length < k →
    groatlaw17_WireParts.l0 k (sb (z ++ fieldsB a s m)) (z.length : Int) l (l.length : Int) (i : Int) a b s t l e f g h = some true
  | [], z, p, k, i, hd, hr, hz, hk => by
    obtain ⟨k, rfl⟩ : ∃ m, k = m + 1 := ⟨k - 1, by omega⟩
    have := dropn hd
    rw [groatlaw17_WireParts.l0_eq, if_neg (by omega), size_sb]
    show some (decide ((z.length : Int) = ((z ++ []).length : Int))) = _
    rw [List.append_nil, decide_eq_true rfl]
  | v :: m, z, p, k, i, hd, hr, hz, hk => by
    obtain ⟨k, rfl⟩ : ∃ m, k = m + 1 := ⟨k - 1, by omega⟩
    obtain ⟨h1, h2, h3, h4⟩ := dropc hd
    have hk' : m.length < k := by simp at hk; omega
    cases hr with
    | cons r1 r2 r3 =>
      have hp := cellB_pos hst r2
      have ef : fieldsB a s (v :: m) = cellB a s v ++ fieldsB a s m := by unfold fieldsB; rw [List.flatMap_cons]
      have ih := groatlaw17_WireParts_l a b s hs hst t l hl e f g h m (z ++ cellB a s v) v.1 k (i + 1) h2 r3 (by rw [List.append_assoc, ← ef]; exact hz) hk'
      rw [ef] at hz ⊢
      have hc := cell_Get a (findS v.1 s).1.1 (findS v.1 s).1.2.1 (findS v.1 s).1.2.2.1 (findS v.1 s).1.2.2.2.1 (findS v.1 s).1.2.2.2.2 (z ++ (cellB a s v ++ fieldsB a s m)) (by omega) (z.length : Int)
      have hc : cell_Get.f (a, (findS v.1 s).1, sb (z ++ (cellB a s v ++ fieldsB a s m)), (z.length : Int)) = some (str3 (cellGet' a (findS v.1 s).1 (z ++ (cellB a s v ++ fieldsB a s m)) (z.length : Int))) := hc
      rw [cellB_get hst r2 z _] at hc
      rw [groatlaw17_WireParts.l0_eq, if_pos (by omega), h4, Option.bind_some, schema_Find a b s hs, Option.bind_some]
      try dsimp only
      rw [hc, Option.bind_some]
      unfold str3
      try dsimp only
      rw [if_neg (not_not_intro rfl), if_neg (not_not_intro (sb_bl v.2)), if_neg (show ¬ ((z.length + (cellB a s v).length : Nat) : Int) ≤ (z.length : Int) by omega), wrap_succ (by omega)]
      rw [List.append_assoc, List.length_append] at ih
      exact ih
theorem groatlaw17_WireParts.holds (x : (Int × Int × List S5) × ByteArray × List V) (w : Wf (sgTy groatlaw17_WireParts.sg) x) : ∃ n, call groatlaw17_WireParts.C Try.f7 groatlaw17_WireParts.code groatlaw17_WireParts.sg groatlaw17_WireParts.rs n x = some true := by
  obtain ⟨⟨a, b, s⟩, t, l⟩ := x
  obtain ⟨t, rfl⟩ := ex_sb t
  refine ⟨300, ?_⟩
  rw [groatlaw17_WireParts.eq]
  simp only [groatlaw17_awake.f, Option.bind_some, not_true_eq_false, if_false, groatref16_Great]
  by_cases c : (s.length : Int) > 200
  · rw [if_pos c]; simp
  rw [if_neg c]
  cases g1 : great (sb t) l with
  | true => simp
  | false =>
    obtain ⟨g2, g3, g4⟩ := great_no g1
    have ho : okM l := ⟨by omega, fun v hv => by have := g4 v hv; omega⟩
    have hs : s.length ≤ 1000000 := by omega
    rw [if_neg (by simp), wire_Encode a b s hs t l ho, Option.bind_some]
    by_cases hv : msgE (a, b, s) t l = (0, 0)
    · obtain ⟨⟨k1, k2, k3⟩, k4⟩ := (msgE_zero _ _ _).1.1 hv
      have hst := schema_style k1
      dsimp only at hst k4
      have hlen := wireB_length a s t l (by omega)
      have hset : msg_Set.f (sb t, l) = some (((setV l).1 : Int), ((setV l).2 : Int)) := msg_Set (sb t) l (by omega)
      have hB := bitGet_put hst (setV_low k4) (setV_lt l).2 (typeB a t) (fieldsB a s l)
      rw [← bitsB_eq a hst k4] at hB
      have e1 : typeB a t ++ (bitsB a l ++ fieldsB a s l) = wireB a s t l := by unfold wireB; rw [List.append_assoc]
      rw [e1] at hB
      have e2 : ssub (sb (wireB a s t l)) 0 ((typeB a t).length : Int) = some (sb (typeB a t)) := by
        have := ssub_sb (wireB a s t l) 0 (typeB a t).length (Nat.zero_le _) (by rw [← e1, List.length_append]; omega)
        refine Eq.trans this ?_
        rw [List.drop_zero, ← e1, List.take_left]
      rw [wireE_zero hv, if_neg (fun q => q ⟨rfl, rfl, trivial⟩), wire_Type, Option.bind_some]
      try dsimp only
      rw [size_sb, size_sb, if_neg (by rw [← e1, List.length_append]; omega), e2, Option.bind_some, if_neg (not_not_intro rfl), bitmap_Get a _ (by omega), Option.bind_some, hB]
      try dsimp only
      rw [if_neg (not_not_intro rfl), hset, Option.bind_some, if_neg (not_not_intro ⟨rfl, rfl, trivial⟩)]
      have e3 : wireB a s t l = (typeB a t ++ bitsB a l) ++ fieldsB a s l := rfl
      rw [e3] at hlen ⊢
      rw [show (typeB a t).length + (bitsB a l).length = (typeB a t ++ bitsB a l).length by rw [List.length_append]]
      exact groatlaw17_WireParts_l a b s hs hst (sb t) l (by omega) 0 0 _ _ l (typeB a t ++ bitsB a l) 0 300 0 rfl k4 (by omega) (by omega)
    · obtain ⟨n1, n2⟩ := wireE_no hv
      rw [n1, if_pos (fun q => n2 q.1)]
      simp [show sb [] = ByteArray.mk #[] from rfl]
end Go.Proofs.Ytjbhknfdfnilbaa.Xe
