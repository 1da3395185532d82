/- The law WireApart. -/
import Derived.Test.YtjbhknfdfnilbaaA17
import Derived.Test.YtjbhknfdfnilbaaEr16
import Derived.Test.YtjbhknfdfnilbaaNWireL
import Derived.Test.YtjbhknfdfnilbaaXop
namespace Go.Proofs.Ytjbhknfdfnilbaa.Xe
open Go Go.RowKit Go.Proofs.Ytjbhknfdfnilbaa.Sp
set_option linter.unusedVariables false
set_option linter.unusedSimpArgs false
set_option maxRecDepth 100000
/-! ### groatlaw17_WireApart -/
@[reducible] def groatlaw17_WireApart.sg : List Shp := [.a (.pair (.int .i64) (.pair (.int .i64) (.sl (.pair (.int .i64) (.pair (.int .i64) (.pair (.int .i64) (.pair (.int .i64) (.int .i64)))))))), .a (.pair (.str) (.sl (.pair (.int .i64) (.str)))), .a (.pair (.str) (.sl (.pair (.int .i64) (.str))))]
@[reducible] def groatlaw17_WireApart.rs : Rs := .one (.v (.bool))
@[reducible] noncomputable def groatlaw17_WireApart.code : Code := Try.f5.body.getD .skip
noncomputable def groatlaw17_WireApart.C : Ctx := ⟨tab, [groatlaw17_awake.c, groatref16_Great.c, wire_Encode.c, groatref16_Same.c], [], ⟨[], []⟩⟩
theorem groatlaw17_WireApart.eq (n : Nat) (a0 : Int) (a1 : Int) (a2 : List ((Int × (Int × (Int × (Int × Int)))))) (a3 : ByteArray) (a4 : List ((Int × ByteArray))) (a5 : ByteArray) (a6 : List ((Int × ByteArray))) : call groatlaw17_WireApart.C Try.f5 groatlaw17_WireApart.code groatlaw17_WireApart.sg groatlaw17_WireApart.rs n ((a0, (a1, a2)), ((a3, a4), (a5, a6))) =
  ((groatlaw17_awake.f ()).bind fun b0 =>
  (if ¬b0 = true then ((groatlaw17_awake.f ()).bind fun b1 =>
   (some (decide (b1 = true))))
  else (if (↑(List.length a2) : Int) > 200 then ((groatlaw17_awake.f ()).bind fun b2 =>
    (some (decide (b2 = true))))
   else ((groatref16_Great.f (a3, a4)).bind fun b3 =>
    (if b3 = true then ((groatlaw17_awake.f ()).bind fun b4 =>
     (some (decide (b4 = true))))
    else ((groatref16_Great.f (a5, a6)).bind fun b5 =>
     (if b5 = true then ((groatlaw17_awake.f ()).bind fun b6 =>
      (some (decide (b6 = true))))
     else ((wire_Encode.f ((a0, a1, a2), a3, a4)).bind fun b7 =>
      ((wire_Encode.f ((a0, a1, a2), a5, a6)).bind fun b8 =>
      (if ¬(Prod.fst (Prod.snd b7) = 0 ∧ Prod.snd (Prod.snd b7) = 0 ∧ True) then (some true)
      else (if ¬(Prod.fst (Prod.snd b8) = 0 ∧ Prod.snd (Prod.snd b8) = 0 ∧ True) then (some true)
       else (if (↑(ByteArray.size (Prod.fst b8)) : Int) < (↑(ByteArray.size (Prod.fst b7)) : Int) then ((ssub (Prod.fst b7) 0 (↑(ByteArray.size (Prod.fst b8)) : Int)).bind fun b9 =>
         ((ssub (Prod.fst b8) 0 (↑(ByteArray.size (Prod.fst b8)) : Int)).bind fun b10 =>
         ((groatref16_Same.f ((a3, a4), a5, a6)).bind fun b11 =>
         (some (decide (decide (b9 = b10) = decide (b11 = true)))))))
        else ((ssub (Prod.fst b7) 0 (↑(ByteArray.size (Prod.fst b7)) : Int)).bind fun b12 =>
         ((ssub (Prod.fst b8) 0 (↑(ByteArray.size (Prod.fst b7)) : Int)).bind fun b13 =>
         ((groatref16_Same.f ((a3, a4), a5, a6)).bind fun b14 =>
         (some (decide (decide (b12 = b13) = decide (b14 = true))))))))))))))))))) := by kernel_rfl
theorem groatlaw17_WireApart.ok : CtxOk Try.prog groatlaw17_WireApart.C := ⟨AllOk.all (show AllOk groatlaw17_WireApart.C.G from ⟨groatlaw17_awake.con, groatref16_Great.con, wire_Encode.con, groatref16_Same.con, trivial⟩), fun c hc => absurd (show c ∈ ([] : List ConS) from hc) (by simp)⟩
theorem groatlaw17_WireApart.holds (x : (Int × Int × List S5) × (ByteArray × List V) × ByteArray × List V) (w : Wf (sgTy groatlaw17_WireApart.sg) x) : ∃ n, call groatlaw17_WireApart.C Try.f5 groatlaw17_WireApart.code groatlaw17_WireApart.sg groatlaw17_WireApart.rs n x = some true := by
  obtain ⟨⟨a, b, s⟩, ⟨t, l⟩, u, m⟩ := x
  obtain ⟨t, rfl⟩ := ex_sb t
  obtain ⟨u, rfl⟩ := ex_sb u
  refine ⟨0, ?_⟩
  rw [groatlaw17_WireApart.eq]
  simp only [groatlaw17_awake.f, Option.bind_some, not_true_eq_false, if_false, groatref16_Great]
  by_cases c : (s.length : Int) > 200
  · rw [if_pos c]; simp
  rw [if_neg c]
  cases g1 : great (sb t) l with
  | true => simp
  | false =>
    cases g2 : great (sb u) m with
    | true => simp
    | false =>
      obtain ⟨-, g3, g4⟩ := great_no g1
      obtain ⟨-, g5, g6⟩ := great_no g2
      have ho : okM l := ⟨by omega, fun v hv => by have := g4 v hv; omega⟩
      have ho2 : okM m := ⟨by omega, fun v hv => by have := g6 v hv; omega⟩
      have hs : s.length ≤ 1000000 := by omega
      rw [if_neg (by simp), if_neg (by simp), wire_Encode a b s hs t l ho, Option.bind_some, wire_Encode a b s hs u m ho2, Option.bind_some]
      by_cases hv : msgE (a, b, s) t l = (0, 0)
      · by_cases hw : msgE (a, b, s) u m = (0, 0)
        · rw [wireE_zero hv, wireE_zero hw, if_neg (fun q => q ⟨rfl, rfl, trivial⟩), if_neg (fun q => q ⟨rfl, rfl, trivial⟩)]
          dsimp only
          have p1 := wire_prefix hv hw
          have p2 := wire_prefix hw hv
          dsimp only at p1 p2
          have hl1 := wireB_length a s t l (by omega)
          have hl2 := wireB_length a s u m (by omega)
          rw [size_sb, size_sb, groatref16_Same _ _ _ _ (by omega)]
          have key : ∀ n : Nat, n ≤ (wireB a s t l).length → n ≤ (wireB a s u m).length → (n = (wireB a s t l).length ∨ n = (wireB a s u m).length) → ((sb ((wireB a s t l).take n) = sb ((wireB a s u m).take n)) ↔ ((sb t, l) = (sb u, m))) := fun n h1 h2 h3 => by
            constructor
            · intro e
              have e := sb_inj e
              rcases h3 with rfl | rfl
              · rw [List.take_length] at e
                obtain ⟨e1, e2⟩ := p1 e.symm
                rw [e1, e2]
              · rw [List.take_length] at e
                obtain ⟨e1, e2⟩ := p2 e
                rw [e1, e2]
            · intro e
              obtain ⟨e1, e2⟩ := Prod.ext_iff.1 e
              rw [sb_inj e1, show l = m from e2]
          have sub : ∀ (w : List UInt8) (n : Nat), n ≤ w.length → ssub (sb w) 0 (n : Int) = some (sb (w.take n)) := fun w n h => ssub_sb w 0 n (Nat.zero_le _) h
          by_cases c2 : ((wireB a s u m).length : Int) < ((wireB a s t l).length : Int)
          · rw [if_pos c2, sub _ _ (by omega), Option.bind_some, sub _ _ (Nat.le_refl _), Option.bind_some, Option.bind_some]
            rw [decide_eq_true (show decide (sb ((wireB a s t l).take (wireB a s u m).length) = sb ((wireB a s u m).take (wireB a s u m).length)) = decide (decide ((sb t, l) = (sb u, m)) = true) by rw [Bool.decide_eq_true]; exact decide_eq_decide.2 (key _ (by omega) (Nat.le_refl _) (.inr rfl)))]
          · rw [if_neg c2, sub _ _ (Nat.le_refl _), Option.bind_some, sub _ _ (by omega), Option.bind_some, Option.bind_some]
            rw [decide_eq_true (show decide (sb ((wireB a s t l).take (wireB a s t l).length) = sb ((wireB a s u m).take (wireB a s t l).length)) = decide (decide ((sb t, l) = (sb u, m)) = true) by rw [Bool.decide_eq_true]; exact decide_eq_decide.2 (key _ (Nat.le_refl _) (by omega) (.inl rfl)))]
        · obtain ⟨n1, n2⟩ := wireE_no hw
          rw [wireE_zero hv, if_neg (fun q => q ⟨rfl, rfl, trivial⟩), n1, if_pos (fun q => n2 q.1)]
      · obtain ⟨n1, n2⟩ := wireE_no hv
        rw [n1, if_pos (fun q => n2 q.1)]
end Go.Proofs.Ytjbhknfdfnilbaa.Xe
