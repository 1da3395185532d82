/- The law StrictDecodes. -/
import Derived.Test.YtjbhknfdfnilbaaA18
import Derived.Test.YtjbhknfdfnilbaaEr18
import Derived.Test.YtjbhknfdfnilbaaLdM
import Derived.Test.YtjbhknfdfnilbaaXop
namespace Go.Proofs.Ytjbhknfdfnilbaa.Xe
open Go Go.RowKit Go.Proofs.Ytjbhknfdfnilbaa.Sp
set_option linter.unusedVariables false
set_option linter.unusedSimpArgs false
set_option maxRecDepth 100000
/-! ### groatlaw18_StrictDecodes -/
@[reducible] def groatlaw18_StrictDecodes.sg : List Shp := [.a (.pair (.int .i64) (.pair (.int .i64) (.sl (.pair (.int .i64) (.pair (.int .i64) (.pair (.int .i64) (.pair (.int .i64) (.int .i64)))))))), .v (.str)]
@[reducible] def groatlaw18_StrictDecodes.rs : Rs := .one (.v (.bool))
@[reducible] noncomputable def groatlaw18_StrictDecodes.code : Code := Try.f8.body.getD .skip
noncomputable def groatlaw18_StrictDecodes.C : Ctx := ⟨tab, [groatref16_Same.c, groatlaw18_awake.c, strict_Decode.c, groatref18_Decode.c], [], ⟨[], []⟩⟩
theorem groatlaw18_StrictDecodes.eq (n : Nat) (a0 : Int) (a1 : Int) (a2 : List ((Int × (Int × (Int × (Int × Int)))))) (a3 : ByteArray) : call groatlaw18_StrictDecodes.C Try.f8 groatlaw18_StrictDecodes.code groatlaw18_StrictDecodes.sg groatlaw18_StrictDecodes.rs n ((a0, (a1, a2)), a3) =
  ((groatlaw18_awake.f ()).bind fun b0 =>
  (if ¬b0 = true then ((groatlaw18_awake.f ()).bind fun b1 =>
   (some (decide (b1 = true))))
  else (if (↑(List.length a2) : Int) > 200 then ((groatlaw18_awake.f ()).bind fun b2 =>
    (some (decide (b2 = true))))
   else (if (↑(ByteArray.size a3) : Int) > 3000 then ((groatlaw18_awake.f ()).bind fun b3 =>
     (some (decide (b3 = true))))
    else ((strict_Decode.f ((a0, a1, a2), a3)).bind fun b4 =>
     ((groatref18_Decode.f ((a0, a1, a2), a3)).bind fun b5 =>
     ((groatref16_Same.f (Prod.fst b4, Prod.fst b5)).bind fun b6 =>
     (if b6 = true then (some (decide (Prod.fst (Prod.snd b4) = Prod.fst (Prod.snd b5) ∧ Prod.snd (Prod.snd b4) = Prod.snd (Prod.snd b5) ∧ True)))
     else (some false))))))))) := by kernel_rfl
theorem groatlaw18_StrictDecodes.ok : CtxOk Try.prog groatlaw18_StrictDecodes.C := ⟨AllOk.all (show AllOk groatlaw18_StrictDecodes.C.G from ⟨groatref16_Same.con, groatlaw18_awake.con, strict_Decode.con, groatref18_Decode.con, trivial⟩), fun c hc => absurd (show c ∈ ([] : List ConS) from hc) (by simp)⟩
theorem groatlaw18_StrictDecodes.holds (x : (Int × Int × List S5) × ByteArray) (w : Wf (sgTy groatlaw18_StrictDecodes.sg) x) : ∃ n, call groatlaw18_StrictDecodes.C Try.f8 groatlaw18_StrictDecodes.code groatlaw18_StrictDecodes.sg groatlaw18_StrictDecodes.rs n x = some true := by
  obtain ⟨⟨a, b, s⟩, z⟩ := x
  obtain ⟨z, rfl⟩ := ex_sb z
  refine ⟨300, ?_⟩
  rw [groatlaw18_StrictDecodes.eq]
  simp only [groatlaw18_awake.f, Option.bind_some, not_true_eq_false, if_false]
  by_cases c : (s.length : Int) > 200
  · rw [if_pos c]; simp
  rw [if_neg c, size_sb]
  by_cases c2 : (z.length : Int) > 3000
  · rw [if_pos c2]; simp
  have hs : s.length ≤ 1000000 := by omega
  have hn := decM_len (a, b, s) z
  rw [if_neg c2, strict_Decode a b s hs z (by omega), Option.bind_some, groatref18_Decode a b s hs z (by omega), Option.bind_some]
  dsimp only
  rw [groatref16_Same _ _ _ _ (by omega)]
  simp
end Go.Proofs.Ytjbhknfdfnilbaa.Xe
