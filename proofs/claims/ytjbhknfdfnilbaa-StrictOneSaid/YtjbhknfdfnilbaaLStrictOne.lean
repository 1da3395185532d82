/- The law StrictOne. -/
import Derived.Test.YtjbhknfdfnilbaaA18
import Derived.Test.YtjbhknfdfnilbaaEwe
import Derived.Test.YtjbhknfdfnilbaaNgf
import Derived.Test.YtjbhknfdfnilbaaLdM
import Derived.Test.YtjbhknfdfnilbaaXop
namespace Go.Proofs.Ytjbhknfdfnilbaa.Xe
open Go Go.RowKit Go.Proofs.Ytjbhknfdfnilbaa.Sp
set_option linter.unusedVariables false
set_option linter.unusedSimpArgs false
set_option maxRecDepth 100000
/-! ### groatlaw18_StrictOne -/
@[reducible] def groatlaw18_StrictOne.sg : List Shp := [.a (.pair (.int .i64) (.pair (.int .i64) (.sl (.pair (.int .i64) (.pair (.int .i64) (.pair (.int .i64) (.pair (.int .i64) (.int .i64)))))))), .v (.str)]
@[reducible] def groatlaw18_StrictOne.rs : Rs := .one (.v (.bool))
@[reducible] noncomputable def groatlaw18_StrictOne.code : Code := Try.f11.body.getD .skip
noncomputable def groatlaw18_StrictOne.C : Ctx := ⟨tab, [wire_Encode.c, groatlaw18_awake.c, strict_Decode.c, msg_Check.c], [], ⟨[], []⟩⟩
theorem groatlaw18_StrictOne.eq (n : Nat) (a0 : Int) (a1 : Int) (a2 : List ((Int × (Int × (Int × (Int × Int)))))) (a3 : ByteArray) : call groatlaw18_StrictOne.C Try.f11 groatlaw18_StrictOne.code groatlaw18_StrictOne.sg groatlaw18_StrictOne.rs n ((a0, (a1, a2)), a3) =
  ((groatlaw18_awake.f ()).bind fun b0 =>
  (if ¬b0 = true then ((groatlaw18_awake.f ()).bind fun b1 =>
   (some (decide (b1 = true))))
  else (if (↑(List.length a2) : Int) > 200 then ((groatlaw18_awake.f ()).bind fun b2 =>
    (some (decide (b2 = true))))
   else (if (↑(ByteArray.size a3) : Int) > 3000 then ((groatlaw18_awake.f ()).bind fun b3 =>
     (some (decide (b3 = true))))
    else ((strict_Decode.f ((a0, a1, a2), a3)).bind fun b4 =>
     (if ¬(Prod.fst (Prod.snd b4) = 0 ∧ Prod.snd (Prod.snd b4) = 0 ∧ True) then (some true)
     else ((wire_Encode.f ((a0, a1, a2), Prod.fst b4)).bind fun b5 =>
      ((msg_Check.f ((a0, a1, a2), Prod.fst b4)).bind fun b6 =>
      (if Prod.fst b6 = 0 ∧ Prod.snd b6 = 0 ∧ True then (if Prod.fst (Prod.snd b5) = 0 ∧ Prod.snd (Prod.snd b5) = 0 ∧ True then (some (decide (Prod.fst b5 = a3)))
       else (some false))
      else (some false)))))))))) := by kernel_rfl
theorem groatlaw18_StrictOne.ok : CtxOk Try.prog groatlaw18_StrictOne.C := ⟨AllOk.all (show AllOk groatlaw18_StrictOne.C.G from ⟨wire_Encode.con, groatlaw18_awake.con, strict_Decode.con, msg_Check.con, trivial⟩), fun c hc => absurd (show c ∈ ([] : List ConS) from hc) (by simp)⟩
theorem groatlaw18_StrictOne.holds (x : (Int × Int × List S5) × ByteArray) (w : Wf (sgTy groatlaw18_StrictOne.sg) x) : ∃ n, call groatlaw18_StrictOne.C Try.f11 groatlaw18_StrictOne.code groatlaw18_StrictOne.sg groatlaw18_StrictOne.rs n x = some true := by
  obtain ⟨⟨a, b, s⟩, z⟩ := x
  obtain ⟨z, rfl⟩ := ex_sb z
  refine ⟨300, ?_⟩
  rw [groatlaw18_StrictOne.eq]
  simp only [groatlaw18_awake.f, Option.bind_some, not_true_eq_false, if_false]
  by_cases c : (s.length : Int) > 200
  · rw [if_pos c]; simp
  rw [if_neg c, size_sb]
  by_cases c2 : (z.length : Int) > 3000
  · rw [if_pos c2]; simp
  have hs : s.length ≤ 1000000 := by omega
  have hl := decM_okM (a, b, s) z (by omega)
  rw [if_neg c2, strict_Decode a b s hs z (by omega), Option.bind_some]
  dsimp only
  by_cases h : (decM (a, b, s) z).2.1 = 0
  · obtain ⟨h1, h2, h3⟩ := decM_ok h
    rw [if_neg (not_not_intro ⟨h, h3, trivial⟩), wire_Encode a b s hs _ _ hl, Option.bind_some, wireE_zero h1, msg_Check a b s _ _ hs hl, Option.bind_some, h1, if_pos ⟨rfl, rfl, trivial⟩, if_pos ⟨rfl, rfl, trivial⟩]
    dsimp only at h2 ⊢
    rw [h2]; simp
  · rw [if_pos (fun q => h q.1)]
end Go.Proofs.Ytjbhknfdfnilbaa.Xe
