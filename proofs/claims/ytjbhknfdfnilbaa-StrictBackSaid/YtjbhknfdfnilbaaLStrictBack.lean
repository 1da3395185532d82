/- The law StrictBack. -/
import Derived.Test.YtjbhknfdfnilbaaA18
import Derived.Test.YtjbhknfdfnilbaaEwe
import Derived.Test.YtjbhknfdfnilbaaNgf
import Derived.Test.YtjbhknfdfnilbaaXop
namespace Go.Proofs.Ytjbhknfdfnilbaa.Xe
open Go Go.RowKit Go.Proofs.Ytjbhknfdfnilbaa.Sp
set_option linter.unusedVariables false
set_option linter.unusedSimpArgs false
set_option maxRecDepth 100000
/-! ### groatlaw18_StrictBack -/
@[reducible] def groatlaw18_StrictBack.sg : List Shp := [.a (.pair (.int .i64) (.pair (.int .i64) (.sl (.pair (.int .i64) (.pair (.int .i64) (.pair (.int .i64) (.pair (.int .i64) (.int .i64)))))))), .a (.pair (.str) (.sl (.pair (.int .i64) (.str))))]
@[reducible] def groatlaw18_StrictBack.rs : Rs := .one (.v (.bool))
@[reducible] noncomputable def groatlaw18_StrictBack.code : Code := Try.f10.body.getD .skip
noncomputable def groatlaw18_StrictBack.C : Ctx := ⟨tab, [groatref16_Great.c, wire_Encode.c, groatref16_Same.c, groatlaw18_awake.c, strict_Decode.c], [], ⟨[], []⟩⟩
theorem groatlaw18_StrictBack.eq (n : Nat) (a0 : Int) (a1 : Int) (a2 : List ((Int × (Int × (Int × (Int × Int)))))) (a3 : ByteArray) (a4 : List ((Int × ByteArray))) : call groatlaw18_StrictBack.C Try.f10 groatlaw18_StrictBack.code groatlaw18_StrictBack.sg groatlaw18_StrictBack.rs n ((a0, (a1, a2)), (a3, a4)) =
  ((groatlaw18_awake.f ()).bind fun b0 =>
  (if ¬b0 = true then ((groatlaw18_awake.f ()).bind fun b1 =>
   (some (decide (b1 = true))))
  else (if (↑(List.length a2) : Int) > 200 then ((groatlaw18_awake.f ()).bind fun b2 =>
    (some (decide (b2 = true))))
   else ((groatref16_Great.f (a3, a4)).bind fun b3 =>
    (if b3 = true then ((groatlaw18_awake.f ()).bind fun b4 =>
     (some (decide (b4 = true))))
    else ((wire_Encode.f ((a0, a1, a2), a3, a4)).bind fun b5 =>
     (if ¬(Prod.fst (Prod.snd b5) = 0 ∧ Prod.snd (Prod.snd b5) = 0 ∧ True) then (some (decide (Prod.fst b5 = ByteArray.mk #[])))
     else ((strict_Decode.f ((a0, a1, a2), Prod.fst b5)).bind fun b6 =>
      (if Prod.fst (Prod.snd b6) = 0 ∧ Prod.snd (Prod.snd b6) = 0 ∧ True then ((groatref16_Same.f ((a3, a4), Prod.fst b6)).bind fun b7 =>
       (some (decide (b7 = true))))
      else (some false)))))))))) := by kernel_rfl
theorem groatlaw18_StrictBack.ok : CtxOk Try.prog groatlaw18_StrictBack.C := ⟨AllOk.all (show AllOk groatlaw18_StrictBack.C.G from ⟨groatref16_Great.con, wire_Encode.con, groatref16_Same.con, groatlaw18_awake.con, strict_Decode.con, trivial⟩), fun c hc => absurd (show c ∈ ([] : List ConS) from hc) (by simp)⟩
theorem groatlaw18_StrictBack.holds (x : (Int × Int × List S5) × ByteArray × List V) (w : Wf (sgTy groatlaw18_StrictBack.sg) x) : ∃ n, call groatlaw18_StrictBack.C Try.f10 groatlaw18_StrictBack.code groatlaw18_StrictBack.sg groatlaw18_StrictBack.rs n x = some true := by
  obtain ⟨⟨a, b, s⟩, t, l⟩ := x
  obtain ⟨t, rfl⟩ := ex_sb t
  refine ⟨0, ?_⟩
  rw [groatlaw18_StrictBack.eq]
  simp only [groatlaw18_awake.f, Option.bind_some, not_true_eq_false, if_false, groatref16_Great]
  by_cases c : (s.length : Int) > 200
  · rw [if_pos c]; simp
  rw [if_neg c]
  cases g1 : great (sb t) l with
  | true => simp
  | false =>
    obtain ⟨g2, g3, g4⟩ := great_no g1
    have ho : okM l := ⟨by omega, fun v hv => by have := g4 v hv; omega⟩
    have hs : s.length ≤ 1000000 := by omega
    rw [if_neg (by simp), wire_Encode a b s hs t l ho, Option.bind_some]
    by_cases hv : msgE (a, b, s) t l = (0, 0)
    · rw [wireE_zero hv]
      have hw : (wireB a s t l).length ≤ 1000000 := wireB_length a s t l (by omega)
      have hd := decM_put hv []
      rw [List.append_nil] at hd
      rw [if_neg (fun q => q ⟨rfl, rfl, trivial⟩), strict_Decode a b s hs _ (by dsimp only; omega), Option.bind_some, hd, if_pos rfl, if_pos ⟨rfl, rfl, trivial⟩, groatref16_Same _ _ _ _ (by first | omega | (dsimp only; omega))]
      simp
    · obtain ⟨n1, n2⟩ := wireE_no hv
      rw [n1, if_pos (fun q => n2 q.1)]
      simp [show sb [] = ByteArray.mk #[] from rfl]
end Go.Proofs.Ytjbhknfdfnilbaa.Xe
