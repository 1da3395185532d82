/- The law StrictMore. -/
import Derived.Test.YtjbhknfdfnilbaaA18
import Derived.Test.YtjbhknfdfnilbaaEwe
import Derived.Test.YtjbhknfdfnilbaaNgf
import Derived.Test.YtjbhknfdfnilbaaXop
namespace Go.Proofs.Ytjbhknfdfnilbaa.Xe
open Go Go.RowKit Go.Proofs.Ytjbhknfdfnilbaa.Sp
set_option linter.unusedVariables false
set_option linter.unusedSimpArgs false
set_option maxRecDepth 100000
/-! ### groatlaw18_StrictMore -/
@[reducible] def groatlaw18_StrictMore.sg : List Shp := [.a (.pair (.int .i64) (.pair (.int .i64) (.sl (.pair (.int .i64) (.pair (.int .i64) (.pair (.int .i64) (.pair (.int .i64) (.int .i64)))))))), .a (.pair (.str) (.sl (.pair (.int .i64) (.str)))), .v (.str)]
@[reducible] def groatlaw18_StrictMore.rs : Rs := .one (.v (.bool))
@[reducible] noncomputable def groatlaw18_StrictMore.code : Code := Try.f13.body.getD .skip
noncomputable def groatlaw18_StrictMore.C : Ctx := ⟨tab, [groatref16_Great.c, wire_Encode.c, groatref16_Same.c, groatlaw18_awake.c, strict_Decode.c], [], ⟨[], []⟩⟩
theorem groatlaw18_StrictMore.eq (n : Nat) (a0 : Int) (a1 : Int) (a2 : List ((Int × (Int × (Int × (Int × Int)))))) (a3 : ByteArray) (a4 : List ((Int × ByteArray))) (a5 : ByteArray) : call groatlaw18_StrictMore.C Try.f13 groatlaw18_StrictMore.code groatlaw18_StrictMore.sg groatlaw18_StrictMore.rs n ((a0, (a1, a2)), ((a3, a4), a5)) =
  ((groatlaw18_awake.f ()).bind fun b0 =>
  (if ¬b0 = true then ((groatlaw18_awake.f ()).bind fun b1 =>
   (some (decide (b1 = true))))
  else (if (↑(List.length a2) : Int) > 200 then ((groatlaw18_awake.f ()).bind fun b2 =>
    (some (decide (b2 = true))))
   else ((groatref16_Great.f (a3, a4)).bind fun b3 =>
    (if b3 = true then ((groatlaw18_awake.f ()).bind fun b4 =>
     (some (decide (b4 = true))))
    else (if (↑(ByteArray.size a5) : Int) > 100 then ((groatlaw18_awake.f ()).bind fun b5 =>
      (some (decide (b5 = true))))
     else (if a5 = ByteArray.mk #[] then ((groatlaw18_awake.f ()).bind fun b6 =>
       (some (decide (b6 = true))))
      else ((wire_Encode.f ((a0, a1, a2), a3, a4)).bind fun b7 =>
       (if ¬(Prod.fst (Prod.snd b7) = 0 ∧ Prod.snd (Prod.snd b7) = 0 ∧ True) then (some true)
       else ((scat (Prod.fst b7) a5).bind fun b8 =>
        ((strict_Decode.f ((a0, a1, a2), b8)).bind fun b9 =>
        (if Prod.fst (Prod.snd b9) = 12 ∧ Prod.snd (Prod.snd b9) = 129 ∧ True then ((groatref16_Same.f (Prod.fst b9, a3, a4)).bind fun b10 =>
         (some (decide (b10 = true))))
        else (some false))))))))))))) := by kernel_rfl
theorem groatlaw18_StrictMore.ok : CtxOk Try.prog groatlaw18_StrictMore.C := ⟨AllOk.all (show AllOk groatlaw18_StrictMore.C.G from ⟨groatref16_Great.con, wire_Encode.con, groatref16_Same.con, groatlaw18_awake.con, strict_Decode.con, trivial⟩), fun c hc => absurd (show c ∈ ([] : List ConS) from hc) (by simp)⟩
theorem groatlaw18_StrictMore.holds (x : (Int × Int × List S5) × (ByteArray × List V) × ByteArray) (w : Wf (sgTy groatlaw18_StrictMore.sg) x) : ∃ n, call groatlaw18_StrictMore.C Try.f13 groatlaw18_StrictMore.code groatlaw18_StrictMore.sg groatlaw18_StrictMore.rs n x = some true := by
  obtain ⟨⟨a, b, s⟩, ⟨t, l⟩, z⟩ := x
  obtain ⟨t, rfl⟩ := ex_sb t
  obtain ⟨z, rfl⟩ := ex_sb z
  refine ⟨0, ?_⟩
  rw [groatlaw18_StrictMore.eq]
  simp only [groatlaw18_awake.f, Option.bind_some, not_true_eq_false, if_false, groatref16_Great]
  by_cases c : (s.length : Int) > 200
  · rw [if_pos c]; simp
  rw [if_neg c]
  cases g1 : great (sb t) l with
  | true => simp
  | false =>
    obtain ⟨g2, g3, g4⟩ := great_no g1
    have ho : okM l := ⟨by omega, fun v hv => by have := g4 v hv; omega⟩
    have hs : s.length ≤ 1000000 := by omega
    rw [if_neg (by simp), size_sb]
    by_cases c2 : (z.length : Int) > 100
    · rw [if_pos c2]; simp
    rw [if_neg c2]
    by_cases c3 : z = []
    · rw [if_pos (show sb z = ByteArray.mk #[] by rw [c3]; rfl)]; simp
    rw [if_neg (show ¬ sb z = ByteArray.mk #[] from fun e => c3 (sb_inj (b := []) e)), wire_Encode a b s hs t l ho, Option.bind_some]
    by_cases hv : msgE (a, b, s) t l = (0, 0)
    · rw [wireE_zero hv]
      have hw : (wireB a s t l).length ≤ 1000000 := wireB_length a s t l (by omega)
      have hd := decM_put hv z
      rw [if_neg (fun q => q ⟨rfl, rfl, trivial⟩)]
      dsimp only
      rw [scat_sb _ _ (by omega), Option.bind_some, strict_Decode a b s hs _ (by rw [List.length_append]; omega), Option.bind_some, hd, if_neg c3, if_pos ⟨rfl, rfl, trivial⟩, groatref16_Same _ _ _ _ (by first | omega | (dsimp only; omega))]
      simp
    · obtain ⟨n1, n2⟩ := wireE_no hv
      rw [n1, if_pos (fun q => n2 q.1)]
end Go.Proofs.Ytjbhknfdfnilbaa.Xe
