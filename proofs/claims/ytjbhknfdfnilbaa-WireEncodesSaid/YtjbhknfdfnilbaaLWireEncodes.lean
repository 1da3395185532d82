/- The law WireEncodes. -/
import Derived.Test.YtjbhknfdfnilbaaA17
import Derived.Test.YtjbhknfdfnilbaaEr17b
import Derived.Test.YtjbhknfdfnilbaaXop
namespace Go.Proofs.Ytjbhknfdfnilbaa.Xe
open Go Go.RowKit Go.Proofs.Ytjbhknfdfnilbaa.Sp
set_option linter.unusedVariables false
set_option linter.unusedSimpArgs false
set_option maxRecDepth 100000
/-! ### groatlaw17_WireEncodes -/
@[reducible] def groatlaw17_WireEncodes.sg : List Shp := [.a (.pair (.int .i64) (.pair (.int .i64) (.sl (.pair (.int .i64) (.pair (.int .i64) (.pair (.int .i64) (.pair (.int .i64) (.int .i64)))))))), .a (.pair (.str) (.sl (.pair (.int .i64) (.str))))]
@[reducible] def groatlaw17_WireEncodes.rs : Rs := .one (.v (.bool))
@[reducible] noncomputable def groatlaw17_WireEncodes.code : Code := Try.f4.body.getD .skip
noncomputable def groatlaw17_WireEncodes.C : Ctx := ⟨tab, [groatlaw17_awake.c, groatref16_Great.c, wire_Encode.c, groatref16_Copy.c, groatref16_Check.c, groatref17_Bytes.c], [], ⟨[], []⟩⟩
theorem groatlaw17_WireEncodes.eq (n : Nat) (a0 : Int) (a1 : Int) (a2 : List ((Int × (Int × (Int × (Int × Int)))))) (a3 : ByteArray) (a4 : List ((Int × ByteArray))) : call groatlaw17_WireEncodes.C Try.f4 groatlaw17_WireEncodes.code groatlaw17_WireEncodes.sg groatlaw17_WireEncodes.rs n ((a0, (a1, a2)), (a3, a4)) =
  ((groatlaw17_awake.f ()).bind fun b0 =>
  (if ¬b0 = true then ((groatlaw17_awake.f ()).bind fun b1 =>
   (some (decide (b1 = true))))
  else (if (↑(List.length a2) : Int) > 200 then ((groatlaw17_awake.f ()).bind fun b2 =>
    (some (decide (b2 = true))))
   else ((groatref16_Great.f (a3, a4)).bind fun b3 =>
    (if b3 = true then ((groatlaw17_awake.f ()).bind fun b4 =>
     (some (decide (b4 = true))))
    else ((groatref16_Copy.f (a3, a4)).bind fun b5 =>
     ((wire_Encode.f ((a0, a1, a2), b5)).bind fun b6 =>
     ((groatref16_Check.f ((a0, a1, a2), a3, a4)).bind fun b7 =>
     (if ¬(Prod.fst (Prod.snd b6) = Prod.fst b7 ∧ Prod.snd (Prod.snd b6) = Prod.snd b7 ∧ True) then (if Prod.fst (Prod.snd b6) = Prod.fst b7 ∧ Prod.snd (Prod.snd b6) = Prod.snd b7 ∧ True then (some (decide (Prod.fst b6 = ByteArray.mk #[])))
      else (some false))
     else (if ¬(Prod.fst b7 = 0 ∧ Prod.snd b7 = 0 ∧ True) then (if Prod.fst (Prod.snd b6) = Prod.fst b7 ∧ Prod.snd (Prod.snd b6) = Prod.snd b7 ∧ True then (some (decide (Prod.fst b6 = ByteArray.mk #[])))
       else (some false))
      else ((groatref17_Bytes.f ((a0, a1, a2), a3, a4)).bind fun b8 =>
       (some (decide (Prod.fst b6 = b8)))))))))))))) := by kernel_rfl
theorem groatlaw17_WireEncodes.ok : CtxOk Try.prog groatlaw17_WireEncodes.C := ⟨AllOk.all (show AllOk groatlaw17_WireEncodes.C.G from ⟨groatlaw17_awake.con, groatref16_Great.con, wire_Encode.con, groatref16_Copy.con, groatref16_Check.con, groatref17_Bytes.con, trivial⟩), fun c hc => absurd (show c ∈ ([] : List ConS) from hc) (by simp)⟩
theorem groatlaw17_WireEncodes.holds (x : (Int × Int × List S5) × ByteArray × List V) (w : Wf (sgTy groatlaw17_WireEncodes.sg) x) : ∃ n, call groatlaw17_WireEncodes.C Try.f4 groatlaw17_WireEncodes.code groatlaw17_WireEncodes.sg groatlaw17_WireEncodes.rs n x = some true := by
  obtain ⟨⟨a, b, s⟩, t, l⟩ := x
  obtain ⟨t, rfl⟩ := ex_sb t
  refine ⟨0, ?_⟩
  rw [groatlaw17_WireEncodes.eq]
  simp only [groatlaw17_awake.f, Option.bind_some, not_true_eq_false, if_false, groatref16_Great]
  by_cases c : (s.length : Int) > 200
  · rw [if_pos c]; simp
  rw [if_neg c]
  cases g1 : great (sb t) l with
  | true => simp
  | false =>
    obtain ⟨g2, g3, g4⟩ := great_no g1
    have ho : okM l := ⟨by omega, fun v hv => by have := g4 v hv; omega⟩
    have hs : s.length ≤ 1000000 := by omega
    rw [if_neg (by simp), groatref16_Copy (sb t) l (by omega), Option.bind_some, wire_Encode a b s hs t l ho, Option.bind_some, groatref16_Check a b s t l hs ho, Option.bind_some]
    by_cases hv : msgE (a, b, s) t l = (0, 0)
    · rw [wireE_zero hv, hv, if_neg (not_not_intro ⟨rfl, rfl, trivial⟩), if_neg (not_not_intro ⟨rfl, rfl, trivial⟩), groatref17_Bytes a b s hs t l (by omega) hv, Option.bind_some]
      simp
    · obtain ⟨n1, n2⟩ := wireE_no hv
      rw [n1, if_neg (not_not_intro ⟨rfl, rfl, trivial⟩), if_pos (fun q => n2 q.1), if_pos ⟨rfl, rfl, trivial⟩]
      simp [show sb [] = ByteArray.mk #[] from rfl]
end Go.Proofs.Ytjbhknfdfnilbaa.Xe
