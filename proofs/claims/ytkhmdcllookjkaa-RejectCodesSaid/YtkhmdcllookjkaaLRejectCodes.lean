/- The law on codes. -/
import Derived.Test.YtkhmdcllookjkaaA23
import Derived.Test.YtkhmdcllookjkaaEr23
import Derived.Test.YtkhmdcllookjkaaXop
namespace Go.Proofs.Ytkhmdcllookjkaa.Xe
open Go Go.RowKit Go.Proofs.Ytkhmdcllookjkaa.Sp
set_option linter.unusedVariables false
set_option linter.unusedSimpArgs false
set_option maxRecDepth 100000
/-! ### groatlaw23_RejectCodes -/
@[reducible] def groatlaw23_RejectCodes.sg : List Shp := [.a (.pair (.pair (.int .i64) (.pair (.int .i64) (.sl (.pair (.int .i64) (.pair (.int .i64) (.pair (.int .i64) (.pair (.int .i64) (.int .i64)))))))) (.pair (.pair (.sl (.pair (.str) (.str))) (.sl (.pair (.int .i64) (.pair (.int .i64) (.pair (.int .i64) (.pair (.str) (.sl (.pair (.str) (.str))))))))) (.pair (.sl (.int .i64)) (.sl (.pair (.int .i64) (.str)))))), .v (.int .i64)]
@[reducible] def groatlaw23_RejectCodes.rs : Rs := .one (.v (.bool))
@[reducible] noncomputable def groatlaw23_RejectCodes.code : Code := Try.f9.body.getD .skip
noncomputable def groatlaw23_RejectCodes.C : Ctx := ⟨tab, [groatlaw23_awake.c, groatref23_Great.c, groatref23_Copy.c, reject_Code.c, groatref23_Code.c], [], ⟨[], []⟩⟩
theorem groatlaw23_RejectCodes.eq (n : Nat) (a0 : Int) (a1 : Int) (a2 : List ((Int × (Int × (Int × (Int × Int)))))) (a3 : List ((ByteArray × ByteArray))) (a4 : List ((Int × (Int × (Int × (ByteArray × List ((ByteArray × ByteArray)))))))) (a5 : List Int) (a6 : List ((Int × ByteArray))) (a7 : Int) : call groatlaw23_RejectCodes.C Try.f9 groatlaw23_RejectCodes.code groatlaw23_RejectCodes.sg groatlaw23_RejectCodes.rs n (((a0, (a1, a2)), ((a3, a4), (a5, a6))), a7) =
  ((groatlaw23_awake.f ()).bind fun b0 =>
  (if ¬b0 = true then ((groatlaw23_awake.f ()).bind fun b1 =>
   (some (decide (b1 = true))))
  else ((groatref23_Great.f ((a0, a1, a2), (a3, a4), a5, a6)).bind fun b2 =>
   (if b2 = true then ((groatlaw23_awake.f ()).bind fun b3 =>
    (some (decide (b3 = true))))
   else ((groatref23_Copy.f ((a0, a1, a2), (a3, a4), a5, a6)).bind fun b4 =>
    ((reject_Code.f (b4, a7)).bind fun b5 =>
    ((groatref23_Code.f (((a0, a1, a2), (a3, a4), a5, a6), a7)).bind fun b6 =>
    (some (decide (b5 = b6)))))))))) := by kernel_rfl
theorem groatlaw23_RejectCodes.ok : CtxOk Try.prog groatlaw23_RejectCodes.C := ⟨AllOk.all (show AllOk groatlaw23_RejectCodes.C.G from ⟨groatlaw23_awake.con, groatref23_Great.con, groatref23_Copy.con, reject_Code.con, groatref23_Code.con, trivial⟩), fun c hc => absurd (show c ∈ ([] : List ConS) from hc) (by simp)⟩
theorem groatlaw23_RejectCodes.holds (x : RJ × Int) (w : Wf (sgTy groatlaw23_RejectCodes.sg) x) : ∃ n, call groatlaw23_RejectCodes.C Try.f9 groatlaw23_RejectCodes.code groatlaw23_RejectCodes.sg groatlaw23_RejectCodes.rs n x = some true := by
  obtain ⟨⟨⟨q1, q2, s⟩, ⟨c1, c2⟩, e, l⟩, n⟩ := x
  refine ⟨0, ?_⟩
  rw [groatlaw23_RejectCodes.eq]
  simp only [groatlaw23_awake.f, Option.bind_some, not_true_eq_false, if_false, groatref23_Great]
  cases g1 : greatR ((q1, q2, s), (c1, c2), e, l) with
  | true => simp
  | false =>
    obtain ⟨h1, h2, h3, h4⟩ := greatR_no g1
    dsimp only at h1 h2 h3
    rw [if_neg (by simp), groatref23_Copy _ (by dsimp only; omega) (by dsimp only; omega) (by dsimp only; omega), Option.bind_some, reject_Code _ _ _ l (by omega), Option.bind_some, groatref23_Code _ _ _ l (by omega), Option.bind_some]
    simp
end Go.Proofs.Ytkhmdcllookjkaa.Xe
