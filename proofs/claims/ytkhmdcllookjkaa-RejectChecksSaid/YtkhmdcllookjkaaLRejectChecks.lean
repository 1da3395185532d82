/- The law on the check of a way to refuse. -/
import Derived.Test.YtkhmdcllookjkaaA23
import Derived.Test.YtkhmdcllookjkaaEr23c
import Derived.Test.YtkhmdcllookjkaaXop
namespace Go.Proofs.Ytkhmdcllookjkaa.Xe
open Go Go.RowKit Go.Proofs.Ytkhmdcllookjkaa.Sp
set_option linter.unusedVariables false
set_option linter.unusedSimpArgs false
set_option maxRecDepth 100000
/-! ### groatlaw23_RejectChecks -/
@[reducible] def groatlaw23_RejectChecks.sg : List Shp := [.a (.pair (.pair (.int .i64) (.pair (.int .i64) (.sl (.pair (.int .i64) (.pair (.int .i64) (.pair (.int .i64) (.pair (.int .i64) (.int .i64)))))))) (.pair (.pair (.sl (.pair (.str) (.str))) (.sl (.pair (.int .i64) (.pair (.int .i64) (.pair (.int .i64) (.pair (.str) (.sl (.pair (.str) (.str))))))))) (.pair (.sl (.int .i64)) (.sl (.pair (.int .i64) (.str))))))]
@[reducible] def groatlaw23_RejectChecks.rs : Rs := .one (.v (.bool))
@[reducible] noncomputable def groatlaw23_RejectChecks.code : Code := Try.f8.body.getD .skip
noncomputable def groatlaw23_RejectChecks.C : Ctx := ⟨tab, [groatlaw23_awake.c, groatref23_Great.c, reject_Check.c, groatref23_Copy.c, groatref23_Check.c], [], ⟨[], []⟩⟩
theorem groatlaw23_RejectChecks.eq (n : Nat) (a0 : Int) (a1 : Int) (a2 : List ((Int × (Int × (Int × (Int × Int)))))) (a3 : List ((ByteArray × ByteArray))) (a4 : List ((Int × (Int × (Int × (ByteArray × List ((ByteArray × ByteArray)))))))) (a5 : List Int) (a6 : List ((Int × ByteArray))) : call groatlaw23_RejectChecks.C Try.f8 groatlaw23_RejectChecks.code groatlaw23_RejectChecks.sg groatlaw23_RejectChecks.rs n ((a0, (a1, a2)), ((a3, a4), (a5, a6))) =
  ((groatlaw23_awake.f ()).bind fun b0 =>
  (if ¬b0 = true then ((groatlaw23_awake.f ()).bind fun b1 =>
   (some (decide (b1 = true))))
  else ((groatref23_Great.f ((a0, a1, a2), (a3, a4), a5, a6)).bind fun b2 =>
   (if b2 = true then ((groatlaw23_awake.f ()).bind fun b3 =>
    (some (decide (b3 = true))))
   else ((groatref23_Copy.f ((a0, a1, a2), (a3, a4), a5, a6)).bind fun b4 =>
    ((reject_Check.f b4).bind fun b5 =>
    ((groatref23_Check.f ((a0, a1, a2), (a3, a4), a5, a6)).bind fun b6 =>
    (if Prod.fst b5 = Prod.fst b6 then (if Prod.fst (Prod.snd b5) = Prod.fst (Prod.snd b6) then (some (decide (Prod.snd (Prod.snd b5) = Prod.snd (Prod.snd b6))))
     else (some false))
    else (some false))))))))) := by kernel_rfl
theorem groatlaw23_RejectChecks.ok : CtxOk Try.prog groatlaw23_RejectChecks.C := ⟨AllOk.all (show AllOk groatlaw23_RejectChecks.C.G from ⟨groatlaw23_awake.con, groatref23_Great.con, reject_Check.con, groatref23_Copy.con, groatref23_Check.con, trivial⟩), fun c hc => absurd (show c ∈ ([] : List ConS) from hc) (by simp)⟩
theorem okM_greatR {x : RJ} (h : greatR x = false) : x.1.2.2.length ≤ 1000000 ∧ x.2.2.1.length ≤ 1000000 ∧ okM x.2.2.2 := by
  obtain ⟨h1, h2, h3, h4⟩ := greatR_no h
  exact ⟨by omega, by omega, by omega, fun v hv => by have := h4 v hv; omega⟩
theorem groatlaw23_RejectChecks.holds (x : RJ) (w : Wf (sgTy groatlaw23_RejectChecks.sg) x) : ∃ n, call groatlaw23_RejectChecks.C Try.f8 groatlaw23_RejectChecks.code groatlaw23_RejectChecks.sg groatlaw23_RejectChecks.rs n x = some true := by
  obtain ⟨⟨q1, q2, s⟩, ⟨c1, c2⟩, e, l⟩ := x
  refine ⟨0, ?_⟩
  rw [groatlaw23_RejectChecks.eq]
  simp only [groatlaw23_awake.f, Option.bind_some, not_true_eq_false, if_false, groatref23_Great]
  cases g1 : greatR ((q1, q2, s), (c1, c2), e, l) with
  | true => simp
  | false =>
    have ho := okM_greatR g1
    obtain ⟨h1, h2, h3, h4⟩ := greatR_no g1
    dsimp only at h1 h2 h3
    rw [if_neg (by simp), groatref23_Copy _ (by dsimp only; omega) (by dsimp only; omega) (by dsimp only; omega), Option.bind_some, reject_Check _ ho, Option.bind_some, groatref23_Check _ ho, Option.bind_some]
    simp
end Go.Proofs.Ytkhmdcllookjkaa.Xe
