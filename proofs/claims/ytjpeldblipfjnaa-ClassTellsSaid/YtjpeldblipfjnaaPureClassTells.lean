/- ClassTells: any byte is of just the classes that the document says. No conditions beyond the statement's own. -/
import Derived.Test.YtjpeldblipfjnaaCls
import Derived.Test.YtjpeldblipfjnaaWf
import Derived.Test.YtjpeldblipfjnaaPx6
namespace Go.Proofs.Ytjpeldblipfjnaa.Pure
open Go.RowKit Go.Proofs.Ytjpeldblipfjnaa.P Go.Proofs.YtjpeldblipfjnaaW.PrintWords Go.Proofs.YtjpeldblipfjnaaW.PrintLast Go.Proofs.Ytjpeldblipfjnaa.Sp
theorem awake04 : groatlaw04_awake.f 20 = some true := by decide +kernel
theorem ClassTells : groatlaw04_ClassTells.Pure := by
  intro c b hc hb
  obtain ⟨x, rfl⟩ := ex_u8 hb
  refine ⟨20, ?_⟩
  unfold groatlaw04_ClassTells.f class_Is.f
  rw [awake04, Option.bind_some, if_pos rfl, class_sets, Option.bind_some, class_of x _ (by decide), Option.bind_some, Option.bind_some, ref04_Is c x _ (by decide), Option.bind_some, class_Known, Option.bind_some, known_iff]
  have h := and_in c x
  have e : (Go.bits .and .i64 (setsC c) (ofN x.toNat) != 0) = inC c x := by
    rw [bne, ← Bool.not_not (inC c x), ← h]; rfl
  rw [e, beq_self_eq_true, if_pos rfl]
  by_cases h1 : c ≥ 1
  · rw [if_pos h1]
    have : decide (1 ≤ c ∧ c ≤ 6) = decide (c ≤ 6) := by rw [decide_eq_decide]; omega
    rw [this]; simp
  · rw [if_neg h1]
    have : decide (1 ≤ c ∧ c ≤ 6) = false := decide_eq_false (by omega)
    rw [this]; rfl
end Go.Proofs.Ytjpeldblipfjnaa.Pure
