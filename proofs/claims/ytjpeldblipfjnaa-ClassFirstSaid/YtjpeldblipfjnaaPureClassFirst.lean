/- ClassFirst: of any text the first byte that isn't of a class is told, or that all are. No conditions beyond the statement's own. -/
import Derived.Test.YtjpeldblipfjnaaCls
import Derived.Test.YtjpeldblipfjnaaPx5
namespace Go.Proofs.Ytjpeldblipfjnaa.Pure
open Go.RowKit Go.Proofs.Ytjpeldblipfjnaa.P Go.Proofs.YtjpeldblipfjnaaW.PrintWords Go.Proofs.YtjpeldblipfjnaaW.PrintLast Go.Proofs.Ytjpeldblipfjnaa.Sp
theorem awake04 : groatlaw04_awake.f 20 = some true := by decide +kernel
theorem ClassFirst : groatlaw04_ClassFirst.Pure := by
  intro c s hc hs
  obtain ⟨l, rfl⟩ := ex_sb s
  rw [size_sb] at hs
  refine ⟨l.length + 30, ?_⟩
  have aw : ∀ k, 20 ≤ k → groatlaw04_awake.f k = some true := fun k hk => at_rounds groatlaw04_awake.mono hk awake04
  unfold groatlaw04_ClassFirst.f
  rw [aw _ (by omega), Option.bind_some, if_pos rfl]
  simp only [groatlaw04_ClassFirst.j0]
  by_cases h1 : decide (((sb l).size : Int) > 2000) = true
  · rw [if_pos h1, aw _ (by omega)]; rfl
  · rw [if_neg h1, class_First c l hs _ (by omega), ref04_First c l hs _ (by omega)]; simp
end Go.Proofs.Ytjpeldblipfjnaa.Pure
