/- PrefixGets: at any place of any bytes stands, by any style and form, the length that the document says, or none, for the reason that it says. No conditions beyond the statement's own. -/
import Derived.Test.YticiemnnfipoiaaPreG
import Derived.Test.YticiemnnfipoiaaR07g
import Derived.Test.YticiemnnfipoiaaPx8
namespace Go.Proofs.Yticiemnnfipoiaa.Pure
open Go.RowKit Go.Proofs.Yticiemnnfipoiaa.P Go.Proofs.YticiemnnfipoiaaW.PrintWords Go.Proofs.YticiemnnfipoiaaW.PrintLast Go.Proofs.Yticiemnnfipoiaa.Sp
theorem awake07 : groatlaw07_awake.f 30 = some true := by decide +kernel
theorem PrefixGets : groatlaw07_PrefixGets.Pure := by
  intro h s a _ hs _
  obtain ⟨l, rfl⟩ := ex_sb s
  rw [size_sb] at hs
  have aw : ∀ k, 30 ≤ k → groatlaw07_awake.f k = some true := fun k hk => at_rounds groatlaw07_awake.mono hk awake07
  refine ⟨2300, ?_⟩
  unfold groatlaw07_PrefixGets.f
  rw [aw _ (by omega), Option.bind_some, if_pos rfl]
  simp only [groatlaw07_PrefixGets.j0]
  by_cases h1 : decide (((sb l).size : Int) > 500) = true
  · rw [if_pos h1, aw _ (by omega)]; rfl
  · rw [if_neg h1, prefix_Get _ _ l hs a _ (by omega), Option.bind_some, ref07_Get _ _ l hs a _ (by omega), Option.bind_some]; simp
end Go.Proofs.Yticiemnnfipoiaa.Pure
