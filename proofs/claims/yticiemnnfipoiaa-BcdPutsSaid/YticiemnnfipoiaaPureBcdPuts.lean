/- BcdPuts: any text is packed as the document says, or not. No conditions beyond the statement's own. -/
import Derived.Test.YticiemnnfipoiaaBcd
import Derived.Test.YticiemnnfipoiaaR03p
import Derived.Test.YticiemnnfipoiaaPx3
namespace Go.Proofs.Yticiemnnfipoiaa.Pure
open Go.RowKit Go.Proofs.Yticiemnnfipoiaa.P Go.Proofs.YticiemnnfipoiaaW.PrintWords Go.Proofs.YticiemnnfipoiaaW.PrintLast Go.Proofs.Yticiemnnfipoiaa.Sp
set_option linter.unusedVariables false
set_option linter.unusedSimpArgs false
theorem awake03 : groatlaw03_awake.f 30 = some true := by decide +kernel
theorem BcdPuts : groatlaw03_BcdPuts.Pure := by
  intro s hs
  obtain ⟨l, rfl⟩ := ex_sb s
  rw [size_sb] at hs
  have aw : ∀ k, 30 ≤ k → groatlaw03_awake.f k = some true := fun k hk => at_rounds groatlaw03_awake.mono hk awake03
  refine ⟨l.length + 1060, ?_⟩
  unfold groatlaw03_BcdPuts.f
  rw [aw _ (by omega), Option.bind_some, if_pos rfl]
  simp only [groatlaw03_BcdPuts.j0]
  by_cases h1 : decide (((sb l).size : Int) > 2000) = true
  · rw [if_pos h1, aw _ (by omega)]; rfl
  · rw [if_neg h1, bcd_Put l hs _ (by omega), Option.bind_some, ref03_Put l hs _ (by omega), Option.bind_some]; simp
end Go.Proofs.Yticiemnnfipoiaa.Pure
