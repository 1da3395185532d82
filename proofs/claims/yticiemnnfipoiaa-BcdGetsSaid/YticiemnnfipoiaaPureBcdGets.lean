/- BcdGets: in any bytes stand the digits that the document says, or it is told what is wrong, and where. No conditions beyond the statement's own. -/
import Derived.Test.YticiemnnfipoiaaBcd
import Derived.Test.YticiemnnfipoiaaR03g
import Derived.Test.YticiemnnfipoiaaWf
import Derived.Test.YticiemnnfipoiaaPx4
namespace Go.Proofs.Yticiemnnfipoiaa.Pure
open Go.RowKit Go.Proofs.Yticiemnnfipoiaa.P Go.Proofs.YticiemnnfipoiaaW.PrintWords Go.Proofs.YticiemnnfipoiaaW.PrintLast Go.Proofs.Yticiemnnfipoiaa.Sp
set_option linter.unusedVariables false
set_option linter.unusedSimpArgs false
theorem awake03 : groatlaw03_awake.f 30 = some true := by decide +kernel
theorem BcdGets : groatlaw03_BcdGets.Pure := by
  intro s n hs hn
  obtain ⟨l, rfl⟩ := ex_sb s
  rw [size_sb] at hs
  have hn := (wf_i64 hn).2
  have aw : ∀ k, 30 ≤ k → groatlaw03_awake.f k = some true := fun k hk => at_rounds groatlaw03_awake.mono hk awake03
  refine ⟨2200, ?_⟩
  unfold groatlaw03_BcdGets.f
  rw [aw _ (by omega), Option.bind_some, if_pos rfl]
  simp only [groatlaw03_BcdGets.j0]
  by_cases h1 : decide (((sb l).size : Int) > 2000) = true
  · rw [if_pos h1, aw _ (by omega)]; rfl
  · rw [if_neg h1, bcd_Get l n hn _ (by omega), Option.bind_some, ref03_Get l hs n hn _ (by omega), Option.bind_some]; simp
end Go.Proofs.Yticiemnnfipoiaa.Pure
