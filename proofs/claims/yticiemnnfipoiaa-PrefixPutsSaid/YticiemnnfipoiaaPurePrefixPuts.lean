/- PrefixPuts: any length has, by any style and form, the bytes that the document says, or none, for the reason that it says. No conditions beyond the statement's own. -/
import Derived.Test.YticiemnnfipoiaaPreP
import Derived.Test.YticiemnnfipoiaaR07p
import Derived.Test.YticiemnnfipoiaaWf
import Derived.Test.YticiemnnfipoiaaPx7
namespace Go.Proofs.Yticiemnnfipoiaa.Pure
open Go.RowKit Go.Proofs.Yticiemnnfipoiaa.P Go.Proofs.YticiemnnfipoiaaW.PrintWords Go.Proofs.YticiemnnfipoiaaW.PrintLast Go.Proofs.Yticiemnnfipoiaa.Sp
theorem awake07 : groatlaw07_awake.f 30 = some true := by decide +kernel
theorem PrefixPuts : groatlaw07_PrefixPuts.Pure := by
  intro s f n hs hf hn
  have hn := (wf_i64 hn).2
  refine ⟨1200, ?_⟩
  unfold groatlaw07_PrefixPuts.f
  rw [prefix_Put s f n hn _ (by omega), Option.bind_some, ref07_Put s f n hn _ (by omega), Option.bind_some, at_rounds groatlaw07_awake.mono (by decide : 30 ≤ 1200) awake07]
  simp
end Go.Proofs.Yticiemnnfipoiaa.Pure
