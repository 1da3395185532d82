/- SpecChecks: any spec may stand in a schema, or not, for the reason that the document says. -/
import Derived.Test.YtfaeodcapagjbaaSpecW
import Derived.Test.YtfaeodcapagjbaaPx7
namespace Go.Proofs.Ytfaeodcapagjbaa.Pure
open Go.RowKit Go.Proofs.Ytfaeodcapagjbaa.P Go.Proofs.YtfaeodcapagjbaaW.PrintWords Go.Proofs.YtfaeodcapagjbaaW.PrintLast Go.Proofs.Ytfaeodcapagjbaa.Sp
set_option linter.unusedVariables false
set_option linter.unusedSimpArgs false
theorem SpecChecks : groatlaw11_SpecChecks.Pure := by
  intro s hs
  refine ⟨60, ?_⟩
  unfold groatlaw11_SpecChecks.f
  rw [awake11, spec_Check _ _ _ _ _ _ (by decide), ref11_Check _ _ _ _ _ _ (by decide)]
  simp
end Go.Proofs.Ytfaeodcapagjbaa.Pure
