/- groatlaw12: its awake. -/
import Derived.Test.YtfaeodcapagjbaaCell
import Derived.Test.YtfaeodcapagjbaaPx9
namespace Go.Proofs.Ytfaeodcapagjbaa.Sp
open Go.RowKit Go.Proofs.YtfaeodcapagjbaaW.PrintWords Go.Proofs.YtfaeodcapagjbaaW.PrintLast Go.Proofs.YtfaeodcapagjbaaW.PrintMore Go.Proofs.Ytfaeodcapagjbaa.P
theorem awake12 : groatlaw12_awake.f 60 = some true := by decide +kernel
end Go.Proofs.Ytfaeodcapagjbaa.Sp
