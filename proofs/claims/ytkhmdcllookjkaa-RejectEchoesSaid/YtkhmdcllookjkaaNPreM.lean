/- What the program's Most answers. -/
import Derived.Test.YtkhmdcllookjkaaNPreP
namespace Go.Proofs.Ytkhmdcllookjkaa.Sp
open Go Go.RowKit
set_option linter.unusedVariables false
set_option linter.unusedSimpArgs false
end Go.Proofs.Ytkhmdcllookjkaa.Sp
