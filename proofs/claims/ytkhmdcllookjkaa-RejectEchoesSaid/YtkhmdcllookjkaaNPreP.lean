/- What the program's Put on lengths answers. -/
import Derived.Test.YtkhmdcllookjkaaNPreS
import Derived.Test.YtkhmdcllookjkaaNBcd
namespace Go.Proofs.Ytkhmdcllookjkaa.Sp
open Go Go.RowKit
set_option linter.unusedVariables false
set_option linter.unusedSimpArgs false
end Go.Proofs.Ytkhmdcllookjkaa.Sp
