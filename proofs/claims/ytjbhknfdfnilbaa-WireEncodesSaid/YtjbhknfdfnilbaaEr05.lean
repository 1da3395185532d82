/- What the reference's functions on sets of fields answer. -/
import Derived.Test.YtjbhknfdfnilbaaEr05h
namespace Go.Proofs.Ytjbhknfdfnilbaa.Xe
open Go Go.RowKit Go.Proofs.Ytjbhknfdfnilbaa.Sp
set_option linter.unusedVariables false
set_option linter.unusedSimpArgs false
set_option maxRecDepth 100000
def flst (h l : Nat) : List Int := lst (fun n => fhas h l (n : Int)) 1 128
end Go.Proofs.Ytjbhknfdfnilbaa.Xe
