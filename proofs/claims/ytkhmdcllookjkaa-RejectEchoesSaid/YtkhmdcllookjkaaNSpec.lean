/- What the program's and the reference's functions on specs answer. -/
import Derived.Test.YtkhmdcllookjkaaNSpecE
import Derived.Test.YtkhmdcllookjkaaNTlvG
namespace Go.Proofs.Ytkhmdcllookjkaa.Sp
open Go Go.RowKit
set_option linter.unusedVariables false
set_option linter.unusedSimpArgs false
/-- What is wrong with a text as a spec's value; 0: nothing. -/
def specV (no c fo mi ma : Int) (l : List UInt8) : Int :=
  if specE no c fo mi ma ≠ 0 then 1 else if (l.length : Int) < mi ∨ ma < (l.length : Int) then 5 else if l.all (inC c) = false then 6 else if c = 6 ∧ tlvErr l ≠ 0 then 13 else 0
end Go.Proofs.Ytkhmdcllookjkaa.Sp
