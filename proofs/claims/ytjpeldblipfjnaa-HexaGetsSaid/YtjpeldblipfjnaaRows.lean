/-
  No cell of these rows narrows 'for every input' (looked for: loops, veiled, ifaces, maps, wideKeys, modest, calm, conditions, laid).
  DERIVED. THE GIVEN ROWS OF THIS SEAT. 10 by the template 'for every input the law returns true; each argument reads behind the call as it read before'; 0 by the template 'total and deterministic' (their statements: YtjpeldblipfjnaaTotals.lean).
  GIVEN WITH THE SEED: the statements are not yours to turn. If you find one false, say at which input.
  Laid BY PROGRAM, IN A SANDBOX (cutbox-rows.mjs): the forced cells as the released guide's own fill.sh prints them over the translation 614190ecf4b8429d… (all of the seat's roots in one cut). By AI agents, Wed Nov 11 2026. No macro, syntax, notation, axiom, sorry.
-/
import Derived.Test.YtjpeldblipfjnaaChecked
import GoSem.Claim
import GoSem.ClaimJoined
import GoSem.ClaimMapViews
import Derived.JoinedTies
import Derived.KernelRfl
namespace Go.Proofs.Ytjpeldblipfjnaa
/- THE CELL 'sum', in the pinned program and in every row, IS THE sha256 OF THE DUMP (.gsa) THAT YtjpeldblipfjnaaProg.lean LOADS. Nothing in Lean hashes anything: it is a label: what it is worth is what the hold of that sum in a sandbox is worth. -/
noncomputable def Try.pinned : Pinned := { name := "ytjpeldblipfjnaa", sum := "614190ecf4b8429d947faa6d8a7093dc85f815b6be13dffe59163573c4b0ea17", checked := Try.checked }
namespace Rows
def none {H : Type} : Left H := { results := [], args := [] }

/-- 'groatlaw02.HexaDigits': WHATEVER THE INPUT: true; the input reads as it did. -/
def hexaDigitsSpec : ChangeSpec := { name := "hexaDigits", fn := fun _ => fun
  | [d] => { results := [.lit (.bool true)], args := [d] }
  | _ => none }
def hexaDigitsRow : OpenClaim := { program := "ytjpeldblipfjnaa", sum := "614190ecf4b8429d947faa6d8a7093dc85f815b6be13dffe59163573c4b0ea17", func := "groat/groatlaw02.HexaDigits", spec := "hexaDigits", apart := false }
def HexaDigitsSaid : Prop := hexaDigitsRow.holds Try.pinned (OpenSpec.ofChange hexaDigitsSpec)

/-- ITS FALSE NEIGHBOUR: 'it returns false'. Refute it at one input. -/
def hexaDigitsWrong : ChangeSpec := { name := "hexaDigits", fn := fun _ => fun
  | [d] => { results := [.lit (.bool false)], args := [d] }
  | _ => none }
def HexaDigitsWrongFalsely : Prop := hexaDigitsRow.holds Try.pinned (OpenSpec.ofChange hexaDigitsWrong)

/-- 'groatlaw02.HexaGets': WHATEVER THE INPUT: true; the input reads as it did. -/
def hexaGetsSpec : ChangeSpec := { name := "hexaGets", fn := fun _ => fun
  | [d] => { results := [.lit (.bool true)], args := [d] }
  | _ => none }
def hexaGetsRow : OpenClaim := { program := "ytjpeldblipfjnaa", sum := "614190ecf4b8429d947faa6d8a7093dc85f815b6be13dffe59163573c4b0ea17", func := "groat/groatlaw02.HexaGets", spec := "hexaGets", apart := false }
def HexaGetsSaid : Prop := hexaGetsRow.holds Try.pinned (OpenSpec.ofChange hexaGetsSpec)

/-- ITS FALSE NEIGHBOUR: 'it returns false'. Refute it at one input. -/
def hexaGetsWrong : ChangeSpec := { name := "hexaGets", fn := fun _ => fun
  | [d] => { results := [.lit (.bool false)], args := [d] }
  | _ => none }
def HexaGetsWrongFalsely : Prop := hexaGetsRow.holds Try.pinned (OpenSpec.ofChange hexaGetsWrong)

/-- 'groatlaw02.HexaBack': WHATEVER THE INPUT: true; the input reads as it did. -/
def hexaBackSpec : ChangeSpec := { name := "hexaBack", fn := fun _ => fun
  | [d] => { results := [.lit (.bool true)], args := [d] }
  | _ => none }
def hexaBackRow : OpenClaim := { program := "ytjpeldblipfjnaa", sum := "614190ecf4b8429d947faa6d8a7093dc85f815b6be13dffe59163573c4b0ea17", func := "groat/groatlaw02.HexaBack", spec := "hexaBack", apart := false }
def HexaBackSaid : Prop := hexaBackRow.holds Try.pinned (OpenSpec.ofChange hexaBackSpec)

/-- ITS FALSE NEIGHBOUR: 'it returns false'. Refute it at one input. -/
def hexaBackWrong : ChangeSpec := { name := "hexaBack", fn := fun _ => fun
  | [d] => { results := [.lit (.bool false)], args := [d] }
  | _ => none }
def HexaBackWrongFalsely : Prop := hexaBackRow.holds Try.pinned (OpenSpec.ofChange hexaBackWrong)

/-- 'groatlaw02.HexaOne': WHATEVER THE INPUT: true; the input reads as it did. -/
def hexaOneSpec : ChangeSpec := { name := "hexaOne", fn := fun _ => fun
  | [d] => { results := [.lit (.bool true)], args := [d] }
  | _ => none }
def hexaOneRow : OpenClaim := { program := "ytjpeldblipfjnaa", sum := "614190ecf4b8429d947faa6d8a7093dc85f815b6be13dffe59163573c4b0ea17", func := "groat/groatlaw02.HexaOne", spec := "hexaOne", apart := false }
def HexaOneSaid : Prop := hexaOneRow.holds Try.pinned (OpenSpec.ofChange hexaOneSpec)

/-- ITS FALSE NEIGHBOUR: 'it returns false'. Refute it at one input. -/
def hexaOneWrong : ChangeSpec := { name := "hexaOne", fn := fun _ => fun
  | [d] => { results := [.lit (.bool false)], args := [d] }
  | _ => none }
def HexaOneWrongFalsely : Prop := hexaOneRow.holds Try.pinned (OpenSpec.ofChange hexaOneWrong)

/-- 'groatlaw02.HexaParts': WHATEVER THE INPUT: true; the input reads as it did. -/
def hexaPartsSpec : ChangeSpec := { name := "hexaParts", fn := fun _ => fun
  | [d1, d2] => { results := [.lit (.bool true)], args := [d1, d2] }
  | _ => none }
def hexaPartsRow : OpenClaim := { program := "ytjpeldblipfjnaa", sum := "614190ecf4b8429d947faa6d8a7093dc85f815b6be13dffe59163573c4b0ea17", func := "groat/groatlaw02.HexaParts", spec := "hexaParts", apart := false }
def HexaPartsSaid : Prop := hexaPartsRow.holds Try.pinned (OpenSpec.ofChange hexaPartsSpec)

/-- ITS FALSE NEIGHBOUR: 'it returns false'. Refute it at one input. -/
def hexaPartsWrong : ChangeSpec := { name := "hexaParts", fn := fun _ => fun
  | [d1, d2] => { results := [.lit (.bool false)], args := [d1, d2] }
  | _ => none }
def HexaPartsWrongFalsely : Prop := hexaPartsRow.holds Try.pinned (OpenSpec.ofChange hexaPartsWrong)

/-- 'groatlaw04.ClassFirst': WHATEVER THE INPUT: true; the input reads as it did. -/
def classFirstSpec : ChangeSpec := { name := "classFirst", fn := fun _ => fun
  | [d1, d2] => { results := [.lit (.bool true)], args := [d1, d2] }
  | _ => none }
def classFirstRow : OpenClaim := { program := "ytjpeldblipfjnaa", sum := "614190ecf4b8429d947faa6d8a7093dc85f815b6be13dffe59163573c4b0ea17", func := "groat/groatlaw04.ClassFirst", spec := "classFirst", apart := false }
def ClassFirstSaid : Prop := classFirstRow.holds Try.pinned (OpenSpec.ofChange classFirstSpec)

/-- ITS FALSE NEIGHBOUR: 'it returns false'. Refute it at one input. -/
def classFirstWrong : ChangeSpec := { name := "classFirst", fn := fun _ => fun
  | [d1, d2] => { results := [.lit (.bool false)], args := [d1, d2] }
  | _ => none }
def ClassFirstWrongFalsely : Prop := classFirstRow.holds Try.pinned (OpenSpec.ofChange classFirstWrong)

/-- 'groatlaw04.ClassWider': WHATEVER THE INPUT: true; the input reads as it did. -/
def classWiderSpec : ChangeSpec := { name := "classWider", fn := fun _ => fun
  | [d1, d2] => { results := [.lit (.bool true)], args := [d1, d2] }
  | _ => none }
def classWiderRow : OpenClaim := { program := "ytjpeldblipfjnaa", sum := "614190ecf4b8429d947faa6d8a7093dc85f815b6be13dffe59163573c4b0ea17", func := "groat/groatlaw04.ClassWider", spec := "classWider", apart := false }
def ClassWiderSaid : Prop := classWiderRow.holds Try.pinned (OpenSpec.ofChange classWiderSpec)

/-- ITS FALSE NEIGHBOUR: 'it returns false'. Refute it at one input. -/
def classWiderWrong : ChangeSpec := { name := "classWider", fn := fun _ => fun
  | [d1, d2] => { results := [.lit (.bool false)], args := [d1, d2] }
  | _ => none }
def ClassWiderWrongFalsely : Prop := classWiderRow.holds Try.pinned (OpenSpec.ofChange classWiderWrong)

/-- 'groatlaw04.ClassKeeps': WHATEVER THE INPUT: true; the input reads as it did. -/
def classKeepsSpec : ChangeSpec := { name := "classKeeps", fn := fun _ => fun
  | [d1, d2, d3] => { results := [.lit (.bool true)], args := [d1, d2, d3] }
  | _ => none }
def classKeepsRow : OpenClaim := { program := "ytjpeldblipfjnaa", sum := "614190ecf4b8429d947faa6d8a7093dc85f815b6be13dffe59163573c4b0ea17", func := "groat/groatlaw04.ClassKeeps", spec := "classKeeps", apart := false }
def ClassKeepsSaid : Prop := classKeepsRow.holds Try.pinned (OpenSpec.ofChange classKeepsSpec)

/-- ITS FALSE NEIGHBOUR: 'it returns false'. Refute it at one input. -/
def classKeepsWrong : ChangeSpec := { name := "classKeeps", fn := fun _ => fun
  | [d1, d2, d3] => { results := [.lit (.bool false)], args := [d1, d2, d3] }
  | _ => none }
def ClassKeepsWrongFalsely : Prop := classKeepsRow.holds Try.pinned (OpenSpec.ofChange classKeepsWrong)

/-- 'groatlaw04.ClassParts': WHATEVER THE INPUT: true; the input reads as it did. -/
def classPartsSpec : ChangeSpec := { name := "classParts", fn := fun _ => fun
  | [d1, d2, d3] => { results := [.lit (.bool true)], args := [d1, d2, d3] }
  | _ => none }
def classPartsRow : OpenClaim := { program := "ytjpeldblipfjnaa", sum := "614190ecf4b8429d947faa6d8a7093dc85f815b6be13dffe59163573c4b0ea17", func := "groat/groatlaw04.ClassParts", spec := "classParts", apart := false }
def ClassPartsSaid : Prop := classPartsRow.holds Try.pinned (OpenSpec.ofChange classPartsSpec)

/-- ITS FALSE NEIGHBOUR: 'it returns false'. Refute it at one input. -/
def classPartsWrong : ChangeSpec := { name := "classParts", fn := fun _ => fun
  | [d1, d2, d3] => { results := [.lit (.bool false)], args := [d1, d2, d3] }
  | _ => none }
def ClassPartsWrongFalsely : Prop := classPartsRow.holds Try.pinned (OpenSpec.ofChange classPartsWrong)

/-- 'groatlaw04.ClassTells': WHATEVER THE INPUT: true; the input reads as it did. -/
def classTellsSpec : ChangeSpec := { name := "classTells", fn := fun _ => fun
  | [d1, d2] => { results := [.lit (.bool true)], args := [d1, d2] }
  | _ => none }
def classTellsRow : OpenClaim := { program := "ytjpeldblipfjnaa", sum := "614190ecf4b8429d947faa6d8a7093dc85f815b6be13dffe59163573c4b0ea17", func := "groat/groatlaw04.ClassTells", spec := "classTells", apart := false }
def ClassTellsSaid : Prop := classTellsRow.holds Try.pinned (OpenSpec.ofChange classTellsSpec)

/-- ITS FALSE NEIGHBOUR: 'it returns false'. Refute it at one input. -/
def classTellsWrong : ChangeSpec := { name := "classTells", fn := fun _ => fun
  | [d1, d2] => { results := [.lit (.bool false)], args := [d1, d2] }
  | _ => none }
def ClassTellsWrongFalsely : Prop := classTellsRow.holds Try.pinned (OpenSpec.ofChange classTellsWrong)

/- THE SECOND FORM. 'bulk': how many values and letters a reading holds, each counted each time it is reached (what is shared counts as often as it is met; a slice's spare places count too). A statement '..UptoSaid' is the law's where the arguments, and the package variables that the reading takes, are together of bulk at most 1048576: NARROWER than '..Said'. Prove '..Said' where nothing that the law and all that it calls make is longer than what came in: it says more and counts as full. Else prove '..UptoSaid'. A law counts once. -/
mutual
def uptoBulk {H : Type} : DataW H → Nat
  | .lit (.string bytes) => bytes.length + 1
  | .lit _ => 1
  | .nil => 1
  | .ptr d => uptoBulk d + 1
  | .slice elems spare => uptoBulkAll elems + uptoBulkAll spare + 1
  | .agg parts => uptoBulkAll parts + 1
  | .iface _ d => uptoBulk d + 1
  | .map entries => uptoBulkEntries entries + 1
  | .held _ => 1
def uptoBulkAll {H : Type} : List (DataW H) → Nat
  | [] => 0
  | d :: r => uptoBulk d + uptoBulkAll r
def uptoBulkEntries {H : Type} : List (Lit × DataW H) → Nat
  | [] => 0
  | x :: r => uptoBulkEntry x + uptoBulkEntries r
def uptoBulkEntry {H : Type} : Lit × DataW H → Nat
  | (.string bytes, d) => bytes.length + uptoBulk d + 1
  | (_, d) => uptoBulk d + 1
 end
def uptoSmall : (H : Type) → List (DataW H) → Bool := fun _ ds => decide (uptoBulkAll ds ≤ 1048576)
def OpenSpec.upto (s : _root_.Go.ChangeSpec) : _root_.Go.OpenSpec := { _root_.Go.OpenSpec.ofChange s with cond := some uptoSmall }

/-- 'groatlaw02.HexaDigits', WHERE WHAT IT READS IS OF BULK AT MOST 1048576: true; the input reads as it did. -/
def hexaDigitsUptoRow : OpenClaim := { program := "ytjpeldblipfjnaa", sum := "614190ecf4b8429d947faa6d8a7093dc85f815b6be13dffe59163573c4b0ea17", func := "groat/groatlaw02.HexaDigits", spec := "hexaDigits", apart := false, narrowed := true }
def HexaDigitsUptoSaid : Prop := hexaDigitsUptoRow.holds Try.pinned (OpenSpec.upto hexaDigitsSpec)

/-- 'groatlaw02.HexaGets', WHERE WHAT IT READS IS OF BULK AT MOST 1048576: true; the input reads as it did. -/
def hexaGetsUptoRow : OpenClaim := { program := "ytjpeldblipfjnaa", sum := "614190ecf4b8429d947faa6d8a7093dc85f815b6be13dffe59163573c4b0ea17", func := "groat/groatlaw02.HexaGets", spec := "hexaGets", apart := false, narrowed := true }
def HexaGetsUptoSaid : Prop := hexaGetsUptoRow.holds Try.pinned (OpenSpec.upto hexaGetsSpec)

/-- 'groatlaw02.HexaBack', WHERE WHAT IT READS IS OF BULK AT MOST 1048576: true; the input reads as it did. -/
def hexaBackUptoRow : OpenClaim := { program := "ytjpeldblipfjnaa", sum := "614190ecf4b8429d947faa6d8a7093dc85f815b6be13dffe59163573c4b0ea17", func := "groat/groatlaw02.HexaBack", spec := "hexaBack", apart := false, narrowed := true }
def HexaBackUptoSaid : Prop := hexaBackUptoRow.holds Try.pinned (OpenSpec.upto hexaBackSpec)

/-- 'groatlaw02.HexaOne', WHERE WHAT IT READS IS OF BULK AT MOST 1048576: true; the input reads as it did. -/
def hexaOneUptoRow : OpenClaim := { program := "ytjpeldblipfjnaa", sum := "614190ecf4b8429d947faa6d8a7093dc85f815b6be13dffe59163573c4b0ea17", func := "groat/groatlaw02.HexaOne", spec := "hexaOne", apart := false, narrowed := true }
def HexaOneUptoSaid : Prop := hexaOneUptoRow.holds Try.pinned (OpenSpec.upto hexaOneSpec)

/-- 'groatlaw02.HexaParts', WHERE WHAT IT READS IS OF BULK AT MOST 1048576: true; the input reads as it did. -/
def hexaPartsUptoRow : OpenClaim := { program := "ytjpeldblipfjnaa", sum := "614190ecf4b8429d947faa6d8a7093dc85f815b6be13dffe59163573c4b0ea17", func := "groat/groatlaw02.HexaParts", spec := "hexaParts", apart := false, narrowed := true }
def HexaPartsUptoSaid : Prop := hexaPartsUptoRow.holds Try.pinned (OpenSpec.upto hexaPartsSpec)

/-- 'groatlaw04.ClassFirst', WHERE WHAT IT READS IS OF BULK AT MOST 1048576: true; the input reads as it did. -/
def classFirstUptoRow : OpenClaim := { program := "ytjpeldblipfjnaa", sum := "614190ecf4b8429d947faa6d8a7093dc85f815b6be13dffe59163573c4b0ea17", func := "groat/groatlaw04.ClassFirst", spec := "classFirst", apart := false, narrowed := true }
def ClassFirstUptoSaid : Prop := classFirstUptoRow.holds Try.pinned (OpenSpec.upto classFirstSpec)

/-- 'groatlaw04.ClassWider', WHERE WHAT IT READS IS OF BULK AT MOST 1048576: true; the input reads as it did. -/
def classWiderUptoRow : OpenClaim := { program := "ytjpeldblipfjnaa", sum := "614190ecf4b8429d947faa6d8a7093dc85f815b6be13dffe59163573c4b0ea17", func := "groat/groatlaw04.ClassWider", spec := "classWider", apart := false, narrowed := true }
def ClassWiderUptoSaid : Prop := classWiderUptoRow.holds Try.pinned (OpenSpec.upto classWiderSpec)

/-- 'groatlaw04.ClassKeeps', WHERE WHAT IT READS IS OF BULK AT MOST 1048576: true; the input reads as it did. -/
def classKeepsUptoRow : OpenClaim := { program := "ytjpeldblipfjnaa", sum := "614190ecf4b8429d947faa6d8a7093dc85f815b6be13dffe59163573c4b0ea17", func := "groat/groatlaw04.ClassKeeps", spec := "classKeeps", apart := false, narrowed := true }
def ClassKeepsUptoSaid : Prop := classKeepsUptoRow.holds Try.pinned (OpenSpec.upto classKeepsSpec)

/-- 'groatlaw04.ClassParts', WHERE WHAT IT READS IS OF BULK AT MOST 1048576: true; the input reads as it did. -/
def classPartsUptoRow : OpenClaim := { program := "ytjpeldblipfjnaa", sum := "614190ecf4b8429d947faa6d8a7093dc85f815b6be13dffe59163573c4b0ea17", func := "groat/groatlaw04.ClassParts", spec := "classParts", apart := false, narrowed := true }
def ClassPartsUptoSaid : Prop := classPartsUptoRow.holds Try.pinned (OpenSpec.upto classPartsSpec)

/-- 'groatlaw04.ClassTells', WHERE WHAT IT READS IS OF BULK AT MOST 1048576: true; the input reads as it did. -/
def classTellsUptoRow : OpenClaim := { program := "ytjpeldblipfjnaa", sum := "614190ecf4b8429d947faa6d8a7093dc85f815b6be13dffe59163573c4b0ea17", func := "groat/groatlaw04.ClassTells", spec := "classTells", apart := false, narrowed := true }
def ClassTellsUptoSaid : Prop := classTellsUptoRow.holds Try.pinned (OpenSpec.upto classTellsSpec)

end Rows
end Go.Proofs.Ytjpeldblipfjnaa
