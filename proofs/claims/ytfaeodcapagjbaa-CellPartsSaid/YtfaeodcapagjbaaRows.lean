/-
  No cell of these rows narrows 'for every input' (looked for: loops, veiled, ifaces, maps, wideKeys, modest, calm, conditions, laid).
  DERIVED. THE GIVEN ROWS OF THIS SEAT. 10 by the template 'for every input the law returns true; each argument reads behind the call as it read before'; 0 by the template 'total and deterministic' (their statements: YtfaeodcapagjbaaTotals.lean).
  GIVEN WITH THE SEED: the statements are not yours to turn. If you find one false, say at which input.
  Laid BY PROGRAM, IN A SANDBOX (cutbox-rows.mjs): the forced cells as the released guide's own fill.sh prints them over the translation 37e3d6f3698da32b… (all of the seat's roots in one cut). By AI agents, Wed Nov 11 2026. No macro, syntax, notation, axiom, sorry.
-/
import Derived.Test.YtfaeodcapagjbaaChecked
import GoSem.Claim
import GoSem.ClaimJoined
import GoSem.ClaimMapViews
import Derived.JoinedTies
import Derived.KernelRfl
namespace Go.Proofs.Ytfaeodcapagjbaa
/- THE CELL 'sum', in the pinned program and in every row, IS THE sha256 OF THE DUMP (.gsa) THAT YtfaeodcapagjbaaProg.lean LOADS. Nothing in Lean hashes anything: it is a label: what it is worth is what the hold of that sum in a sandbox is worth. -/
noncomputable def Try.pinned : Pinned := { name := "ytfaeodcapagjbaa", sum := "37e3d6f3698da32b57943e1473640589d3eb9bb3dd2542bbb5772d7329c3ad1e", checked := Try.checked }
namespace Rows
def none {H : Type} : Left H := { results := [], args := [] }

/-- 'groatlaw11.SpecChecks': WHATEVER THE INPUT: true; the input reads as it did. -/
def specChecksSpec : ChangeSpec := { name := "specChecks", fn := fun _ => fun
  | [d] => { results := [.lit (.bool true)], args := [d] }
  | _ => none }
def specChecksRow : OpenClaim := { program := "ytfaeodcapagjbaa", sum := "37e3d6f3698da32b57943e1473640589d3eb9bb3dd2542bbb5772d7329c3ad1e", func := "groat/groatlaw11.SpecChecks", spec := "specChecks", apart := false }
def SpecChecksSaid : Prop := specChecksRow.holds Try.pinned (OpenSpec.ofChange specChecksSpec)

/-- ITS FALSE NEIGHBOUR: 'it returns false'. Refute it at one input. -/
def specChecksWrong : ChangeSpec := { name := "specChecks", fn := fun _ => fun
  | [d] => { results := [.lit (.bool false)], args := [d] }
  | _ => none }
def SpecChecksWrongFalsely : Prop := specChecksRow.holds Try.pinned (OpenSpec.ofChange specChecksWrong)

/-- 'groatlaw11.SpecValues': WHATEVER THE INPUT: true; the input reads as it did. -/
def specValuesSpec : ChangeSpec := { name := "specValues", fn := fun _ => fun
  | [d1, d2] => { results := [.lit (.bool true)], args := [d1, d2] }
  | _ => none }
def specValuesRow : OpenClaim := { program := "ytfaeodcapagjbaa", sum := "37e3d6f3698da32b57943e1473640589d3eb9bb3dd2542bbb5772d7329c3ad1e", func := "groat/groatlaw11.SpecValues", spec := "specValues", apart := false }
def SpecValuesSaid : Prop := specValuesRow.holds Try.pinned (OpenSpec.ofChange specValuesSpec)

/-- ITS FALSE NEIGHBOUR: 'it returns false'. Refute it at one input. -/
def specValuesWrong : ChangeSpec := { name := "specValues", fn := fun _ => fun
  | [d1, d2] => { results := [.lit (.bool false)], args := [d1, d2] }
  | _ => none }
def SpecValuesWrongFalsely : Prop := specValuesRow.holds Try.pinned (OpenSpec.ofChange specValuesWrong)

/-- 'groatlaw11.SpecBounds': WHATEVER THE INPUT: true; the input reads as it did. -/
def specBoundsSpec : ChangeSpec := { name := "specBounds", fn := fun _ => fun
  | [d1, d2] => { results := [.lit (.bool true)], args := [d1, d2] }
  | _ => none }
def specBoundsRow : OpenClaim := { program := "ytfaeodcapagjbaa", sum := "37e3d6f3698da32b57943e1473640589d3eb9bb3dd2542bbb5772d7329c3ad1e", func := "groat/groatlaw11.SpecBounds", spec := "specBounds", apart := false }
def SpecBoundsSaid : Prop := specBoundsRow.holds Try.pinned (OpenSpec.ofChange specBoundsSpec)

/-- ITS FALSE NEIGHBOUR: 'it returns false'. Refute it at one input. -/
def specBoundsWrong : ChangeSpec := { name := "specBounds", fn := fun _ => fun
  | [d1, d2] => { results := [.lit (.bool false)], args := [d1, d2] }
  | _ => none }
def SpecBoundsWrongFalsely : Prop := specBoundsRow.holds Try.pinned (OpenSpec.ofChange specBoundsWrong)

/-- 'groatlaw11.SpecWider': WHATEVER THE INPUT: true; the input reads as it did. -/
def specWiderSpec : ChangeSpec := { name := "specWider", fn := fun _ => fun
  | [d1, d2] => { results := [.lit (.bool true)], args := [d1, d2] }
  | _ => none }
def specWiderRow : OpenClaim := { program := "ytfaeodcapagjbaa", sum := "37e3d6f3698da32b57943e1473640589d3eb9bb3dd2542bbb5772d7329c3ad1e", func := "groat/groatlaw11.SpecWider", spec := "specWider", apart := false }
def SpecWiderSaid : Prop := specWiderRow.holds Try.pinned (OpenSpec.ofChange specWiderSpec)

/-- ITS FALSE NEIGHBOUR: 'it returns false'. Refute it at one input. -/
def specWiderWrong : ChangeSpec := { name := "specWider", fn := fun _ => fun
  | [d1, d2] => { results := [.lit (.bool false)], args := [d1, d2] }
  | _ => none }
def SpecWiderWrongFalsely : Prop := specWiderRow.holds Try.pinned (OpenSpec.ofChange specWiderWrong)

/-- 'groatlaw11.SpecKeeps': WHATEVER THE INPUT: true; the input reads as it did. -/
def specKeepsSpec : ChangeSpec := { name := "specKeeps", fn := fun _ => fun
  | [d1, d2, d3] => { results := [.lit (.bool true)], args := [d1, d2, d3] }
  | _ => none }
def specKeepsRow : OpenClaim := { program := "ytfaeodcapagjbaa", sum := "37e3d6f3698da32b57943e1473640589d3eb9bb3dd2542bbb5772d7329c3ad1e", func := "groat/groatlaw11.SpecKeeps", spec := "specKeeps", apart := false }
def SpecKeepsSaid : Prop := specKeepsRow.holds Try.pinned (OpenSpec.ofChange specKeepsSpec)

/-- ITS FALSE NEIGHBOUR: 'it returns false'. Refute it at one input. -/
def specKeepsWrong : ChangeSpec := { name := "specKeeps", fn := fun _ => fun
  | [d1, d2, d3] => { results := [.lit (.bool false)], args := [d1, d2, d3] }
  | _ => none }
def SpecKeepsWrongFalsely : Prop := specKeepsRow.holds Try.pinned (OpenSpec.ofChange specKeepsWrong)

/-- 'groatlaw12.CellPuts': WHATEVER THE INPUT: true; the input reads as it did. -/
def cellPutsSpec : ChangeSpec := { name := "cellPuts", fn := fun _ => fun
  | [d1, d2, d3] => { results := [.lit (.bool true)], args := [d1, d2, d3] }
  | _ => none }
def cellPutsRow : OpenClaim := { program := "ytfaeodcapagjbaa", sum := "37e3d6f3698da32b57943e1473640589d3eb9bb3dd2542bbb5772d7329c3ad1e", func := "groat/groatlaw12.CellPuts", spec := "cellPuts", apart := false }
def CellPutsSaid : Prop := cellPutsRow.holds Try.pinned (OpenSpec.ofChange cellPutsSpec)

/-- ITS FALSE NEIGHBOUR: 'it returns false'. Refute it at one input. -/
def cellPutsWrong : ChangeSpec := { name := "cellPuts", fn := fun _ => fun
  | [d1, d2, d3] => { results := [.lit (.bool false)], args := [d1, d2, d3] }
  | _ => none }
def CellPutsWrongFalsely : Prop := cellPutsRow.holds Try.pinned (OpenSpec.ofChange cellPutsWrong)

/-- 'groatlaw12.CellGets': WHATEVER THE INPUT: true; the input reads as it did. -/
def cellGetsSpec : ChangeSpec := { name := "cellGets", fn := fun _ => fun
  | [d1, d2, d3] => { results := [.lit (.bool true)], args := [d1, d2, d3] }
  | _ => none }
def cellGetsRow : OpenClaim := { program := "ytfaeodcapagjbaa", sum := "37e3d6f3698da32b57943e1473640589d3eb9bb3dd2542bbb5772d7329c3ad1e", func := "groat/groatlaw12.CellGets", spec := "cellGets", apart := false }
def CellGetsSaid : Prop := cellGetsRow.holds Try.pinned (OpenSpec.ofChange cellGetsSpec)

/-- ITS FALSE NEIGHBOUR: 'it returns false'. Refute it at one input. -/
def cellGetsWrong : ChangeSpec := { name := "cellGets", fn := fun _ => fun
  | [d1, d2, d3] => { results := [.lit (.bool false)], args := [d1, d2, d3] }
  | _ => none }
def CellGetsWrongFalsely : Prop := cellGetsRow.holds Try.pinned (OpenSpec.ofChange cellGetsWrong)

/-- 'groatlaw12.CellBack': WHATEVER THE INPUT: true; the input reads as it did. -/
def cellBackSpec : ChangeSpec := { name := "cellBack", fn := fun _ => fun
  | [d1, d2, d3] => { results := [.lit (.bool true)], args := [d1, d2, d3] }
  | _ => none }
def cellBackRow : OpenClaim := { program := "ytfaeodcapagjbaa", sum := "37e3d6f3698da32b57943e1473640589d3eb9bb3dd2542bbb5772d7329c3ad1e", func := "groat/groatlaw12.CellBack", spec := "cellBack", apart := false }
def CellBackSaid : Prop := cellBackRow.holds Try.pinned (OpenSpec.ofChange cellBackSpec)

/-- ITS FALSE NEIGHBOUR: 'it returns false'. Refute it at one input. -/
def cellBackWrong : ChangeSpec := { name := "cellBack", fn := fun _ => fun
  | [d1, d2, d3] => { results := [.lit (.bool false)], args := [d1, d2, d3] }
  | _ => none }
def CellBackWrongFalsely : Prop := cellBackRow.holds Try.pinned (OpenSpec.ofChange cellBackWrong)

/-- 'groatlaw12.CellOne': WHATEVER THE INPUT: true; the input reads as it did. -/
def cellOneSpec : ChangeSpec := { name := "cellOne", fn := fun _ => fun
  | [d1, d2, d3] => { results := [.lit (.bool true)], args := [d1, d2, d3] }
  | _ => none }
def cellOneRow : OpenClaim := { program := "ytfaeodcapagjbaa", sum := "37e3d6f3698da32b57943e1473640589d3eb9bb3dd2542bbb5772d7329c3ad1e", func := "groat/groatlaw12.CellOne", spec := "cellOne", apart := false }
def CellOneSaid : Prop := cellOneRow.holds Try.pinned (OpenSpec.ofChange cellOneSpec)

/-- ITS FALSE NEIGHBOUR: 'it returns false'. Refute it at one input. -/
def cellOneWrong : ChangeSpec := { name := "cellOne", fn := fun _ => fun
  | [d1, d2, d3] => { results := [.lit (.bool false)], args := [d1, d2, d3] }
  | _ => none }
def CellOneWrongFalsely : Prop := cellOneRow.holds Try.pinned (OpenSpec.ofChange cellOneWrong)

/-- 'groatlaw12.CellParts': WHATEVER THE INPUT: true; the input reads as it did. -/
def cellPartsSpec : ChangeSpec := { name := "cellParts", fn := fun _ => fun
  | [d1, d2, d3] => { results := [.lit (.bool true)], args := [d1, d2, d3] }
  | _ => none }
def cellPartsRow : OpenClaim := { program := "ytfaeodcapagjbaa", sum := "37e3d6f3698da32b57943e1473640589d3eb9bb3dd2542bbb5772d7329c3ad1e", func := "groat/groatlaw12.CellParts", spec := "cellParts", apart := false }
def CellPartsSaid : Prop := cellPartsRow.holds Try.pinned (OpenSpec.ofChange cellPartsSpec)

/-- ITS FALSE NEIGHBOUR: 'it returns false'. Refute it at one input. -/
def cellPartsWrong : ChangeSpec := { name := "cellParts", fn := fun _ => fun
  | [d1, d2, d3] => { results := [.lit (.bool false)], args := [d1, d2, d3] }
  | _ => none }
def CellPartsWrongFalsely : Prop := cellPartsRow.holds Try.pinned (OpenSpec.ofChange cellPartsWrong)

/- THE SECOND FORM. 'bulk': how many values and letters a reading holds, each counted each time it is reached (what is shared counts as often as it is met; a slice's spare places count too). A statement '..UptoSaid' is the law's where the arguments, and the package variables that the reading takes, are together of bulk at most 1048576: NARROWER than '..Said'. Prove '..Said' where nothing that the law and all that it calls make is longer than what came in: it says more and counts as full. Else prove '..UptoSaid'. A law counts once. -/
mutual
def uptoBulk {H : Type} : DataW H → Nat
  | .lit (.string bytes) => bytes.length + 1
  | .lit _ => 1
  | .nil => 1
  | .ptr d => uptoBulk d + 1
  | .slice elems spare => uptoBulkAll elems + uptoBulkAll spare + 1
  | .agg parts => uptoBulkAll parts + 1
  | .iface _ d => uptoBulk d + 1
  | .map entries => uptoBulkEntries entries + 1
  | .held _ => 1
def uptoBulkAll {H : Type} : List (DataW H) → Nat
  | [] => 0
  | d :: r => uptoBulk d + uptoBulkAll r
def uptoBulkEntries {H : Type} : List (Lit × DataW H) → Nat
  | [] => 0
  | x :: r => uptoBulkEntry x + uptoBulkEntries r
def uptoBulkEntry {H : Type} : Lit × DataW H → Nat
  | (.string bytes, d) => bytes.length + uptoBulk d + 1
  | (_, d) => uptoBulk d + 1
 end
def uptoSmall : (H : Type) → List (DataW H) → Bool := fun _ ds => decide (uptoBulkAll ds ≤ 1048576)
def OpenSpec.upto (s : _root_.Go.ChangeSpec) : _root_.Go.OpenSpec := { _root_.Go.OpenSpec.ofChange s with cond := some uptoSmall }

/-- 'groatlaw11.SpecChecks', WHERE WHAT IT READS IS OF BULK AT MOST 1048576: true; the input reads as it did. -/
def specChecksUptoRow : OpenClaim := { program := "ytfaeodcapagjbaa", sum := "37e3d6f3698da32b57943e1473640589d3eb9bb3dd2542bbb5772d7329c3ad1e", func := "groat/groatlaw11.SpecChecks", spec := "specChecks", apart := false, narrowed := true }
def SpecChecksUptoSaid : Prop := specChecksUptoRow.holds Try.pinned (OpenSpec.upto specChecksSpec)

/-- 'groatlaw11.SpecValues', WHERE WHAT IT READS IS OF BULK AT MOST 1048576: true; the input reads as it did. -/
def specValuesUptoRow : OpenClaim := { program := "ytfaeodcapagjbaa", sum := "37e3d6f3698da32b57943e1473640589d3eb9bb3dd2542bbb5772d7329c3ad1e", func := "groat/groatlaw11.SpecValues", spec := "specValues", apart := false, narrowed := true }
def SpecValuesUptoSaid : Prop := specValuesUptoRow.holds Try.pinned (OpenSpec.upto specValuesSpec)

/-- 'groatlaw11.SpecBounds', WHERE WHAT IT READS IS OF BULK AT MOST 1048576: true; the input reads as it did. -/
def specBoundsUptoRow : OpenClaim := { program := "ytfaeodcapagjbaa", sum := "37e3d6f3698da32b57943e1473640589d3eb9bb3dd2542bbb5772d7329c3ad1e", func := "groat/groatlaw11.SpecBounds", spec := "specBounds", apart := false, narrowed := true }
def SpecBoundsUptoSaid : Prop := specBoundsUptoRow.holds Try.pinned (OpenSpec.upto specBoundsSpec)

/-- 'groatlaw11.SpecWider', WHERE WHAT IT READS IS OF BULK AT MOST 1048576: true; the input reads as it did. -/
def specWiderUptoRow : OpenClaim := { program := "ytfaeodcapagjbaa", sum := "37e3d6f3698da32b57943e1473640589d3eb9bb3dd2542bbb5772d7329c3ad1e", func := "groat/groatlaw11.SpecWider", spec := "specWider", apart := false, narrowed := true }
def SpecWiderUptoSaid : Prop := specWiderUptoRow.holds Try.pinned (OpenSpec.upto specWiderSpec)

/-- 'groatlaw11.SpecKeeps', WHERE WHAT IT READS IS OF BULK AT MOST 1048576: true; the input reads as it did. -/
def specKeepsUptoRow : OpenClaim := { program := "ytfaeodcapagjbaa", sum := "37e3d6f3698da32b57943e1473640589d3eb9bb3dd2542bbb5772d7329c3ad1e", func := "groat/groatlaw11.SpecKeeps", spec := "specKeeps", apart := false, narrowed := true }
def SpecKeepsUptoSaid : Prop := specKeepsUptoRow.holds Try.pinned (OpenSpec.upto specKeepsSpec)

/-- 'groatlaw12.CellPuts', WHERE WHAT IT READS IS OF BULK AT MOST 1048576: true; the input reads as it did. -/
def cellPutsUptoRow : OpenClaim := { program := "ytfaeodcapagjbaa", sum := "37e3d6f3698da32b57943e1473640589d3eb9bb3dd2542bbb5772d7329c3ad1e", func := "groat/groatlaw12.CellPuts", spec := "cellPuts", apart := false, narrowed := true }
def CellPutsUptoSaid : Prop := cellPutsUptoRow.holds Try.pinned (OpenSpec.upto cellPutsSpec)

/-- 'groatlaw12.CellGets', WHERE WHAT IT READS IS OF BULK AT MOST 1048576: true; the input reads as it did. -/
def cellGetsUptoRow : OpenClaim := { program := "ytfaeodcapagjbaa", sum := "37e3d6f3698da32b57943e1473640589d3eb9bb3dd2542bbb5772d7329c3ad1e", func := "groat/groatlaw12.CellGets", spec := "cellGets", apart := false, narrowed := true }
def CellGetsUptoSaid : Prop := cellGetsUptoRow.holds Try.pinned (OpenSpec.upto cellGetsSpec)

/-- 'groatlaw12.CellBack', WHERE WHAT IT READS IS OF BULK AT MOST 1048576: true; the input reads as it did. -/
def cellBackUptoRow : OpenClaim := { program := "ytfaeodcapagjbaa", sum := "37e3d6f3698da32b57943e1473640589d3eb9bb3dd2542bbb5772d7329c3ad1e", func := "groat/groatlaw12.CellBack", spec := "cellBack", apart := false, narrowed := true }
def CellBackUptoSaid : Prop := cellBackUptoRow.holds Try.pinned (OpenSpec.upto cellBackSpec)

/-- 'groatlaw12.CellOne', WHERE WHAT IT READS IS OF BULK AT MOST 1048576: true; the input reads as it did. -/
def cellOneUptoRow : OpenClaim := { program := "ytfaeodcapagjbaa", sum := "37e3d6f3698da32b57943e1473640589d3eb9bb3dd2542bbb5772d7329c3ad1e", func := "groat/groatlaw12.CellOne", spec := "cellOne", apart := false, narrowed := true }
def CellOneUptoSaid : Prop := cellOneUptoRow.holds Try.pinned (OpenSpec.upto cellOneSpec)

/-- 'groatlaw12.CellParts', WHERE WHAT IT READS IS OF BULK AT MOST 1048576: true; the input reads as it did. -/
def cellPartsUptoRow : OpenClaim := { program := "ytfaeodcapagjbaa", sum := "37e3d6f3698da32b57943e1473640589d3eb9bb3dd2542bbb5772d7329c3ad1e", func := "groat/groatlaw12.CellParts", spec := "cellParts", apart := false, narrowed := true }
def CellPartsUptoSaid : Prop := cellPartsUptoRow.holds Try.pinned (OpenSpec.upto cellPartsSpec)

end Rows
end Go.Proofs.Ytfaeodcapagjbaa
