/-
  No cell of these rows narrows 'for every input' (looked for: loops, veiled, ifaces, maps, wideKeys, modest, calm, conditions, laid).
  DERIVED. THE GIVEN ROWS OF THIS SEAT. 10 by the template 'for every input the law returns true; each argument reads behind the call as it read before'; 0 by the template 'total and deterministic' (their statements: YticiemnnfipoiaaTotals.lean).
  GIVEN WITH THE SEED: the statements are not yours to turn. If you find one false, say at which input.
  Laid BY PROGRAM, IN A SANDBOX (cutbox-rows.mjs): the forced cells as the released guide's own fill.sh prints them over the translation 8d1d81f4d515599f… (all of the seat's roots in one cut). By AI agents, Wed Nov 11 2026. No macro, syntax, notation, axiom, sorry.
-/
import Derived.Test.YticiemnnfipoiaaChecked
import GoSem.Claim
import GoSem.ClaimJoined
import GoSem.ClaimMapViews
import Derived.JoinedTies
import Derived.KernelRfl
namespace Go.Proofs.Yticiemnnfipoiaa
/- THE CELL 'sum', in the pinned program and in every row, IS THE sha256 OF THE DUMP (.gsa) THAT YticiemnnfipoiaaProg.lean LOADS. Nothing in Lean hashes anything: it is a label: what it is worth is what the hold of that sum in a sandbox is worth. -/
noncomputable def Try.pinned : Pinned := { name := "yticiemnnfipoiaa", sum := "8d1d81f4d515599f1519bce4ed825bb4e9155cf28b50c2621f805c1ac9e7e1fa", checked := Try.checked }
namespace Rows
def none {H : Type} : Left H := { results := [], args := [] }

/-- 'groatlaw03.BcdPuts': WHATEVER THE INPUT: true; the input reads as it did. -/
def bcdPutsSpec : ChangeSpec := { name := "bcdPuts", fn := fun _ => fun
  | [d] => { results := [.lit (.bool true)], args := [d] }
  | _ => none }
def bcdPutsRow : OpenClaim := { program := "yticiemnnfipoiaa", sum := "8d1d81f4d515599f1519bce4ed825bb4e9155cf28b50c2621f805c1ac9e7e1fa", func := "groat/groatlaw03.BcdPuts", spec := "bcdPuts", apart := false }
def BcdPutsSaid : Prop := bcdPutsRow.holds Try.pinned (OpenSpec.ofChange bcdPutsSpec)

/-- ITS FALSE NEIGHBOUR: 'it returns false'. Refute it at one input. -/
def bcdPutsWrong : ChangeSpec := { name := "bcdPuts", fn := fun _ => fun
  | [d] => { results := [.lit (.bool false)], args := [d] }
  | _ => none }
def BcdPutsWrongFalsely : Prop := bcdPutsRow.holds Try.pinned (OpenSpec.ofChange bcdPutsWrong)

/-- 'groatlaw03.BcdGets': WHATEVER THE INPUT: true; the input reads as it did. -/
def bcdGetsSpec : ChangeSpec := { name := "bcdGets", fn := fun _ => fun
  | [d1, d2] => { results := [.lit (.bool true)], args := [d1, d2] }
  | _ => none }
def bcdGetsRow : OpenClaim := { program := "yticiemnnfipoiaa", sum := "8d1d81f4d515599f1519bce4ed825bb4e9155cf28b50c2621f805c1ac9e7e1fa", func := "groat/groatlaw03.BcdGets", spec := "bcdGets", apart := false }
def BcdGetsSaid : Prop := bcdGetsRow.holds Try.pinned (OpenSpec.ofChange bcdGetsSpec)

/-- ITS FALSE NEIGHBOUR: 'it returns false'. Refute it at one input. -/
def bcdGetsWrong : ChangeSpec := { name := "bcdGets", fn := fun _ => fun
  | [d1, d2] => { results := [.lit (.bool false)], args := [d1, d2] }
  | _ => none }
def BcdGetsWrongFalsely : Prop := bcdGetsRow.holds Try.pinned (OpenSpec.ofChange bcdGetsWrong)

/-- 'groatlaw03.BcdBack': WHATEVER THE INPUT: true; the input reads as it did. -/
def bcdBackSpec : ChangeSpec := { name := "bcdBack", fn := fun _ => fun
  | [d1, d2] => { results := [.lit (.bool true)], args := [d1, d2] }
  | _ => none }
def bcdBackRow : OpenClaim := { program := "yticiemnnfipoiaa", sum := "8d1d81f4d515599f1519bce4ed825bb4e9155cf28b50c2621f805c1ac9e7e1fa", func := "groat/groatlaw03.BcdBack", spec := "bcdBack", apart := false }
def BcdBackSaid : Prop := bcdBackRow.holds Try.pinned (OpenSpec.ofChange bcdBackSpec)

/-- ITS FALSE NEIGHBOUR: 'it returns false'. Refute it at one input. -/
def bcdBackWrong : ChangeSpec := { name := "bcdBack", fn := fun _ => fun
  | [d1, d2] => { results := [.lit (.bool false)], args := [d1, d2] }
  | _ => none }
def BcdBackWrongFalsely : Prop := bcdBackRow.holds Try.pinned (OpenSpec.ofChange bcdBackWrong)

/-- 'groatlaw03.BcdOne': WHATEVER THE INPUT: true; the input reads as it did. -/
def bcdOneSpec : ChangeSpec := { name := "bcdOne", fn := fun _ => fun
  | [d1, d2] => { results := [.lit (.bool true)], args := [d1, d2] }
  | _ => none }
def bcdOneRow : OpenClaim := { program := "yticiemnnfipoiaa", sum := "8d1d81f4d515599f1519bce4ed825bb4e9155cf28b50c2621f805c1ac9e7e1fa", func := "groat/groatlaw03.BcdOne", spec := "bcdOne", apart := false }
def BcdOneSaid : Prop := bcdOneRow.holds Try.pinned (OpenSpec.ofChange bcdOneSpec)

/-- ITS FALSE NEIGHBOUR: 'it returns false'. Refute it at one input. -/
def bcdOneWrong : ChangeSpec := { name := "bcdOne", fn := fun _ => fun
  | [d1, d2] => { results := [.lit (.bool false)], args := [d1, d2] }
  | _ => none }
def BcdOneWrongFalsely : Prop := bcdOneRow.holds Try.pinned (OpenSpec.ofChange bcdOneWrong)

/-- 'groatlaw03.BcdOrder': WHATEVER THE INPUT: true; the input reads as it did. -/
def bcdOrderSpec : ChangeSpec := { name := "bcdOrder", fn := fun _ => fun
  | [d1, d2] => { results := [.lit (.bool true)], args := [d1, d2] }
  | _ => none }
def bcdOrderRow : OpenClaim := { program := "yticiemnnfipoiaa", sum := "8d1d81f4d515599f1519bce4ed825bb4e9155cf28b50c2621f805c1ac9e7e1fa", func := "groat/groatlaw03.BcdOrder", spec := "bcdOrder", apart := false }
def BcdOrderSaid : Prop := bcdOrderRow.holds Try.pinned (OpenSpec.ofChange bcdOrderSpec)

/-- ITS FALSE NEIGHBOUR: 'it returns false'. Refute it at one input. -/
def bcdOrderWrong : ChangeSpec := { name := "bcdOrder", fn := fun _ => fun
  | [d1, d2] => { results := [.lit (.bool false)], args := [d1, d2] }
  | _ => none }
def BcdOrderWrongFalsely : Prop := bcdOrderRow.holds Try.pinned (OpenSpec.ofChange bcdOrderWrong)

/-- 'groatlaw07.PrefixPuts': WHATEVER THE INPUT: true; the input reads as it did. -/
def prefixPutsSpec : ChangeSpec := { name := "prefixPuts", fn := fun _ => fun
  | [d1, d2, d3] => { results := [.lit (.bool true)], args := [d1, d2, d3] }
  | _ => none }
def prefixPutsRow : OpenClaim := { program := "yticiemnnfipoiaa", sum := "8d1d81f4d515599f1519bce4ed825bb4e9155cf28b50c2621f805c1ac9e7e1fa", func := "groat/groatlaw07.PrefixPuts", spec := "prefixPuts", apart := false }
def PrefixPutsSaid : Prop := prefixPutsRow.holds Try.pinned (OpenSpec.ofChange prefixPutsSpec)

/-- ITS FALSE NEIGHBOUR: 'it returns false'. Refute it at one input. -/
def prefixPutsWrong : ChangeSpec := { name := "prefixPuts", fn := fun _ => fun
  | [d1, d2, d3] => { results := [.lit (.bool false)], args := [d1, d2, d3] }
  | _ => none }
def PrefixPutsWrongFalsely : Prop := prefixPutsRow.holds Try.pinned (OpenSpec.ofChange prefixPutsWrong)

/-- 'groatlaw07.PrefixGets': WHATEVER THE INPUT: true; the input reads as it did. -/
def prefixGetsSpec : ChangeSpec := { name := "prefixGets", fn := fun _ => fun
  | [d1, d2, d3] => { results := [.lit (.bool true)], args := [d1, d2, d3] }
  | _ => none }
def prefixGetsRow : OpenClaim := { program := "yticiemnnfipoiaa", sum := "8d1d81f4d515599f1519bce4ed825bb4e9155cf28b50c2621f805c1ac9e7e1fa", func := "groat/groatlaw07.PrefixGets", spec := "prefixGets", apart := false }
def PrefixGetsSaid : Prop := prefixGetsRow.holds Try.pinned (OpenSpec.ofChange prefixGetsSpec)

/-- ITS FALSE NEIGHBOUR: 'it returns false'. Refute it at one input. -/
def prefixGetsWrong : ChangeSpec := { name := "prefixGets", fn := fun _ => fun
  | [d1, d2, d3] => { results := [.lit (.bool false)], args := [d1, d2, d3] }
  | _ => none }
def PrefixGetsWrongFalsely : Prop := prefixGetsRow.holds Try.pinned (OpenSpec.ofChange prefixGetsWrong)

/-- 'groatlaw07.PrefixBack': WHATEVER THE INPUT: true; the input reads as it did. -/
def prefixBackSpec : ChangeSpec := { name := "prefixBack", fn := fun _ => fun
  | [d1, d2, d3] => { results := [.lit (.bool true)], args := [d1, d2, d3] }
  | _ => none }
def prefixBackRow : OpenClaim := { program := "yticiemnnfipoiaa", sum := "8d1d81f4d515599f1519bce4ed825bb4e9155cf28b50c2621f805c1ac9e7e1fa", func := "groat/groatlaw07.PrefixBack", spec := "prefixBack", apart := false }
def PrefixBackSaid : Prop := prefixBackRow.holds Try.pinned (OpenSpec.ofChange prefixBackSpec)

/-- ITS FALSE NEIGHBOUR: 'it returns false'. Refute it at one input. -/
def prefixBackWrong : ChangeSpec := { name := "prefixBack", fn := fun _ => fun
  | [d1, d2, d3] => { results := [.lit (.bool false)], args := [d1, d2, d3] }
  | _ => none }
def PrefixBackWrongFalsely : Prop := prefixBackRow.holds Try.pinned (OpenSpec.ofChange prefixBackWrong)

/-- 'groatlaw07.PrefixOne': WHATEVER THE INPUT: true; the input reads as it did. -/
def prefixOneSpec : ChangeSpec := { name := "prefixOne", fn := fun _ => fun
  | [d1, d2] => { results := [.lit (.bool true)], args := [d1, d2] }
  | _ => none }
def prefixOneRow : OpenClaim := { program := "yticiemnnfipoiaa", sum := "8d1d81f4d515599f1519bce4ed825bb4e9155cf28b50c2621f805c1ac9e7e1fa", func := "groat/groatlaw07.PrefixOne", spec := "prefixOne", apart := false }
def PrefixOneSaid : Prop := prefixOneRow.holds Try.pinned (OpenSpec.ofChange prefixOneSpec)

/-- ITS FALSE NEIGHBOUR: 'it returns false'. Refute it at one input. -/
def prefixOneWrong : ChangeSpec := { name := "prefixOne", fn := fun _ => fun
  | [d1, d2] => { results := [.lit (.bool false)], args := [d1, d2] }
  | _ => none }
def PrefixOneWrongFalsely : Prop := prefixOneRow.holds Try.pinned (OpenSpec.ofChange prefixOneWrong)

/-- 'groatlaw07.PrefixMost': WHATEVER THE INPUT: true; the input reads as it did. -/
def prefixMostSpec : ChangeSpec := { name := "prefixMost", fn := fun _ => fun
  | [d1, d2] => { results := [.lit (.bool true)], args := [d1, d2] }
  | _ => none }
def prefixMostRow : OpenClaim := { program := "yticiemnnfipoiaa", sum := "8d1d81f4d515599f1519bce4ed825bb4e9155cf28b50c2621f805c1ac9e7e1fa", func := "groat/groatlaw07.PrefixMost", spec := "prefixMost", apart := false }
def PrefixMostSaid : Prop := prefixMostRow.holds Try.pinned (OpenSpec.ofChange prefixMostSpec)

/-- ITS FALSE NEIGHBOUR: 'it returns false'. Refute it at one input. -/
def prefixMostWrong : ChangeSpec := { name := "prefixMost", fn := fun _ => fun
  | [d1, d2] => { results := [.lit (.bool false)], args := [d1, d2] }
  | _ => none }
def PrefixMostWrongFalsely : Prop := prefixMostRow.holds Try.pinned (OpenSpec.ofChange prefixMostWrong)

/- THE SECOND FORM. 'bulk': how many values and letters a reading holds, each counted each time it is reached (what is shared counts as often as it is met; a slice's spare places count too). A statement '..UptoSaid' is the law's where the arguments, and the package variables that the reading takes, are together of bulk at most 1048576: NARROWER than '..Said'. Prove '..Said' where nothing that the law and all that it calls make is longer than what came in: it says more and counts as full. Else prove '..UptoSaid'. A law counts once. -/
mutual
def uptoBulk {H : Type} : DataW H → Nat
  | .lit (.string bytes) => bytes.length + 1
  | .lit _ => 1
  | .nil => 1
  | .ptr d => uptoBulk d + 1
  | .slice elems spare => uptoBulkAll elems + uptoBulkAll spare + 1
  | .agg parts => uptoBulkAll parts + 1
  | .iface _ d => uptoBulk d + 1
  | .map entries => uptoBulkEntries entries + 1
  | .held _ => 1
def uptoBulkAll {H : Type} : List (DataW H) → Nat
  | [] => 0
  | d :: r => uptoBulk d + uptoBulkAll r
def uptoBulkEntries {H : Type} : List (Lit × DataW H) → Nat
  | [] => 0
  | x :: r => uptoBulkEntry x + uptoBulkEntries r
def uptoBulkEntry {H : Type} : Lit × DataW H → Nat
  | (.string bytes, d) => bytes.length + uptoBulk d + 1
  | (_, d) => uptoBulk d + 1
 end
def uptoSmall : (H : Type) → List (DataW H) → Bool := fun _ ds => decide (uptoBulkAll ds ≤ 1048576)
def OpenSpec.upto (s : _root_.Go.ChangeSpec) : _root_.Go.OpenSpec := { _root_.Go.OpenSpec.ofChange s with cond := some uptoSmall }

/-- 'groatlaw03.BcdPuts', WHERE WHAT IT READS IS OF BULK AT MOST 1048576: true; the input reads as it did. -/
def bcdPutsUptoRow : OpenClaim := { program := "yticiemnnfipoiaa", sum := "8d1d81f4d515599f1519bce4ed825bb4e9155cf28b50c2621f805c1ac9e7e1fa", func := "groat/groatlaw03.BcdPuts", spec := "bcdPuts", apart := false, narrowed := true }
def BcdPutsUptoSaid : Prop := bcdPutsUptoRow.holds Try.pinned (OpenSpec.upto bcdPutsSpec)

/-- 'groatlaw03.BcdGets', WHERE WHAT IT READS IS OF BULK AT MOST 1048576: true; the input reads as it did. -/
def bcdGetsUptoRow : OpenClaim := { program := "yticiemnnfipoiaa", sum := "8d1d81f4d515599f1519bce4ed825bb4e9155cf28b50c2621f805c1ac9e7e1fa", func := "groat/groatlaw03.BcdGets", spec := "bcdGets", apart := false, narrowed := true }
def BcdGetsUptoSaid : Prop := bcdGetsUptoRow.holds Try.pinned (OpenSpec.upto bcdGetsSpec)

/-- 'groatlaw03.BcdBack', WHERE WHAT IT READS IS OF BULK AT MOST 1048576: true; the input reads as it did. -/
def bcdBackUptoRow : OpenClaim := { program := "yticiemnnfipoiaa", sum := "8d1d81f4d515599f1519bce4ed825bb4e9155cf28b50c2621f805c1ac9e7e1fa", func := "groat/groatlaw03.BcdBack", spec := "bcdBack", apart := false, narrowed := true }
def BcdBackUptoSaid : Prop := bcdBackUptoRow.holds Try.pinned (OpenSpec.upto bcdBackSpec)

/-- 'groatlaw03.BcdOne', WHERE WHAT IT READS IS OF BULK AT MOST 1048576: true; the input reads as it did. -/
def bcdOneUptoRow : OpenClaim := { program := "yticiemnnfipoiaa", sum := "8d1d81f4d515599f1519bce4ed825bb4e9155cf28b50c2621f805c1ac9e7e1fa", func := "groat/groatlaw03.BcdOne", spec := "bcdOne", apart := false, narrowed := true }
def BcdOneUptoSaid : Prop := bcdOneUptoRow.holds Try.pinned (OpenSpec.upto bcdOneSpec)

/-- 'groatlaw03.BcdOrder', WHERE WHAT IT READS IS OF BULK AT MOST 1048576: true; the input reads as it did. -/
def bcdOrderUptoRow : OpenClaim := { program := "yticiemnnfipoiaa", sum := "8d1d81f4d515599f1519bce4ed825bb4e9155cf28b50c2621f805c1ac9e7e1fa", func := "groat/groatlaw03.BcdOrder", spec := "bcdOrder", apart := false, narrowed := true }
def BcdOrderUptoSaid : Prop := bcdOrderUptoRow.holds Try.pinned (OpenSpec.upto bcdOrderSpec)

/-- 'groatlaw07.PrefixPuts', WHERE WHAT IT READS IS OF BULK AT MOST 1048576: true; the input reads as it did. -/
def prefixPutsUptoRow : OpenClaim := { program := "yticiemnnfipoiaa", sum := "8d1d81f4d515599f1519bce4ed825bb4e9155cf28b50c2621f805c1ac9e7e1fa", func := "groat/groatlaw07.PrefixPuts", spec := "prefixPuts", apart := false, narrowed := true }
def PrefixPutsUptoSaid : Prop := prefixPutsUptoRow.holds Try.pinned (OpenSpec.upto prefixPutsSpec)

/-- 'groatlaw07.PrefixGets', WHERE WHAT IT READS IS OF BULK AT MOST 1048576: true; the input reads as it did. -/
def prefixGetsUptoRow : OpenClaim := { program := "yticiemnnfipoiaa", sum := "8d1d81f4d515599f1519bce4ed825bb4e9155cf28b50c2621f805c1ac9e7e1fa", func := "groat/groatlaw07.PrefixGets", spec := "prefixGets", apart := false, narrowed := true }
def PrefixGetsUptoSaid : Prop := prefixGetsUptoRow.holds Try.pinned (OpenSpec.upto prefixGetsSpec)

/-- 'groatlaw07.PrefixBack', WHERE WHAT IT READS IS OF BULK AT MOST 1048576: true; the input reads as it did. -/
def prefixBackUptoRow : OpenClaim := { program := "yticiemnnfipoiaa", sum := "8d1d81f4d515599f1519bce4ed825bb4e9155cf28b50c2621f805c1ac9e7e1fa", func := "groat/groatlaw07.PrefixBack", spec := "prefixBack", apart := false, narrowed := true }
def PrefixBackUptoSaid : Prop := prefixBackUptoRow.holds Try.pinned (OpenSpec.upto prefixBackSpec)

/-- 'groatlaw07.PrefixOne', WHERE WHAT IT READS IS OF BULK AT MOST 1048576: true; the input reads as it did. -/
def prefixOneUptoRow : OpenClaim := { program := "yticiemnnfipoiaa", sum := "8d1d81f4d515599f1519bce4ed825bb4e9155cf28b50c2621f805c1ac9e7e1fa", func := "groat/groatlaw07.PrefixOne", spec := "prefixOne", apart := false, narrowed := true }
def PrefixOneUptoSaid : Prop := prefixOneUptoRow.holds Try.pinned (OpenSpec.upto prefixOneSpec)

/-- 'groatlaw07.PrefixMost', WHERE WHAT IT READS IS OF BULK AT MOST 1048576: true; the input reads as it did. -/
def prefixMostUptoRow : OpenClaim := { program := "yticiemnnfipoiaa", sum := "8d1d81f4d515599f1519bce4ed825bb4e9155cf28b50c2621f805c1ac9e7e1fa", func := "groat/groatlaw07.PrefixMost", spec := "prefixMost", apart := false, narrowed := true }
def PrefixMostUptoSaid : Prop := prefixMostUptoRow.holds Try.pinned (OpenSpec.upto prefixMostSpec)

end Rows
end Go.Proofs.Yticiemnnfipoiaa
