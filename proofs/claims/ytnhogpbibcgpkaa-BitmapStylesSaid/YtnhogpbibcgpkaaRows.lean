/-
  No cell of these rows narrows 'for every input' (looked for: loops, veiled, ifaces, maps, wideKeys, modest, calm, conditions, laid).
  DERIVED. THE GIVEN ROWS OF THIS SEAT. 5 by the template 'for every input the law returns true; each argument reads behind the call as it read before'; 0 by the template 'total and deterministic' (their statements: YtnhogpbibcgpkaaTotals.lean).
  GIVEN WITH THE SEED: the statements are not yours to turn. If you find one false, say at which input.
  Laid BY PROGRAM, IN A SANDBOX (cutbox-rows.mjs): the forced cells as the released guide's own fill.sh prints them over the translation d999a6f67b07355b… (all of the seat's roots in one cut). By AI agents, Wed Nov 11 2026. No macro, syntax, notation, axiom, sorry.
-/
import Derived.Test.YtnhogpbibcgpkaaChecked
import GoSem.Claim
import GoSem.ClaimJoined
import GoSem.ClaimMapViews
import Derived.JoinedTies
import Derived.KernelRfl
namespace Go.Proofs.Ytnhogpbibcgpkaa
/- THE CELL 'sum', in the pinned program and in every row, IS THE sha256 OF THE DUMP (.gsa) THAT YtnhogpbibcgpkaaProg.lean LOADS. Nothing in Lean hashes anything: it is a label: what it is worth is what the hold of that sum in a sandbox is worth. -/
noncomputable def Try.pinned : Pinned := { name := "ytnhogpbibcgpkaa", sum := "d999a6f67b07355b4f865230d609646a2c0001bf689d505421e09fff1101a6c8", checked := Try.checked }
namespace Rows
def none {H : Type} : Left H := { results := [], args := [] }

/-- 'groatlaw06.BitmapPuts': WHATEVER THE INPUT: true; the input reads as it did. -/
def bitmapPutsSpec : ChangeSpec := { name := "bitmapPuts", fn := fun _ => fun
  | [d1, d2, d3] => { results := [.lit (.bool true)], args := [d1, d2, d3] }
  | _ => none }
def bitmapPutsRow : OpenClaim := { program := "ytnhogpbibcgpkaa", sum := "d999a6f67b07355b4f865230d609646a2c0001bf689d505421e09fff1101a6c8", func := "groat/groatlaw06.BitmapPuts", spec := "bitmapPuts", apart := false }
def BitmapPutsSaid : Prop := bitmapPutsRow.holds Try.pinned (OpenSpec.ofChange bitmapPutsSpec)

/-- ITS FALSE NEIGHBOUR: 'it returns false'. Refute it at one input. -/
def bitmapPutsWrong : ChangeSpec := { name := "bitmapPuts", fn := fun _ => fun
  | [d1, d2, d3] => { results := [.lit (.bool false)], args := [d1, d2, d3] }
  | _ => none }
def BitmapPutsWrongFalsely : Prop := bitmapPutsRow.holds Try.pinned (OpenSpec.ofChange bitmapPutsWrong)

/-- 'groatlaw06.BitmapGets': WHATEVER THE INPUT: true; the input reads as it did. -/
def bitmapGetsSpec : ChangeSpec := { name := "bitmapGets", fn := fun _ => fun
  | [d1, d2, d3] => { results := [.lit (.bool true)], args := [d1, d2, d3] }
  | _ => none }
def bitmapGetsRow : OpenClaim := { program := "ytnhogpbibcgpkaa", sum := "d999a6f67b07355b4f865230d609646a2c0001bf689d505421e09fff1101a6c8", func := "groat/groatlaw06.BitmapGets", spec := "bitmapGets", apart := false }
def BitmapGetsSaid : Prop := bitmapGetsRow.holds Try.pinned (OpenSpec.ofChange bitmapGetsSpec)

/-- ITS FALSE NEIGHBOUR: 'it returns false'. Refute it at one input. -/
def bitmapGetsWrong : ChangeSpec := { name := "bitmapGets", fn := fun _ => fun
  | [d1, d2, d3] => { results := [.lit (.bool false)], args := [d1, d2, d3] }
  | _ => none }
def BitmapGetsWrongFalsely : Prop := bitmapGetsRow.holds Try.pinned (OpenSpec.ofChange bitmapGetsWrong)

/-- 'groatlaw06.BitmapBack': WHATEVER THE INPUT: true; the input reads as it did. -/
def bitmapBackSpec : ChangeSpec := { name := "bitmapBack", fn := fun _ => fun
  | [d1, d2, d3] => { results := [.lit (.bool true)], args := [d1, d2, d3] }
  | _ => none }
def bitmapBackRow : OpenClaim := { program := "ytnhogpbibcgpkaa", sum := "d999a6f67b07355b4f865230d609646a2c0001bf689d505421e09fff1101a6c8", func := "groat/groatlaw06.BitmapBack", spec := "bitmapBack", apart := false }
def BitmapBackSaid : Prop := bitmapBackRow.holds Try.pinned (OpenSpec.ofChange bitmapBackSpec)

/-- ITS FALSE NEIGHBOUR: 'it returns false'. Refute it at one input. -/
def bitmapBackWrong : ChangeSpec := { name := "bitmapBack", fn := fun _ => fun
  | [d1, d2, d3] => { results := [.lit (.bool false)], args := [d1, d2, d3] }
  | _ => none }
def BitmapBackWrongFalsely : Prop := bitmapBackRow.holds Try.pinned (OpenSpec.ofChange bitmapBackWrong)

/-- 'groatlaw06.BitmapOne': WHATEVER THE INPUT: true; the input reads as it did. -/
def bitmapOneSpec : ChangeSpec := { name := "bitmapOne", fn := fun _ => fun
  | [d1, d2] => { results := [.lit (.bool true)], args := [d1, d2] }
  | _ => none }
def bitmapOneRow : OpenClaim := { program := "ytnhogpbibcgpkaa", sum := "d999a6f67b07355b4f865230d609646a2c0001bf689d505421e09fff1101a6c8", func := "groat/groatlaw06.BitmapOne", spec := "bitmapOne", apart := false }
def BitmapOneSaid : Prop := bitmapOneRow.holds Try.pinned (OpenSpec.ofChange bitmapOneSpec)

/-- ITS FALSE NEIGHBOUR: 'it returns false'. Refute it at one input. -/
def bitmapOneWrong : ChangeSpec := { name := "bitmapOne", fn := fun _ => fun
  | [d1, d2] => { results := [.lit (.bool false)], args := [d1, d2] }
  | _ => none }
def BitmapOneWrongFalsely : Prop := bitmapOneRow.holds Try.pinned (OpenSpec.ofChange bitmapOneWrong)

/-- 'groatlaw06.BitmapStyles': WHATEVER THE INPUT: true; the input reads as it did. -/
def bitmapStylesSpec : ChangeSpec := { name := "bitmapStyles", fn := fun _ => fun
  | [d1, d2] => { results := [.lit (.bool true)], args := [d1, d2] }
  | _ => none }
def bitmapStylesRow : OpenClaim := { program := "ytnhogpbibcgpkaa", sum := "d999a6f67b07355b4f865230d609646a2c0001bf689d505421e09fff1101a6c8", func := "groat/groatlaw06.BitmapStyles", spec := "bitmapStyles", apart := false }
def BitmapStylesSaid : Prop := bitmapStylesRow.holds Try.pinned (OpenSpec.ofChange bitmapStylesSpec)

/-- ITS FALSE NEIGHBOUR: 'it returns false'. Refute it at one input. -/
def bitmapStylesWrong : ChangeSpec := { name := "bitmapStyles", fn := fun _ => fun
  | [d1, d2] => { results := [.lit (.bool false)], args := [d1, d2] }
  | _ => none }
def BitmapStylesWrongFalsely : Prop := bitmapStylesRow.holds Try.pinned (OpenSpec.ofChange bitmapStylesWrong)

/- THE SECOND FORM. 'bulk': how many values and letters a reading holds, each counted each time it is reached (what is shared counts as often as it is met; a slice's spare places count too). A statement '..UptoSaid' is the law's where the arguments, and the package variables that the reading takes, are together of bulk at most 1048576: NARROWER than '..Said'. Prove '..Said' where nothing that the law and all that it calls make is longer than what came in: it says more and counts as full. Else prove '..UptoSaid'. A law counts once. -/
mutual
def uptoBulk {H : Type} : DataW H → Nat
  | .lit (.string bytes) => bytes.length + 1
  | .lit _ => 1
  | .nil => 1
  | .ptr d => uptoBulk d + 1
  | .slice elems spare => uptoBulkAll elems + uptoBulkAll spare + 1
  | .agg parts => uptoBulkAll parts + 1
  | .iface _ d => uptoBulk d + 1
  | .map entries => uptoBulkEntries entries + 1
  | .held _ => 1
def uptoBulkAll {H : Type} : List (DataW H) → Nat
  | [] => 0
  | d :: r => uptoBulk d + uptoBulkAll r
def uptoBulkEntries {H : Type} : List (Lit × DataW H) → Nat
  | [] => 0
  | x :: r => uptoBulkEntry x + uptoBulkEntries r
def uptoBulkEntry {H : Type} : Lit × DataW H → Nat
  | (.string bytes, d) => bytes.length + uptoBulk d + 1
  | (_, d) => uptoBulk d + 1
 end
def uptoSmall : (H : Type) → List (DataW H) → Bool := fun _ ds => decide (uptoBulkAll ds ≤ 1048576)
def OpenSpec.upto (s : _root_.Go.ChangeSpec) : _root_.Go.OpenSpec := { _root_.Go.OpenSpec.ofChange s with cond := some uptoSmall }

/-- 'groatlaw06.BitmapPuts', WHERE WHAT IT READS IS OF BULK AT MOST 1048576: true; the input reads as it did. -/
def bitmapPutsUptoRow : OpenClaim := { program := "ytnhogpbibcgpkaa", sum := "d999a6f67b07355b4f865230d609646a2c0001bf689d505421e09fff1101a6c8", func := "groat/groatlaw06.BitmapPuts", spec := "bitmapPuts", apart := false, narrowed := true }
def BitmapPutsUptoSaid : Prop := bitmapPutsUptoRow.holds Try.pinned (OpenSpec.upto bitmapPutsSpec)

/-- 'groatlaw06.BitmapGets', WHERE WHAT IT READS IS OF BULK AT MOST 1048576: true; the input reads as it did. -/
def bitmapGetsUptoRow : OpenClaim := { program := "ytnhogpbibcgpkaa", sum := "d999a6f67b07355b4f865230d609646a2c0001bf689d505421e09fff1101a6c8", func := "groat/groatlaw06.BitmapGets", spec := "bitmapGets", apart := false, narrowed := true }
def BitmapGetsUptoSaid : Prop := bitmapGetsUptoRow.holds Try.pinned (OpenSpec.upto bitmapGetsSpec)

/-- 'groatlaw06.BitmapBack', WHERE WHAT IT READS IS OF BULK AT MOST 1048576: true; the input reads as it did. -/
def bitmapBackUptoRow : OpenClaim := { program := "ytnhogpbibcgpkaa", sum := "d999a6f67b07355b4f865230d609646a2c0001bf689d505421e09fff1101a6c8", func := "groat/groatlaw06.BitmapBack", spec := "bitmapBack", apart := false, narrowed := true }
def BitmapBackUptoSaid : Prop := bitmapBackUptoRow.holds Try.pinned (OpenSpec.upto bitmapBackSpec)

/-- 'groatlaw06.BitmapOne', WHERE WHAT IT READS IS OF BULK AT MOST 1048576: true; the input reads as it did. -/
def bitmapOneUptoRow : OpenClaim := { program := "ytnhogpbibcgpkaa", sum := "d999a6f67b07355b4f865230d609646a2c0001bf689d505421e09fff1101a6c8", func := "groat/groatlaw06.BitmapOne", spec := "bitmapOne", apart := false, narrowed := true }
def BitmapOneUptoSaid : Prop := bitmapOneUptoRow.holds Try.pinned (OpenSpec.upto bitmapOneSpec)

/-- 'groatlaw06.BitmapStyles', WHERE WHAT IT READS IS OF BULK AT MOST 1048576: true; the input reads as it did. -/
def bitmapStylesUptoRow : OpenClaim := { program := "ytnhogpbibcgpkaa", sum := "d999a6f67b07355b4f865230d609646a2c0001bf689d505421e09fff1101a6c8", func := "groat/groatlaw06.BitmapStyles", spec := "bitmapStyles", apart := false, narrowed := true }
def BitmapStylesUptoSaid : Prop := bitmapStylesUptoRow.holds Try.pinned (OpenSpec.upto bitmapStylesSpec)

end Rows
end Go.Proofs.Ytnhogpbibcgpkaa
