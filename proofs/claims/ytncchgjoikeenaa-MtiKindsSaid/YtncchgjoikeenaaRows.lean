/-
  No cell of these rows narrows 'for every input' (looked for: loops, veiled, ifaces, maps, wideKeys, modest, calm, conditions, laid).
  DERIVED. THE GIVEN ROWS OF THIS SEAT. 4 by the template 'for every input the law returns true; each argument reads behind the call as it read before'; 0 by the template 'total and deterministic' (their statements: YtncchgjoikeenaaTotals.lean).
  GIVEN WITH THE SEED: the statements are not yours to turn. If you find one false, say at which input.
  Laid BY PROGRAM, IN A SANDBOX (cutbox-rows.mjs): the forced cells as the released guide's own fill.sh prints them over the translation 731ee82ce043947a… (all of the seat's roots in one cut). By AI agents, Wed Nov 11 2026. No macro, syntax, notation, axiom, sorry.
-/
import Derived.Test.YtncchgjoikeenaaChecked
import GoSem.Claim
import GoSem.ClaimJoined
import GoSem.ClaimMapViews
import Derived.JoinedTies
import Derived.KernelRfl
namespace Go.Proofs.Ytncchgjoikeenaa
/- THE CELL 'sum', in the pinned program and in every row, IS THE sha256 OF THE DUMP (.gsa) THAT YtncchgjoikeenaaProg.lean LOADS. Nothing in Lean hashes anything: it is a label: what it is worth is what the hold of that sum in a sandbox is worth. -/
noncomputable def Try.pinned : Pinned := { name := "ytncchgjoikeenaa", sum := "731ee82ce043947ae5be79b50411b17b0b0b9be8f88175547341afe8b0fef174", checked := Try.checked }
namespace Rows
def none {H : Type} : Left H := { results := [], args := [] }

/-- 'groatlaw15.MtiTells': WHATEVER THE INPUT: true; the input reads as it did. -/
def mtiTellsSpec : ChangeSpec := { name := "mtiTells", fn := fun _ => fun
  | [d] => { results := [.lit (.bool true)], args := [d] }
  | _ => none }
def mtiTellsRow : OpenClaim := { program := "ytncchgjoikeenaa", sum := "731ee82ce043947ae5be79b50411b17b0b0b9be8f88175547341afe8b0fef174", func := "groat/groatlaw15.MtiTells", spec := "mtiTells", apart := false }
def MtiTellsSaid : Prop := mtiTellsRow.holds Try.pinned (OpenSpec.ofChange mtiTellsSpec)

/-- ITS FALSE NEIGHBOUR: 'it returns false'. Refute it at one input. -/
def mtiTellsWrong : ChangeSpec := { name := "mtiTells", fn := fun _ => fun
  | [d] => { results := [.lit (.bool false)], args := [d] }
  | _ => none }
def MtiTellsWrongFalsely : Prop := mtiTellsRow.holds Try.pinned (OpenSpec.ofChange mtiTellsWrong)

/-- 'groatlaw15.MtiTurns': WHATEVER THE INPUT: true; the input reads as it did. -/
def mtiTurnsSpec : ChangeSpec := { name := "mtiTurns", fn := fun _ => fun
  | [d1, d2] => { results := [.lit (.bool true)], args := [d1, d2] }
  | _ => none }
def mtiTurnsRow : OpenClaim := { program := "ytncchgjoikeenaa", sum := "731ee82ce043947ae5be79b50411b17b0b0b9be8f88175547341afe8b0fef174", func := "groat/groatlaw15.MtiTurns", spec := "mtiTurns", apart := false }
def MtiTurnsSaid : Prop := mtiTurnsRow.holds Try.pinned (OpenSpec.ofChange mtiTurnsSpec)

/-- ITS FALSE NEIGHBOUR: 'it returns false'. Refute it at one input. -/
def mtiTurnsWrong : ChangeSpec := { name := "mtiTurns", fn := fun _ => fun
  | [d1, d2] => { results := [.lit (.bool false)], args := [d1, d2] }
  | _ => none }
def MtiTurnsWrongFalsely : Prop := mtiTurnsRow.holds Try.pinned (OpenSpec.ofChange mtiTurnsWrong)

/-- 'groatlaw15.MtiResponses': WHATEVER THE INPUT: true; the input reads as it did. -/
def mtiResponsesSpec : ChangeSpec := { name := "mtiResponses", fn := fun _ => fun
  | [d] => { results := [.lit (.bool true)], args := [d] }
  | _ => none }
def mtiResponsesRow : OpenClaim := { program := "ytncchgjoikeenaa", sum := "731ee82ce043947ae5be79b50411b17b0b0b9be8f88175547341afe8b0fef174", func := "groat/groatlaw15.MtiResponses", spec := "mtiResponses", apart := false }
def MtiResponsesSaid : Prop := mtiResponsesRow.holds Try.pinned (OpenSpec.ofChange mtiResponsesSpec)

/-- ITS FALSE NEIGHBOUR: 'it returns false'. Refute it at one input. -/
def mtiResponsesWrong : ChangeSpec := { name := "mtiResponses", fn := fun _ => fun
  | [d] => { results := [.lit (.bool false)], args := [d] }
  | _ => none }
def MtiResponsesWrongFalsely : Prop := mtiResponsesRow.holds Try.pinned (OpenSpec.ofChange mtiResponsesWrong)

/-- 'groatlaw15.MtiKinds': WHATEVER THE INPUT: true; the input reads as it did. -/
def mtiKindsSpec : ChangeSpec := { name := "mtiKinds", fn := fun _ => fun
  | [d1, d2, d3] => { results := [.lit (.bool true)], args := [d1, d2, d3] }
  | _ => none }
def mtiKindsRow : OpenClaim := { program := "ytncchgjoikeenaa", sum := "731ee82ce043947ae5be79b50411b17b0b0b9be8f88175547341afe8b0fef174", func := "groat/groatlaw15.MtiKinds", spec := "mtiKinds", apart := false }
def MtiKindsSaid : Prop := mtiKindsRow.holds Try.pinned (OpenSpec.ofChange mtiKindsSpec)

/-- ITS FALSE NEIGHBOUR: 'it returns false'. Refute it at one input. -/
def mtiKindsWrong : ChangeSpec := { name := "mtiKinds", fn := fun _ => fun
  | [d1, d2, d3] => { results := [.lit (.bool false)], args := [d1, d2, d3] }
  | _ => none }
def MtiKindsWrongFalsely : Prop := mtiKindsRow.holds Try.pinned (OpenSpec.ofChange mtiKindsWrong)

/- THE SECOND FORM. 'bulk': how many values and letters a reading holds, each counted each time it is reached (what is shared counts as often as it is met; a slice's spare places count too). A statement '..UptoSaid' is the law's where the arguments, and the package variables that the reading takes, are together of bulk at most 1048576: NARROWER than '..Said'. Prove '..Said' where nothing that the law and all that it calls make is longer than what came in: it says more and counts as full. Else prove '..UptoSaid'. A law counts once. -/
mutual
def uptoBulk {H : Type} : DataW H → Nat
  | .lit (.string bytes) => bytes.length + 1
  | .lit _ => 1
  | .nil => 1
  | .ptr d => uptoBulk d + 1
  | .slice elems spare => uptoBulkAll elems + uptoBulkAll spare + 1
  | .agg parts => uptoBulkAll parts + 1
  | .iface _ d => uptoBulk d + 1
  | .map entries => uptoBulkEntries entries + 1
  | .held _ => 1
def uptoBulkAll {H : Type} : List (DataW H) → Nat
  | [] => 0
  | d :: r => uptoBulk d + uptoBulkAll r
def uptoBulkEntries {H : Type} : List (Lit × DataW H) → Nat
  | [] => 0
  | x :: r => uptoBulkEntry x + uptoBulkEntries r
def uptoBulkEntry {H : Type} : Lit × DataW H → Nat
  | (.string bytes, d) => bytes.length + uptoBulk d + 1
  | (_, d) => uptoBulk d + 1
 end
def uptoSmall : (H : Type) → List (DataW H) → Bool := fun _ ds => decide (uptoBulkAll ds ≤ 1048576)
def OpenSpec.upto (s : _root_.Go.ChangeSpec) : _root_.Go.OpenSpec := { _root_.Go.OpenSpec.ofChange s with cond := some uptoSmall }

/-- 'groatlaw15.MtiTells', WHERE WHAT IT READS IS OF BULK AT MOST 1048576: true; the input reads as it did. -/
def mtiTellsUptoRow : OpenClaim := { program := "ytncchgjoikeenaa", sum := "731ee82ce043947ae5be79b50411b17b0b0b9be8f88175547341afe8b0fef174", func := "groat/groatlaw15.MtiTells", spec := "mtiTells", apart := false, narrowed := true }
def MtiTellsUptoSaid : Prop := mtiTellsUptoRow.holds Try.pinned (OpenSpec.upto mtiTellsSpec)

/-- 'groatlaw15.MtiTurns', WHERE WHAT IT READS IS OF BULK AT MOST 1048576: true; the input reads as it did. -/
def mtiTurnsUptoRow : OpenClaim := { program := "ytncchgjoikeenaa", sum := "731ee82ce043947ae5be79b50411b17b0b0b9be8f88175547341afe8b0fef174", func := "groat/groatlaw15.MtiTurns", spec := "mtiTurns", apart := false, narrowed := true }
def MtiTurnsUptoSaid : Prop := mtiTurnsUptoRow.holds Try.pinned (OpenSpec.upto mtiTurnsSpec)

/-- 'groatlaw15.MtiResponses', WHERE WHAT IT READS IS OF BULK AT MOST 1048576: true; the input reads as it did. -/
def mtiResponsesUptoRow : OpenClaim := { program := "ytncchgjoikeenaa", sum := "731ee82ce043947ae5be79b50411b17b0b0b9be8f88175547341afe8b0fef174", func := "groat/groatlaw15.MtiResponses", spec := "mtiResponses", apart := false, narrowed := true }
def MtiResponsesUptoSaid : Prop := mtiResponsesUptoRow.holds Try.pinned (OpenSpec.upto mtiResponsesSpec)

/-- 'groatlaw15.MtiKinds', WHERE WHAT IT READS IS OF BULK AT MOST 1048576: true; the input reads as it did. -/
def mtiKindsUptoRow : OpenClaim := { program := "ytncchgjoikeenaa", sum := "731ee82ce043947ae5be79b50411b17b0b0b9be8f88175547341afe8b0fef174", func := "groat/groatlaw15.MtiKinds", spec := "mtiKinds", apart := false, narrowed := true }
def MtiKindsUptoSaid : Prop := mtiKindsUptoRow.holds Try.pinned (OpenSpec.upto mtiKindsSpec)

end Rows
end Go.Proofs.Ytncchgjoikeenaa
