/-
  No cell of these rows narrows 'for every input' (looked for: loops, veiled, ifaces, maps, wideKeys, modest, calm, conditions, laid).
  DERIVED. THE GIVEN ROWS OF THIS SEAT. 10 by the template 'for every input the law returns true; each argument reads behind the call as it read before'; 0 by the template 'total and deterministic' (their statements: YtkhmdcllookjkaaTotals.lean).
  GIVEN WITH THE SEED: the statements are not yours to turn. If you find one false, say at which input.
  Laid BY PROGRAM, IN A SANDBOX (cutbox-rows.mjs): the forced cells as the released guide's own fill.sh prints them over the translation ec46deb872b7c1a2… (all of the seat's roots in one cut). By AI agents, Wed Nov 11 2026. No macro, syntax, notation, axiom, sorry.
-/
import Derived.Test.YtkhmdcllookjkaaChecked
import GoSem.Claim
import GoSem.ClaimJoined
import GoSem.ClaimMapViews
import Derived.JoinedTies
import Derived.KernelRfl
namespace Go.Proofs.Ytkhmdcllookjkaa
/- THE CELL 'sum', in the pinned program and in every row, IS THE sha256 OF THE DUMP (.gsa) THAT YtkhmdcllookjkaaProg.lean LOADS. Nothing in Lean hashes anything: it is a label: what it is worth is what the hold of that sum in a sandbox is worth. -/
noncomputable def Try.pinned : Pinned := { name := "ytkhmdcllookjkaa", sum := "ec46deb872b7c1a2356a6f032c24bf494f761a1b569aec91bd86419be295395d", checked := Try.checked }
namespace Rows
def none {H : Type} : Left H := { results := [], args := [] }

/-- 'groatlaw16.MsgChecks': WHATEVER THE INPUT: true; the input reads as it did. -/
def msgChecksSpec : ChangeSpec := { name := "msgChecks", fn := fun _ => fun
  | [d1, d2] => { results := [.lit (.bool true)], args := [d1, d2] }
  | _ => none }
def msgChecksRow : OpenClaim := { program := "ytkhmdcllookjkaa", sum := "ec46deb872b7c1a2356a6f032c24bf494f761a1b569aec91bd86419be295395d", func := "groat/groatlaw16.MsgChecks", spec := "msgChecks", unfollowed := true, recurses := true, apart := false }
def MsgChecksSaid : Prop := msgChecksRow.holds Try.pinned (OpenSpec.ofChange msgChecksSpec)

/-- ITS FALSE NEIGHBOUR: 'it returns false'. Refute it at one input. -/
def msgChecksWrong : ChangeSpec := { name := "msgChecks", fn := fun _ => fun
  | [d1, d2] => { results := [.lit (.bool false)], args := [d1, d2] }
  | _ => none }
def MsgChecksWrongFalsely : Prop := msgChecksRow.holds Try.pinned (OpenSpec.ofChange msgChecksWrong)

/-- 'groatlaw16.MsgWith': WHATEVER THE INPUT: true; the input reads as it did. -/
def msgWithSpec : ChangeSpec := { name := "msgWith", fn := fun _ => fun
  | [d1, d2, d3] => { results := [.lit (.bool true)], args := [d1, d2, d3] }
  | _ => none }
def msgWithRow : OpenClaim := { program := "ytkhmdcllookjkaa", sum := "ec46deb872b7c1a2356a6f032c24bf494f761a1b569aec91bd86419be295395d", func := "groat/groatlaw16.MsgWith", spec := "msgWith", unfollowed := true, recurses := true, apart := false }
def MsgWithSaid : Prop := msgWithRow.holds Try.pinned (OpenSpec.ofChange msgWithSpec)

/-- ITS FALSE NEIGHBOUR: 'it returns false'. Refute it at one input. -/
def msgWithWrong : ChangeSpec := { name := "msgWith", fn := fun _ => fun
  | [d1, d2, d3] => { results := [.lit (.bool false)], args := [d1, d2, d3] }
  | _ => none }
def MsgWithWrongFalsely : Prop := msgWithRow.holds Try.pinned (OpenSpec.ofChange msgWithWrong)

/-- 'groatlaw16.MsgSame': WHATEVER THE INPUT: true; the input reads as it did. -/
def msgSameSpec : ChangeSpec := { name := "msgSame", fn := fun _ => fun
  | [d1, d2] => { results := [.lit (.bool true)], args := [d1, d2] }
  | _ => none }
def msgSameRow : OpenClaim := { program := "ytkhmdcllookjkaa", sum := "ec46deb872b7c1a2356a6f032c24bf494f761a1b569aec91bd86419be295395d", func := "groat/groatlaw16.MsgSame", spec := "msgSame", unfollowed := true, recurses := true, apart := false }
def MsgSameSaid : Prop := msgSameRow.holds Try.pinned (OpenSpec.ofChange msgSameSpec)

/-- ITS FALSE NEIGHBOUR: 'it returns false'. Refute it at one input. -/
def msgSameWrong : ChangeSpec := { name := "msgSame", fn := fun _ => fun
  | [d1, d2] => { results := [.lit (.bool false)], args := [d1, d2] }
  | _ => none }
def MsgSameWrongFalsely : Prop := msgSameRow.holds Try.pinned (OpenSpec.ofChange msgSameWrong)

/-- 'groatlaw16.MsgValid': WHATEVER THE INPUT: true; the input reads as it did. -/
def msgValidSpec : ChangeSpec := { name := "msgValid", fn := fun _ => fun
  | [d1, d2, d3] => { results := [.lit (.bool true)], args := [d1, d2, d3] }
  | _ => none }
def msgValidRow : OpenClaim := { program := "ytkhmdcllookjkaa", sum := "ec46deb872b7c1a2356a6f032c24bf494f761a1b569aec91bd86419be295395d", func := "groat/groatlaw16.MsgValid", spec := "msgValid", unfollowed := true, recurses := true, apart := false }
def MsgValidSaid : Prop := msgValidRow.holds Try.pinned (OpenSpec.ofChange msgValidSpec)

/-- ITS FALSE NEIGHBOUR: 'it returns false'. Refute it at one input. -/
def msgValidWrong : ChangeSpec := { name := "msgValid", fn := fun _ => fun
  | [d1, d2, d3] => { results := [.lit (.bool false)], args := [d1, d2, d3] }
  | _ => none }
def MsgValidWrongFalsely : Prop := msgValidRow.holds Try.pinned (OpenSpec.ofChange msgValidWrong)

/-- 'groatlaw16.MsgGets': WHATEVER THE INPUT: true; the input reads as it did. -/
def msgGetsSpec : ChangeSpec := { name := "msgGets", fn := fun _ => fun
  | [d1, d2] => { results := [.lit (.bool true)], args := [d1, d2] }
  | _ => none }
def msgGetsRow : OpenClaim := { program := "ytkhmdcllookjkaa", sum := "ec46deb872b7c1a2356a6f032c24bf494f761a1b569aec91bd86419be295395d", func := "groat/groatlaw16.MsgGets", spec := "msgGets", unfollowed := true, recurses := true, apart := false }
def MsgGetsSaid : Prop := msgGetsRow.holds Try.pinned (OpenSpec.ofChange msgGetsSpec)

/-- ITS FALSE NEIGHBOUR: 'it returns false'. Refute it at one input. -/
def msgGetsWrong : ChangeSpec := { name := "msgGets", fn := fun _ => fun
  | [d1, d2] => { results := [.lit (.bool false)], args := [d1, d2] }
  | _ => none }
def MsgGetsWrongFalsely : Prop := msgGetsRow.holds Try.pinned (OpenSpec.ofChange msgGetsWrong)

/-- 'groatlaw23.RejectChecks': WHATEVER THE INPUT: true; the input reads as it did. -/
def rejectChecksSpec : ChangeSpec := { name := "rejectChecks", fn := fun _ => fun
  | [d] => { results := [.lit (.bool true)], args := [d] }
  | _ => none }
def rejectChecksRow : OpenClaim := { program := "ytkhmdcllookjkaa", sum := "ec46deb872b7c1a2356a6f032c24bf494f761a1b569aec91bd86419be295395d", func := "groat/groatlaw23.RejectChecks", spec := "rejectChecks", unfollowed := true, recurses := true, apart := false }
def RejectChecksSaid : Prop := rejectChecksRow.holds Try.pinned (OpenSpec.ofChange rejectChecksSpec)

/-- ITS FALSE NEIGHBOUR: 'it returns false'. Refute it at one input. -/
def rejectChecksWrong : ChangeSpec := { name := "rejectChecks", fn := fun _ => fun
  | [d] => { results := [.lit (.bool false)], args := [d] }
  | _ => none }
def RejectChecksWrongFalsely : Prop := rejectChecksRow.holds Try.pinned (OpenSpec.ofChange rejectChecksWrong)

/-- 'groatlaw23.RejectCodes': WHATEVER THE INPUT: true; the input reads as it did. -/
def rejectCodesSpec : ChangeSpec := { name := "rejectCodes", fn := fun _ => fun
  | [d1, d2] => { results := [.lit (.bool true)], args := [d1, d2] }
  | _ => none }
def rejectCodesRow : OpenClaim := { program := "ytkhmdcllookjkaa", sum := "ec46deb872b7c1a2356a6f032c24bf494f761a1b569aec91bd86419be295395d", func := "groat/groatlaw23.RejectCodes", spec := "rejectCodes", unfollowed := true, recurses := true, apart := false }
def RejectCodesSaid : Prop := rejectCodesRow.holds Try.pinned (OpenSpec.ofChange rejectCodesSpec)

/-- ITS FALSE NEIGHBOUR: 'it returns false'. Refute it at one input. -/
def rejectCodesWrong : ChangeSpec := { name := "rejectCodes", fn := fun _ => fun
  | [d1, d2] => { results := [.lit (.bool false)], args := [d1, d2] }
  | _ => none }
def RejectCodesWrongFalsely : Prop := rejectCodesRow.holds Try.pinned (OpenSpec.ofChange rejectCodesWrong)

/-- 'groatlaw23.RejectBuilds': WHATEVER THE INPUT: true; the input reads as it did. -/
def rejectBuildsSpec : ChangeSpec := { name := "rejectBuilds", fn := fun _ => fun
  | [d1, d2, d3] => { results := [.lit (.bool true)], args := [d1, d2, d3] }
  | _ => none }
def rejectBuildsRow : OpenClaim := { program := "ytkhmdcllookjkaa", sum := "ec46deb872b7c1a2356a6f032c24bf494f761a1b569aec91bd86419be295395d", func := "groat/groatlaw23.RejectBuilds", spec := "rejectBuilds", unfollowed := true, recurses := true, apart := false }
def RejectBuildsSaid : Prop := rejectBuildsRow.holds Try.pinned (OpenSpec.ofChange rejectBuildsSpec)

/-- ITS FALSE NEIGHBOUR: 'it returns false'. Refute it at one input. -/
def rejectBuildsWrong : ChangeSpec := { name := "rejectBuilds", fn := fun _ => fun
  | [d1, d2, d3] => { results := [.lit (.bool false)], args := [d1, d2, d3] }
  | _ => none }
def RejectBuildsWrongFalsely : Prop := rejectBuildsRow.holds Try.pinned (OpenSpec.ofChange rejectBuildsWrong)

/-- 'groatlaw23.RejectEchoes': WHATEVER THE INPUT: true; the input reads as it did. -/
def rejectEchoesSpec : ChangeSpec := { name := "rejectEchoes", fn := fun _ => fun
  | [d1, d2, d3] => { results := [.lit (.bool true)], args := [d1, d2, d3] }
  | _ => none }
def rejectEchoesRow : OpenClaim := { program := "ytkhmdcllookjkaa", sum := "ec46deb872b7c1a2356a6f032c24bf494f761a1b569aec91bd86419be295395d", func := "groat/groatlaw23.RejectEchoes", spec := "rejectEchoes", unfollowed := true, recurses := true, apart := false }
def RejectEchoesSaid : Prop := rejectEchoesRow.holds Try.pinned (OpenSpec.ofChange rejectEchoesSpec)

/-- ITS FALSE NEIGHBOUR: 'it returns false'. Refute it at one input. -/
def rejectEchoesWrong : ChangeSpec := { name := "rejectEchoes", fn := fun _ => fun
  | [d1, d2, d3] => { results := [.lit (.bool false)], args := [d1, d2, d3] }
  | _ => none }
def RejectEchoesWrongFalsely : Prop := rejectEchoesRow.holds Try.pinned (OpenSpec.ofChange rejectEchoesWrong)

/-- 'groatlaw23.RejectValid': WHATEVER THE INPUT: true; the input reads as it did. -/
def rejectValidSpec : ChangeSpec := { name := "rejectValid", fn := fun _ => fun
  | [d1, d2, d3] => { results := [.lit (.bool true)], args := [d1, d2, d3] }
  | _ => none }
def rejectValidRow : OpenClaim := { program := "ytkhmdcllookjkaa", sum := "ec46deb872b7c1a2356a6f032c24bf494f761a1b569aec91bd86419be295395d", func := "groat/groatlaw23.RejectValid", spec := "rejectValid", unfollowed := true, recurses := true, apart := false }
def RejectValidSaid : Prop := rejectValidRow.holds Try.pinned (OpenSpec.ofChange rejectValidSpec)

/-- ITS FALSE NEIGHBOUR: 'it returns false'. Refute it at one input. -/
def rejectValidWrong : ChangeSpec := { name := "rejectValid", fn := fun _ => fun
  | [d1, d2, d3] => { results := [.lit (.bool false)], args := [d1, d2, d3] }
  | _ => none }
def RejectValidWrongFalsely : Prop := rejectValidRow.holds Try.pinned (OpenSpec.ofChange rejectValidWrong)

/- THE SECOND FORM. 'bulk': how many values and letters a reading holds, each counted each time it is reached (what is shared counts as often as it is met; a slice's spare places count too). A statement '..UptoSaid' is the law's where the arguments, and the package variables that the reading takes, are together of bulk at most 1048576: NARROWER than '..Said'. Prove '..Said' where nothing that the law and all that it calls make is longer than what came in: it says more and counts as full. Else prove '..UptoSaid'. A law counts once. -/
mutual
def uptoBulk {H : Type} : DataW H → Nat
  | .lit (.string bytes) => bytes.length + 1
  | .lit _ => 1
  | .nil => 1
  | .ptr d => uptoBulk d + 1
  | .slice elems spare => uptoBulkAll elems + uptoBulkAll spare + 1
  | .agg parts => uptoBulkAll parts + 1
  | .iface _ d => uptoBulk d + 1
  | .map entries => uptoBulkEntries entries + 1
  | .held _ => 1
def uptoBulkAll {H : Type} : List (DataW H) → Nat
  | [] => 0
  | d :: r => uptoBulk d + uptoBulkAll r
def uptoBulkEntries {H : Type} : List (Lit × DataW H) → Nat
  | [] => 0
  | x :: r => uptoBulkEntry x + uptoBulkEntries r
def uptoBulkEntry {H : Type} : Lit × DataW H → Nat
  | (.string bytes, d) => bytes.length + uptoBulk d + 1
  | (_, d) => uptoBulk d + 1
 end
def uptoSmall : (H : Type) → List (DataW H) → Bool := fun _ ds => decide (uptoBulkAll ds ≤ 1048576)
def OpenSpec.upto (s : _root_.Go.ChangeSpec) : _root_.Go.OpenSpec := { _root_.Go.OpenSpec.ofChange s with cond := some uptoSmall }

/-- 'groatlaw16.MsgChecks', WHERE WHAT IT READS IS OF BULK AT MOST 1048576: true; the input reads as it did. -/
def msgChecksUptoRow : OpenClaim := { program := "ytkhmdcllookjkaa", sum := "ec46deb872b7c1a2356a6f032c24bf494f761a1b569aec91bd86419be295395d", func := "groat/groatlaw16.MsgChecks", spec := "msgChecks", unfollowed := true, recurses := true, apart := false, narrowed := true }
def MsgChecksUptoSaid : Prop := msgChecksUptoRow.holds Try.pinned (OpenSpec.upto msgChecksSpec)

/-- 'groatlaw16.MsgWith', WHERE WHAT IT READS IS OF BULK AT MOST 1048576: true; the input reads as it did. -/
def msgWithUptoRow : OpenClaim := { program := "ytkhmdcllookjkaa", sum := "ec46deb872b7c1a2356a6f032c24bf494f761a1b569aec91bd86419be295395d", func := "groat/groatlaw16.MsgWith", spec := "msgWith", unfollowed := true, recurses := true, apart := false, narrowed := true }
def MsgWithUptoSaid : Prop := msgWithUptoRow.holds Try.pinned (OpenSpec.upto msgWithSpec)

/-- 'groatlaw16.MsgSame', WHERE WHAT IT READS IS OF BULK AT MOST 1048576: true; the input reads as it did. -/
def msgSameUptoRow : OpenClaim := { program := "ytkhmdcllookjkaa", sum := "ec46deb872b7c1a2356a6f032c24bf494f761a1b569aec91bd86419be295395d", func := "groat/groatlaw16.MsgSame", spec := "msgSame", unfollowed := true, recurses := true, apart := false, narrowed := true }
def MsgSameUptoSaid : Prop := msgSameUptoRow.holds Try.pinned (OpenSpec.upto msgSameSpec)

/-- 'groatlaw16.MsgValid', WHERE WHAT IT READS IS OF BULK AT MOST 1048576: true; the input reads as it did. -/
def msgValidUptoRow : OpenClaim := { program := "ytkhmdcllookjkaa", sum := "ec46deb872b7c1a2356a6f032c24bf494f761a1b569aec91bd86419be295395d", func := "groat/groatlaw16.MsgValid", spec := "msgValid", unfollowed := true, recurses := true, apart := false, narrowed := true }
def MsgValidUptoSaid : Prop := msgValidUptoRow.holds Try.pinned (OpenSpec.upto msgValidSpec)

/-- 'groatlaw16.MsgGets', WHERE WHAT IT READS IS OF BULK AT MOST 1048576: true; the input reads as it did. -/
def msgGetsUptoRow : OpenClaim := { program := "ytkhmdcllookjkaa", sum := "ec46deb872b7c1a2356a6f032c24bf494f761a1b569aec91bd86419be295395d", func := "groat/groatlaw16.MsgGets", spec := "msgGets", unfollowed := true, recurses := true, apart := false, narrowed := true }
def MsgGetsUptoSaid : Prop := msgGetsUptoRow.holds Try.pinned (OpenSpec.upto msgGetsSpec)

/-- 'groatlaw23.RejectChecks', WHERE WHAT IT READS IS OF BULK AT MOST 1048576: true; the input reads as it did. -/
def rejectChecksUptoRow : OpenClaim := { program := "ytkhmdcllookjkaa", sum := "ec46deb872b7c1a2356a6f032c24bf494f761a1b569aec91bd86419be295395d", func := "groat/groatlaw23.RejectChecks", spec := "rejectChecks", unfollowed := true, recurses := true, apart := false, narrowed := true }
def RejectChecksUptoSaid : Prop := rejectChecksUptoRow.holds Try.pinned (OpenSpec.upto rejectChecksSpec)

/-- 'groatlaw23.RejectCodes', WHERE WHAT IT READS IS OF BULK AT MOST 1048576: true; the input reads as it did. -/
def rejectCodesUptoRow : OpenClaim := { program := "ytkhmdcllookjkaa", sum := "ec46deb872b7c1a2356a6f032c24bf494f761a1b569aec91bd86419be295395d", func := "groat/groatlaw23.RejectCodes", spec := "rejectCodes", unfollowed := true, recurses := true, apart := false, narrowed := true }
def RejectCodesUptoSaid : Prop := rejectCodesUptoRow.holds Try.pinned (OpenSpec.upto rejectCodesSpec)

/-- 'groatlaw23.RejectBuilds', WHERE WHAT IT READS IS OF BULK AT MOST 1048576: true; the input reads as it did. -/
def rejectBuildsUptoRow : OpenClaim := { program := "ytkhmdcllookjkaa", sum := "ec46deb872b7c1a2356a6f032c24bf494f761a1b569aec91bd86419be295395d", func := "groat/groatlaw23.RejectBuilds", spec := "rejectBuilds", unfollowed := true, recurses := true, apart := false, narrowed := true }
def RejectBuildsUptoSaid : Prop := rejectBuildsUptoRow.holds Try.pinned (OpenSpec.upto rejectBuildsSpec)

/-- 'groatlaw23.RejectEchoes', WHERE WHAT IT READS IS OF BULK AT MOST 1048576: true; the input reads as it did. -/
def rejectEchoesUptoRow : OpenClaim := { program := "ytkhmdcllookjkaa", sum := "ec46deb872b7c1a2356a6f032c24bf494f761a1b569aec91bd86419be295395d", func := "groat/groatlaw23.RejectEchoes", spec := "rejectEchoes", unfollowed := true, recurses := true, apart := false, narrowed := true }
def RejectEchoesUptoSaid : Prop := rejectEchoesUptoRow.holds Try.pinned (OpenSpec.upto rejectEchoesSpec)

/-- 'groatlaw23.RejectValid', WHERE WHAT IT READS IS OF BULK AT MOST 1048576: true; the input reads as it did. -/
def rejectValidUptoRow : OpenClaim := { program := "ytkhmdcllookjkaa", sum := "ec46deb872b7c1a2356a6f032c24bf494f761a1b569aec91bd86419be295395d", func := "groat/groatlaw23.RejectValid", spec := "rejectValid", unfollowed := true, recurses := true, apart := false, narrowed := true }
def RejectValidUptoSaid : Prop := rejectValidUptoRow.holds Try.pinned (OpenSpec.upto rejectValidSpec)

end Rows
end Go.Proofs.Ytkhmdcllookjkaa
