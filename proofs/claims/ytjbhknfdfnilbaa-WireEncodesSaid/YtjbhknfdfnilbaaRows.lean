/-
  No cell of these rows narrows 'for every input' (looked for: loops, veiled, ifaces, maps, wideKeys, modest, calm, conditions, laid).
  DERIVED. THE GIVEN ROWS OF THIS SEAT. 11 by the template 'for every input the law returns true; each argument reads behind the call as it read before'; 0 by the template 'total and deterministic' (their statements: YtjbhknfdfnilbaaTotals.lean).
  GIVEN WITH THE SEED: the statements are not yours to turn. If you find one false, say at which input.
  Laid BY PROGRAM, IN A SANDBOX (cutbox-rows.mjs): the forced cells as the released guide's own fill.sh prints them over the translation 1258e68bcb5b317f… (all of the seat's roots in one cut). By AI agents, Wed Nov 11 2026. No macro, syntax, notation, axiom, sorry.
-/
import Derived.Test.YtjbhknfdfnilbaaChecked
import GoSem.Claim
import GoSem.ClaimJoined
import GoSem.ClaimMapViews
import Derived.JoinedTies
import Derived.KernelRfl
namespace Go.Proofs.Ytjbhknfdfnilbaa
/- THE CELL 'sum', in the pinned program and in every row, IS THE sha256 OF THE DUMP (.gsa) THAT YtjbhknfdfnilbaaProg.lean LOADS. Nothing in Lean hashes anything: it is a label: what it is worth is what the hold of that sum in a sandbox is worth. -/
noncomputable def Try.pinned : Pinned := { name := "ytjbhknfdfnilbaa", sum := "1258e68bcb5b317f85b517e045c40a16ff9530efefca882fad8b57ab238b4770", checked := Try.checked }
namespace Rows
def none {H : Type} : Left H := { results := [], args := [] }

/-- 'groatlaw17.WireTypes': WHATEVER THE INPUT: true; the input reads as it did. -/
def wireTypesSpec : ChangeSpec := { name := "wireTypes", fn := fun _ => fun
  | [d1, d2] => { results := [.lit (.bool true)], args := [d1, d2] }
  | _ => none }
def wireTypesRow : OpenClaim := { program := "ytjbhknfdfnilbaa", sum := "1258e68bcb5b317f85b517e045c40a16ff9530efefca882fad8b57ab238b4770", func := "groat/groatlaw17.WireTypes", spec := "wireTypes", inPlace := ["internal/abi.NoEscape"], unfollowed := true, recurses := true, apart := false }
def WireTypesSaid : Prop := wireTypesRow.holds Try.pinned (OpenSpec.ofChange wireTypesSpec)

/-- ITS FALSE NEIGHBOUR: 'it returns false'. Refute it at one input. -/
def wireTypesWrong : ChangeSpec := { name := "wireTypes", fn := fun _ => fun
  | [d1, d2] => { results := [.lit (.bool false)], args := [d1, d2] }
  | _ => none }
def WireTypesWrongFalsely : Prop := wireTypesRow.holds Try.pinned (OpenSpec.ofChange wireTypesWrong)

/-- 'groatlaw17.WireEncodes': WHATEVER THE INPUT: true; the input reads as it did. -/
def wireEncodesSpec : ChangeSpec := { name := "wireEncodes", fn := fun _ => fun
  | [d1, d2] => { results := [.lit (.bool true)], args := [d1, d2] }
  | _ => none }
def wireEncodesRow : OpenClaim := { program := "ytjbhknfdfnilbaa", sum := "1258e68bcb5b317f85b517e045c40a16ff9530efefca882fad8b57ab238b4770", func := "groat/groatlaw17.WireEncodes", spec := "wireEncodes", inPlace := ["internal/abi.NoEscape"], unfollowed := true, recurses := true, apart := false }
def WireEncodesSaid : Prop := wireEncodesRow.holds Try.pinned (OpenSpec.ofChange wireEncodesSpec)

/-- ITS FALSE NEIGHBOUR: 'it returns false'. Refute it at one input. -/
def wireEncodesWrong : ChangeSpec := { name := "wireEncodes", fn := fun _ => fun
  | [d1, d2] => { results := [.lit (.bool false)], args := [d1, d2] }
  | _ => none }
def WireEncodesWrongFalsely : Prop := wireEncodesRow.holds Try.pinned (OpenSpec.ofChange wireEncodesWrong)

/-- 'groatlaw17.WireApart': WHATEVER THE INPUT: true; the input reads as it did. -/
def wireApartSpec : ChangeSpec := { name := "wireApart", fn := fun _ => fun
  | [d1, d2, d3] => { results := [.lit (.bool true)], args := [d1, d2, d3] }
  | _ => none }
def wireApartRow : OpenClaim := { program := "ytjbhknfdfnilbaa", sum := "1258e68bcb5b317f85b517e045c40a16ff9530efefca882fad8b57ab238b4770", func := "groat/groatlaw17.WireApart", spec := "wireApart", inPlace := ["internal/abi.NoEscape"], unfollowed := true, recurses := true, apart := false }
def WireApartSaid : Prop := wireApartRow.holds Try.pinned (OpenSpec.ofChange wireApartSpec)

/-- ITS FALSE NEIGHBOUR: 'it returns false'. Refute it at one input. -/
def wireApartWrong : ChangeSpec := { name := "wireApart", fn := fun _ => fun
  | [d1, d2, d3] => { results := [.lit (.bool false)], args := [d1, d2, d3] }
  | _ => none }
def WireApartWrongFalsely : Prop := wireApartRow.holds Try.pinned (OpenSpec.ofChange wireApartWrong)

/-- 'groatlaw17.WireAdds': WHATEVER THE INPUT: true; the input reads as it did. -/
def wireAddsSpec : ChangeSpec := { name := "wireAdds", fn := fun _ => fun
  | [d1, d2, d3] => { results := [.lit (.bool true)], args := [d1, d2, d3] }
  | _ => none }
def wireAddsRow : OpenClaim := { program := "ytjbhknfdfnilbaa", sum := "1258e68bcb5b317f85b517e045c40a16ff9530efefca882fad8b57ab238b4770", func := "groat/groatlaw17.WireAdds", spec := "wireAdds", inPlace := ["internal/abi.NoEscape"], unfollowed := true, recurses := true, apart := false }
def WireAddsSaid : Prop := wireAddsRow.holds Try.pinned (OpenSpec.ofChange wireAddsSpec)

/-- ITS FALSE NEIGHBOUR: 'it returns false'. Refute it at one input. -/
def wireAddsWrong : ChangeSpec := { name := "wireAdds", fn := fun _ => fun
  | [d1, d2, d3] => { results := [.lit (.bool false)], args := [d1, d2, d3] }
  | _ => none }
def WireAddsWrongFalsely : Prop := wireAddsRow.holds Try.pinned (OpenSpec.ofChange wireAddsWrong)

/-- 'groatlaw17.WireParts': WHATEVER THE INPUT: true; the input reads as it did. -/
def wirePartsSpec : ChangeSpec := { name := "wireParts", fn := fun _ => fun
  | [d1, d2] => { results := [.lit (.bool true)], args := [d1, d2] }
  | _ => none }
def wirePartsRow : OpenClaim := { program := "ytjbhknfdfnilbaa", sum := "1258e68bcb5b317f85b517e045c40a16ff9530efefca882fad8b57ab238b4770", func := "groat/groatlaw17.WireParts", spec := "wireParts", inPlace := ["internal/abi.NoEscape"], unfollowed := true, recurses := true, apart := false }
def WirePartsSaid : Prop := wirePartsRow.holds Try.pinned (OpenSpec.ofChange wirePartsSpec)

/-- ITS FALSE NEIGHBOUR: 'it returns false'. Refute it at one input. -/
def wirePartsWrong : ChangeSpec := { name := "wireParts", fn := fun _ => fun
  | [d1, d2] => { results := [.lit (.bool false)], args := [d1, d2] }
  | _ => none }
def WirePartsWrongFalsely : Prop := wirePartsRow.holds Try.pinned (OpenSpec.ofChange wirePartsWrong)

/-- 'groatlaw18.StrictDecodes': WHATEVER THE INPUT: true; the input reads as it did. -/
def strictDecodesSpec : ChangeSpec := { name := "strictDecodes", fn := fun _ => fun
  | [d1, d2] => { results := [.lit (.bool true)], args := [d1, d2] }
  | _ => none }
def strictDecodesRow : OpenClaim := { program := "ytjbhknfdfnilbaa", sum := "1258e68bcb5b317f85b517e045c40a16ff9530efefca882fad8b57ab238b4770", func := "groat/groatlaw18.StrictDecodes", spec := "strictDecodes", apart := false }
def StrictDecodesSaid : Prop := strictDecodesRow.holds Try.pinned (OpenSpec.ofChange strictDecodesSpec)

/-- ITS FALSE NEIGHBOUR: 'it returns false'. Refute it at one input. -/
def strictDecodesWrong : ChangeSpec := { name := "strictDecodes", fn := fun _ => fun
  | [d1, d2] => { results := [.lit (.bool false)], args := [d1, d2] }
  | _ => none }
def StrictDecodesWrongFalsely : Prop := strictDecodesRow.holds Try.pinned (OpenSpec.ofChange strictDecodesWrong)

/-- 'groatlaw18.StrictPart': WHATEVER THE INPUT: true; the input reads as it did. -/
def strictPartSpec : ChangeSpec := { name := "strictPart", fn := fun _ => fun
  | [d1, d2] => { results := [.lit (.bool true)], args := [d1, d2] }
  | _ => none }
def strictPartRow : OpenClaim := { program := "ytjbhknfdfnilbaa", sum := "1258e68bcb5b317f85b517e045c40a16ff9530efefca882fad8b57ab238b4770", func := "groat/groatlaw18.StrictPart", spec := "strictPart", apart := false }
def StrictPartSaid : Prop := strictPartRow.holds Try.pinned (OpenSpec.ofChange strictPartSpec)

/-- ITS FALSE NEIGHBOUR: 'it returns false'. Refute it at one input. -/
def strictPartWrong : ChangeSpec := { name := "strictPart", fn := fun _ => fun
  | [d1, d2] => { results := [.lit (.bool false)], args := [d1, d2] }
  | _ => none }
def StrictPartWrongFalsely : Prop := strictPartRow.holds Try.pinned (OpenSpec.ofChange strictPartWrong)

/-- 'groatlaw18.StrictBack': WHATEVER THE INPUT: true; the input reads as it did. -/
def strictBackSpec : ChangeSpec := { name := "strictBack", fn := fun _ => fun
  | [d1, d2] => { results := [.lit (.bool true)], args := [d1, d2] }
  | _ => none }
def strictBackRow : OpenClaim := { program := "ytjbhknfdfnilbaa", sum := "1258e68bcb5b317f85b517e045c40a16ff9530efefca882fad8b57ab238b4770", func := "groat/groatlaw18.StrictBack", spec := "strictBack", inPlace := ["internal/abi.NoEscape"], unfollowed := true, recurses := true, apart := false }
def StrictBackSaid : Prop := strictBackRow.holds Try.pinned (OpenSpec.ofChange strictBackSpec)

/-- ITS FALSE NEIGHBOUR: 'it returns false'. Refute it at one input. -/
def strictBackWrong : ChangeSpec := { name := "strictBack", fn := fun _ => fun
  | [d1, d2] => { results := [.lit (.bool false)], args := [d1, d2] }
  | _ => none }
def StrictBackWrongFalsely : Prop := strictBackRow.holds Try.pinned (OpenSpec.ofChange strictBackWrong)

/-- 'groatlaw18.StrictOne': WHATEVER THE INPUT: true; the input reads as it did. -/
def strictOneSpec : ChangeSpec := { name := "strictOne", fn := fun _ => fun
  | [d1, d2] => { results := [.lit (.bool true)], args := [d1, d2] }
  | _ => none }
def strictOneRow : OpenClaim := { program := "ytjbhknfdfnilbaa", sum := "1258e68bcb5b317f85b517e045c40a16ff9530efefca882fad8b57ab238b4770", func := "groat/groatlaw18.StrictOne", spec := "strictOne", inPlace := ["internal/abi.NoEscape"], unfollowed := true, recurses := true, apart := false }
def StrictOneSaid : Prop := strictOneRow.holds Try.pinned (OpenSpec.ofChange strictOneSpec)

/-- ITS FALSE NEIGHBOUR: 'it returns false'. Refute it at one input. -/
def strictOneWrong : ChangeSpec := { name := "strictOne", fn := fun _ => fun
  | [d1, d2] => { results := [.lit (.bool false)], args := [d1, d2] }
  | _ => none }
def StrictOneWrongFalsely : Prop := strictOneRow.holds Try.pinned (OpenSpec.ofChange strictOneWrong)

/-- 'groatlaw18.StrictCut': WHATEVER THE INPUT: true; the input reads as it did. -/
def strictCutSpec : ChangeSpec := { name := "strictCut", fn := fun _ => fun
  | [d1, d2, d3] => { results := [.lit (.bool true)], args := [d1, d2, d3] }
  | _ => none }
def strictCutRow : OpenClaim := { program := "ytjbhknfdfnilbaa", sum := "1258e68bcb5b317f85b517e045c40a16ff9530efefca882fad8b57ab238b4770", func := "groat/groatlaw18.StrictCut", spec := "strictCut", inPlace := ["internal/abi.NoEscape"], unfollowed := true, recurses := true, apart := false }
def StrictCutSaid : Prop := strictCutRow.holds Try.pinned (OpenSpec.ofChange strictCutSpec)

/-- ITS FALSE NEIGHBOUR: 'it returns false'. Refute it at one input. -/
def strictCutWrong : ChangeSpec := { name := "strictCut", fn := fun _ => fun
  | [d1, d2, d3] => { results := [.lit (.bool false)], args := [d1, d2, d3] }
  | _ => none }
def StrictCutWrongFalsely : Prop := strictCutRow.holds Try.pinned (OpenSpec.ofChange strictCutWrong)

/-- 'groatlaw18.StrictMore': WHATEVER THE INPUT: true; the input reads as it did. -/
def strictMoreSpec : ChangeSpec := { name := "strictMore", fn := fun _ => fun
  | [d1, d2, d3] => { results := [.lit (.bool true)], args := [d1, d2, d3] }
  | _ => none }
def strictMoreRow : OpenClaim := { program := "ytjbhknfdfnilbaa", sum := "1258e68bcb5b317f85b517e045c40a16ff9530efefca882fad8b57ab238b4770", func := "groat/groatlaw18.StrictMore", spec := "strictMore", inPlace := ["internal/abi.NoEscape"], unfollowed := true, recurses := true, apart := false }
def StrictMoreSaid : Prop := strictMoreRow.holds Try.pinned (OpenSpec.ofChange strictMoreSpec)

/-- ITS FALSE NEIGHBOUR: 'it returns false'. Refute it at one input. -/
def strictMoreWrong : ChangeSpec := { name := "strictMore", fn := fun _ => fun
  | [d1, d2, d3] => { results := [.lit (.bool false)], args := [d1, d2, d3] }
  | _ => none }
def StrictMoreWrongFalsely : Prop := strictMoreRow.holds Try.pinned (OpenSpec.ofChange strictMoreWrong)

/- THE SECOND FORM. 'bulk': how many values and letters a reading holds, each counted each time it is reached (what is shared counts as often as it is met; a slice's spare places count too). A statement '..UptoSaid' is the law's where the arguments, and the package variables that the reading takes, are together of bulk at most 1048576: NARROWER than '..Said'. Prove '..Said' where nothing that the law and all that it calls make is longer than what came in: it says more and counts as full. Else prove '..UptoSaid'. A law counts once. -/
mutual
def uptoBulk {H : Type} : DataW H → Nat
  | .lit (.string bytes) => bytes.length + 1
  | .lit _ => 1
  | .nil => 1
  | .ptr d => uptoBulk d + 1
  | .slice elems spare => uptoBulkAll elems + uptoBulkAll spare + 1
  | .agg parts => uptoBulkAll parts + 1
  | .iface _ d => uptoBulk d + 1
  | .map entries => uptoBulkEntries entries + 1
  | .held _ => 1
def uptoBulkAll {H : Type} : List (DataW H) → Nat
  | [] => 0
  | d :: r => uptoBulk d + uptoBulkAll r
def uptoBulkEntries {H : Type} : List (Lit × DataW H) → Nat
  | [] => 0
  | x :: r => uptoBulkEntry x + uptoBulkEntries r
def uptoBulkEntry {H : Type} : Lit × DataW H → Nat
  | (.string bytes, d) => bytes.length + uptoBulk d + 1
  | (_, d) => uptoBulk d + 1
 end
def uptoSmall : (H : Type) → List (DataW H) → Bool := fun _ ds => decide (uptoBulkAll ds ≤ 1048576)
def OpenSpec.upto (s : _root_.Go.ChangeSpec) : _root_.Go.OpenSpec := { _root_.Go.OpenSpec.ofChange s with cond := some uptoSmall }

/-- 'groatlaw17.WireTypes', WHERE WHAT IT READS IS OF BULK AT MOST 1048576: true; the input reads as it did. -/
def wireTypesUptoRow : OpenClaim := { program := "ytjbhknfdfnilbaa", sum := "1258e68bcb5b317f85b517e045c40a16ff9530efefca882fad8b57ab238b4770", func := "groat/groatlaw17.WireTypes", spec := "wireTypes", inPlace := ["internal/abi.NoEscape"], unfollowed := true, recurses := true, apart := false, narrowed := true }
def WireTypesUptoSaid : Prop := wireTypesUptoRow.holds Try.pinned (OpenSpec.upto wireTypesSpec)

/-- 'groatlaw17.WireEncodes', WHERE WHAT IT READS IS OF BULK AT MOST 1048576: true; the input reads as it did. -/
def wireEncodesUptoRow : OpenClaim := { program := "ytjbhknfdfnilbaa", sum := "1258e68bcb5b317f85b517e045c40a16ff9530efefca882fad8b57ab238b4770", func := "groat/groatlaw17.WireEncodes", spec := "wireEncodes", inPlace := ["internal/abi.NoEscape"], unfollowed := true, recurses := true, apart := false, narrowed := true }
def WireEncodesUptoSaid : Prop := wireEncodesUptoRow.holds Try.pinned (OpenSpec.upto wireEncodesSpec)

/-- 'groatlaw17.WireApart', WHERE WHAT IT READS IS OF BULK AT MOST 1048576: true; the input reads as it did. -/
def wireApartUptoRow : OpenClaim := { program := "ytjbhknfdfnilbaa", sum := "1258e68bcb5b317f85b517e045c40a16ff9530efefca882fad8b57ab238b4770", func := "groat/groatlaw17.WireApart", spec := "wireApart", inPlace := ["internal/abi.NoEscape"], unfollowed := true, recurses := true, apart := false, narrowed := true }
def WireApartUptoSaid : Prop := wireApartUptoRow.holds Try.pinned (OpenSpec.upto wireApartSpec)

/-- 'groatlaw17.WireAdds', WHERE WHAT IT READS IS OF BULK AT MOST 1048576: true; the input reads as it did. -/
def wireAddsUptoRow : OpenClaim := { program := "ytjbhknfdfnilbaa", sum := "1258e68bcb5b317f85b517e045c40a16ff9530efefca882fad8b57ab238b4770", func := "groat/groatlaw17.WireAdds", spec := "wireAdds", inPlace := ["internal/abi.NoEscape"], unfollowed := true, recurses := true, apart := false, narrowed := true }
def WireAddsUptoSaid : Prop := wireAddsUptoRow.holds Try.pinned (OpenSpec.upto wireAddsSpec)

/-- 'groatlaw17.WireParts', WHERE WHAT IT READS IS OF BULK AT MOST 1048576: true; the input reads as it did. -/
def wirePartsUptoRow : OpenClaim := { program := "ytjbhknfdfnilbaa", sum := "1258e68bcb5b317f85b517e045c40a16ff9530efefca882fad8b57ab238b4770", func := "groat/groatlaw17.WireParts", spec := "wireParts", inPlace := ["internal/abi.NoEscape"], unfollowed := true, recurses := true, apart := false, narrowed := true }
def WirePartsUptoSaid : Prop := wirePartsUptoRow.holds Try.pinned (OpenSpec.upto wirePartsSpec)

/-- 'groatlaw18.StrictDecodes', WHERE WHAT IT READS IS OF BULK AT MOST 1048576: true; the input reads as it did. -/
def strictDecodesUptoRow : OpenClaim := { program := "ytjbhknfdfnilbaa", sum := "1258e68bcb5b317f85b517e045c40a16ff9530efefca882fad8b57ab238b4770", func := "groat/groatlaw18.StrictDecodes", spec := "strictDecodes", apart := false, narrowed := true }
def StrictDecodesUptoSaid : Prop := strictDecodesUptoRow.holds Try.pinned (OpenSpec.upto strictDecodesSpec)

/-- 'groatlaw18.StrictPart', WHERE WHAT IT READS IS OF BULK AT MOST 1048576: true; the input reads as it did. -/
def strictPartUptoRow : OpenClaim := { program := "ytjbhknfdfnilbaa", sum := "1258e68bcb5b317f85b517e045c40a16ff9530efefca882fad8b57ab238b4770", func := "groat/groatlaw18.StrictPart", spec := "strictPart", apart := false, narrowed := true }
def StrictPartUptoSaid : Prop := strictPartUptoRow.holds Try.pinned (OpenSpec.upto strictPartSpec)

/-- 'groatlaw18.StrictBack', WHERE WHAT IT READS IS OF BULK AT MOST 1048576: true; the input reads as it did. -/
def strictBackUptoRow : OpenClaim := { program := "ytjbhknfdfnilbaa", sum := "1258e68bcb5b317f85b517e045c40a16ff9530efefca882fad8b57ab238b4770", func := "groat/groatlaw18.StrictBack", spec := "strictBack", inPlace := ["internal/abi.NoEscape"], unfollowed := true, recurses := true, apart := false, narrowed := true }
def StrictBackUptoSaid : Prop := strictBackUptoRow.holds Try.pinned (OpenSpec.upto strictBackSpec)

/-- 'groatlaw18.StrictOne', WHERE WHAT IT READS IS OF BULK AT MOST 1048576: true; the input reads as it did. -/
def strictOneUptoRow : OpenClaim := { program := "ytjbhknfdfnilbaa", sum := "1258e68bcb5b317f85b517e045c40a16ff9530efefca882fad8b57ab238b4770", func := "groat/groatlaw18.StrictOne", spec := "strictOne", inPlace := ["internal/abi.NoEscape"], unfollowed := true, recurses := true, apart := false, narrowed := true }
def StrictOneUptoSaid : Prop := strictOneUptoRow.holds Try.pinned (OpenSpec.upto strictOneSpec)

/-- 'groatlaw18.StrictCut', WHERE WHAT IT READS IS OF BULK AT MOST 1048576: true; the input reads as it did. -/
def strictCutUptoRow : OpenClaim := { program := "ytjbhknfdfnilbaa", sum := "1258e68bcb5b317f85b517e045c40a16ff9530efefca882fad8b57ab238b4770", func := "groat/groatlaw18.StrictCut", spec := "strictCut", inPlace := ["internal/abi.NoEscape"], unfollowed := true, recurses := true, apart := false, narrowed := true }
def StrictCutUptoSaid : Prop := strictCutUptoRow.holds Try.pinned (OpenSpec.upto strictCutSpec)

/-- 'groatlaw18.StrictMore', WHERE WHAT IT READS IS OF BULK AT MOST 1048576: true; the input reads as it did. -/
def strictMoreUptoRow : OpenClaim := { program := "ytjbhknfdfnilbaa", sum := "1258e68bcb5b317f85b517e045c40a16ff9530efefca882fad8b57ab238b4770", func := "groat/groatlaw18.StrictMore", spec := "strictMore", inPlace := ["internal/abi.NoEscape"], unfollowed := true, recurses := true, apart := false, narrowed := true }
def StrictMoreUptoSaid : Prop := strictMoreUptoRow.holds Try.pinned (OpenSpec.upto strictMoreSpec)

end Rows
end Go.Proofs.Ytjbhknfdfnilbaa
