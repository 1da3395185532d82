/-
  DERIVED. GIVEN WITH THE SEED: THE CARDS: each row of YtkaihbkfobiejaaGreatDoorRows.lean that lists a variable, with what it lists TIED to the program's text (the seventh form; the later family's looks); each row that meets fmt, with fmt's text TOLD by the authors' own Lean function (tested against real Go, not proved from fmt's source: count such statements apart). THE CARD IS WHAT COUNTS. Prove the row's statement (the work); the ties are given (YtkaihbkfobiejaaGreatDoorTie.lean); close each card by the builder's one call (the guide's Derived/Test/ToyasCard.lean, 'card_holds'). Laid BY PROGRAM, IN A SANDBOX (cutbox-door.mjs). By AI agents, Wed Nov 11 2026. No macro, syntax, notation, axiom, sorry.
-/
import Derived.Test.YtkaihbkfobiejaaGreatDoorRows
import GoSem.ClaimSeven
namespace Go.Proofs.YtkaihbkfobiejaaGreatDoor
namespace Rows

/-- THE TIED CARD OF 'groattop.TopWire'. -/
def topWireCard : Claim7 := { stood := { row := topWireRow, standIns := [], harness := (true, "b7ca414a2153b8e4df3ff7ddd4f42c1c4a0b6aded2e5335350d13949f4940010"), looks := false }, kinds := [], alts := [], laidByText := true, laidKinds := [.data, .pinned], laidTests := true, laidLooks := .later }
def TopWireCardSaid : Prop := Claim7.holds Tryz.pinned (.plain (OpenSpec.ofChange topWireSpec)) topWireCard

/-- THE TIED CARD OF 'groattop.TopLeast'. -/
def topLeastCard : Claim7 := { stood := { row := topLeastRow, standIns := [], harness := (true, "b7ca414a2153b8e4df3ff7ddd4f42c1c4a0b6aded2e5335350d13949f4940010"), looks := false }, kinds := [], alts := [], laidByText := true, laidKinds := [.data, .pinned], laidTests := true, laidLooks := .later }
def TopLeastCardSaid : Prop := Claim7.holds Tryz.pinned (.plain (OpenSpec.ofChange topLeastSpec)) topLeastCard

/-- THE TIED CARD OF 'groattop.TopRestrict'. -/
def topRestrictCard : Claim7 := { stood := { row := topRestrictRow, standIns := [], harness := (true, "b7ca414a2153b8e4df3ff7ddd4f42c1c4a0b6aded2e5335350d13949f4940010"), looks := false }, kinds := [], alts := [], laidByText := true, laidKinds := [.data, .pinned], laidTests := true, laidLooks := .later }
def TopRestrictCardSaid : Prop := Claim7.holds Tryz.pinned (.plain (OpenSpec.ofChange topRestrictSpec)) topRestrictCard

/-- THE TIED CARD OF 'groattop.TopInverse'. -/
def topInverseCard : Claim7 := { stood := { row := topInverseRow, standIns := [], harness := (true, "b7ca414a2153b8e4df3ff7ddd4f42c1c4a0b6aded2e5335350d13949f4940010"), looks := false }, kinds := [], alts := [], laidByText := true, laidKinds := [.data, .pinned], laidTests := true, laidLooks := .later }
def TopInverseCardSaid : Prop := Claim7.holds Tryz.pinned (.plain (OpenSpec.ofChange topInverseSpec)) topInverseCard

/-- THE TIED CARD OF 'groattop.TopLinks'. -/
def topLinksCard : Claim7 := { stood := { row := topLinksRow, standIns := [], harness := (true, "b7ca414a2153b8e4df3ff7ddd4f42c1c4a0b6aded2e5335350d13949f4940010"), looks := false }, kinds := [], alts := [], laidByText := true, laidKinds := [.data, .pinned], laidTests := true, laidLooks := .later }
def TopLinksCardSaid : Prop := Claim7.holds Tryz.pinned (.plain (OpenSpec.ofChange topLinksSpec)) topLinksCard

/-- THE SECOND FORM's CARD OF 'groattop.TopWire'. -/
def topWireUptoCard : Claim7 := { stood := { row := topWireUptoRow, standIns := [], harness := (true, "b7ca414a2153b8e4df3ff7ddd4f42c1c4a0b6aded2e5335350d13949f4940010"), looks := false }, kinds := [], alts := [], laidByText := true, laidKinds := [.data, .pinned], laidTests := true, laidLooks := .later }
def TopWireUptoCardSaid : Prop := Claim7.holds Tryz.pinned (.plain (OpenSpec.upto topWireSpec)) topWireUptoCard

/-- THE SECOND FORM's CARD OF 'groattop.TopLeast'. -/
def topLeastUptoCard : Claim7 := { stood := { row := topLeastUptoRow, standIns := [], harness := (true, "b7ca414a2153b8e4df3ff7ddd4f42c1c4a0b6aded2e5335350d13949f4940010"), looks := false }, kinds := [], alts := [], laidByText := true, laidKinds := [.data, .pinned], laidTests := true, laidLooks := .later }
def TopLeastUptoCardSaid : Prop := Claim7.holds Tryz.pinned (.plain (OpenSpec.upto topLeastSpec)) topLeastUptoCard

/-- THE SECOND FORM's CARD OF 'groattop.TopRestrict'. -/
def topRestrictUptoCard : Claim7 := { stood := { row := topRestrictUptoRow, standIns := [], harness := (true, "b7ca414a2153b8e4df3ff7ddd4f42c1c4a0b6aded2e5335350d13949f4940010"), looks := false }, kinds := [], alts := [], laidByText := true, laidKinds := [.data, .pinned], laidTests := true, laidLooks := .later }
def TopRestrictUptoCardSaid : Prop := Claim7.holds Tryz.pinned (.plain (OpenSpec.upto topRestrictSpec)) topRestrictUptoCard

/-- THE SECOND FORM's CARD OF 'groattop.TopInverse'. -/
def topInverseUptoCard : Claim7 := { stood := { row := topInverseUptoRow, standIns := [], harness := (true, "b7ca414a2153b8e4df3ff7ddd4f42c1c4a0b6aded2e5335350d13949f4940010"), looks := false }, kinds := [], alts := [], laidByText := true, laidKinds := [.data, .pinned], laidTests := true, laidLooks := .later }
def TopInverseUptoCardSaid : Prop := Claim7.holds Tryz.pinned (.plain (OpenSpec.upto topInverseSpec)) topInverseUptoCard

/-- THE SECOND FORM's CARD OF 'groattop.TopLinks'. -/
def topLinksUptoCard : Claim7 := { stood := { row := topLinksUptoRow, standIns := [], harness := (true, "b7ca414a2153b8e4df3ff7ddd4f42c1c4a0b6aded2e5335350d13949f4940010"), looks := false }, kinds := [], alts := [], laidByText := true, laidKinds := [.data, .pinned], laidTests := true, laidLooks := .later }
def TopLinksUptoCardSaid : Prop := Claim7.holds Tryz.pinned (.plain (OpenSpec.upto topLinksSpec)) topLinksUptoCard
end Rows
end Go.Proofs.YtkaihbkfobiejaaGreatDoor
