/-
  DERIVED. GIVEN WITH THE SEED: THE CARDS: each row of YtflepnkpihfidaaGreatDoorRows.lean that lists a variable, with what it lists TIED to the program's text (the seventh form; the later family's looks); each row that meets fmt, with fmt's text TOLD by the authors' own Lean function (tested against real Go, not proved from fmt's source: count such statements apart). THE CARD IS WHAT COUNTS. Prove the row's statement (the work); the ties are given (YtflepnkpihfidaaGreatDoorTie.lean); close each card by the builder's one call (the guide's Derived/Test/ToyasCard.lean, 'card_holds'). Laid BY PROGRAM, IN A SANDBOX (cutbox-door.mjs). By AI agents, Wed Nov 11 2026. No macro, syntax, notation, axiom, sorry.
-/
import Derived.Test.YtflepnkpihfidaaGreatDoorRows
import GoSem.ClaimSeven
namespace Go.Proofs.YtflepnkpihfidaaGreatDoor
namespace Rows

/-- THE TIED CARD OF 'mandolinetop.TopParts'. -/
def topPartsCard : Claim7 := { stood := { row := topPartsRow, standIns := [], harness := (true, "b0a95fb23edfa09635771a42027623b51c1eb63a065a440082a8a90addaf261d"), looks := true }, kinds := [], alts := [], laidByText := true, laidKinds := [.data, .data, .data, .data, .sentinel, .sentinel, .pinned], laidTests := true, laidLooks := .later }
def TopPartsCardSaid : Prop := Claim7.holds Tryz.pinned (.plain (OpenSpec.ofChange topPartsSpec)) topPartsCard

/-- THE TIED CARD OF 'mandolinetop.TopKnown'. -/
def topKnownCard : Claim7 := { stood := { row := topKnownRow, standIns := [], harness := (true, "b0a95fb23edfa09635771a42027623b51c1eb63a065a440082a8a90addaf261d"), looks := true }, kinds := [], alts := [], laidByText := true, laidKinds := [.data, .data, .data, .data, .pinned], laidTests := true, laidLooks := .later }
def TopKnownCardSaid : Prop := Claim7.holds Tryz.pinned (.plain (OpenSpec.ofChange topKnownSpec)) topKnownCard

/-- THE TIED CARD OF 'mandolinetop.TopCutWire'. -/
def topCutWireCard : Claim7 := { stood := { row := topCutWireRow, standIns := [], harness := (true, "b0a95fb23edfa09635771a42027623b51c1eb63a065a440082a8a90addaf261d"), looks := true }, kinds := [], alts := [], laidByText := true, laidKinds := [.data, .data, .data, .data, .sentinel, .sentinel, .pinned], laidTests := true, laidLooks := .later }
def TopCutWireCardSaid : Prop := Claim7.holds Tryz.pinned (.plain (OpenSpec.ofChange topCutWireSpec)) topCutWireCard

/-- THE TIED CARD OF 'mandolinetop.TopWire'. -/
def topWireCard : Claim7 := { stood := { row := topWireRow, standIns := [], harness := (true, "b0a95fb23edfa09635771a42027623b51c1eb63a065a440082a8a90addaf261d"), looks := true }, kinds := [], alts := [], laidByText := true, laidKinds := [.data, .data, .data, .data, .sentinel, .sentinel, .pinned], laidTests := true, laidLooks := .later }
def TopWireCardSaid : Prop := Claim7.holds Tryz.pinned (.plain (OpenSpec.ofChange topWireSpec)) topWireCard

/-- THE SECOND FORM's CARD OF 'mandolinetop.TopParts'. -/
def topPartsUptoCard : Claim7 := { stood := { row := topPartsUptoRow, standIns := [], harness := (true, "b0a95fb23edfa09635771a42027623b51c1eb63a065a440082a8a90addaf261d"), looks := true }, kinds := [], alts := [], laidByText := true, laidKinds := [.data, .data, .data, .data, .sentinel, .sentinel, .pinned], laidTests := true, laidLooks := .later }
def TopPartsUptoCardSaid : Prop := Claim7.holds Tryz.pinned (.plain (OpenSpec.upto topPartsSpec)) topPartsUptoCard

/-- THE SECOND FORM's CARD OF 'mandolinetop.TopKnown'. -/
def topKnownUptoCard : Claim7 := { stood := { row := topKnownUptoRow, standIns := [], harness := (true, "b0a95fb23edfa09635771a42027623b51c1eb63a065a440082a8a90addaf261d"), looks := true }, kinds := [], alts := [], laidByText := true, laidKinds := [.data, .data, .data, .data, .pinned], laidTests := true, laidLooks := .later }
def TopKnownUptoCardSaid : Prop := Claim7.holds Tryz.pinned (.plain (OpenSpec.upto topKnownSpec)) topKnownUptoCard

/-- THE SECOND FORM's CARD OF 'mandolinetop.TopCutWire'. -/
def topCutWireUptoCard : Claim7 := { stood := { row := topCutWireUptoRow, standIns := [], harness := (true, "b0a95fb23edfa09635771a42027623b51c1eb63a065a440082a8a90addaf261d"), looks := true }, kinds := [], alts := [], laidByText := true, laidKinds := [.data, .data, .data, .data, .sentinel, .sentinel, .pinned], laidTests := true, laidLooks := .later }
def TopCutWireUptoCardSaid : Prop := Claim7.holds Tryz.pinned (.plain (OpenSpec.upto topCutWireSpec)) topCutWireUptoCard

/-- THE SECOND FORM's CARD OF 'mandolinetop.TopWire'. -/
def topWireUptoCard : Claim7 := { stood := { row := topWireUptoRow, standIns := [], harness := (true, "b0a95fb23edfa09635771a42027623b51c1eb63a065a440082a8a90addaf261d"), looks := true }, kinds := [], alts := [], laidByText := true, laidKinds := [.data, .data, .data, .data, .sentinel, .sentinel, .pinned], laidTests := true, laidLooks := .later }
def TopWireUptoCardSaid : Prop := Claim7.holds Tryz.pinned (.plain (OpenSpec.upto topWireSpec)) topWireUptoCard
end Rows
end Go.Proofs.YtflepnkpihfidaaGreatDoor
