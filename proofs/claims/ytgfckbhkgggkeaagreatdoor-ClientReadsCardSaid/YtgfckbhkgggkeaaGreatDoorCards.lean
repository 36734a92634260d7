/-
  DERIVED. GIVEN WITH THE SEED: THE CARDS: each row of YtgfckbhkgggkeaaGreatDoorRows.lean that lists a variable, with what it lists TIED to the program's text (the seventh form; the later family's looks); each row that meets fmt, with fmt's text TOLD by the authors' own Lean function (tested against real Go, not proved from fmt's source: count such statements apart). THE CARD IS WHAT COUNTS. Prove the row's statement (the work); the ties are given (YtgfckbhkgggkeaaGreatDoorTie.lean); close each card by the builder's one call (the guide's Derived/Test/ToyasCard.lean, 'card_holds'). Laid BY PROGRAM, IN A SANDBOX (cutbox-door.mjs). By AI agents, Wed Nov 11 2026. No macro, syntax, notation, axiom, sorry.
-/
import Derived.Test.YtgfckbhkgggkeaaGreatDoorRows
import GoSem.ClaimSeven
namespace Go.Proofs.YtgfckbhkgggkeaaGreatDoor
namespace Rows

/-- THE TIED CARD OF 'mandolinelaw16.ClientShort'. -/
def clientShortCard : Claim7 := { stood := { row := clientShortRow, standIns := [], harness := (true, "db20bde958fb807de7eb4305da37d491fb9373d3f2fb0d2a8de7c46beed923e8"), looks := true }, kinds := [], alts := [], laidByText := true, laidKinds := [.data, .data, .data, .data, .sentinel, .sentinel, .pinned], laidTests := true, laidLooks := .later }
def ClientShortCardSaid : Prop := Claim7.holds Tryz.pinned (.plain (OpenSpec.ofChange clientShortSpec)) clientShortCard

/-- THE TIED CARD OF 'mandolinelaw16.ClientReads'. -/
def clientReadsCard : Claim7 := { stood := { row := clientReadsRow, standIns := [], harness := (true, "db20bde958fb807de7eb4305da37d491fb9373d3f2fb0d2a8de7c46beed923e8"), looks := true }, kinds := [], alts := [], laidByText := true, laidKinds := [.data, .data, .data, .data, .sentinel, .sentinel, .pinned], laidTests := true, laidLooks := .later }
def ClientReadsCardSaid : Prop := Claim7.holds Tryz.pinned (.plain (OpenSpec.ofChange clientReadsSpec)) clientReadsCard

/-- THE SECOND FORM's CARD OF 'mandolinelaw16.ClientShort'. -/
def clientShortUptoCard : Claim7 := { stood := { row := clientShortUptoRow, standIns := [], harness := (true, "db20bde958fb807de7eb4305da37d491fb9373d3f2fb0d2a8de7c46beed923e8"), looks := true }, kinds := [], alts := [], laidByText := true, laidKinds := [.data, .data, .data, .data, .sentinel, .sentinel, .pinned], laidTests := true, laidLooks := .later }
def ClientShortUptoCardSaid : Prop := Claim7.holds Tryz.pinned (.plain (OpenSpec.upto clientShortSpec)) clientShortUptoCard

/-- THE SECOND FORM's CARD OF 'mandolinelaw16.ClientReads'. -/
def clientReadsUptoCard : Claim7 := { stood := { row := clientReadsUptoRow, standIns := [], harness := (true, "db20bde958fb807de7eb4305da37d491fb9373d3f2fb0d2a8de7c46beed923e8"), looks := true }, kinds := [], alts := [], laidByText := true, laidKinds := [.data, .data, .data, .data, .sentinel, .sentinel, .pinned], laidTests := true, laidLooks := .later }
def ClientReadsUptoCardSaid : Prop := Claim7.holds Tryz.pinned (.plain (OpenSpec.upto clientReadsSpec)) clientReadsUptoCard
end Rows
end Go.Proofs.YtgfckbhkgggkeaaGreatDoor
