/-
  DERIVED. GIVEN WITH THE SEED: THE CARDS: each row of YtnmfmcmokdoieaaGreatDoorRows.lean that lists a variable, with what it lists TIED to the program's text (the seventh form; the later family's looks); each row that meets fmt, with fmt's text TOLD by the authors' own Lean function (tested against real Go, not proved from fmt's source: count such statements apart). THE CARD IS WHAT COUNTS. Prove the row's statement (the work); the ties are given (YtnmfmcmokdoieaaGreatDoorTie.lean); close each card by the builder's one call (the guide's Derived/Test/ToyasCard.lean, 'card_holds'). Laid BY PROGRAM, IN A SANDBOX (cutbox-door.mjs). By AI agents, Wed Nov 11 2026. No macro, syntax, notation, axiom, sorry.
-/
import Derived.Test.YtnmfmcmokdoieaaGreatDoorRows
import GoSem.ClaimSeven
namespace Go.Proofs.YtnmfmcmokdoieaaGreatDoor
namespace Rows

/-- THE TIED CARD OF 'mandolinelaw11.MultiBack'. -/
def multiBackCard : Claim7 := { stood := { row := multiBackRow, standIns := [], harness := (true, "47eaa618045773f68e6f29d36d8ee69c7956bae18db99ce0b59e4962dede0d75"), looks := true }, kinds := [], alts := [], laidByText := true, laidKinds := [.data, .data, .data, .data, .sentinel, .sentinel, .pinned], laidTests := true, laidLooks := .later }
def MultiBackCardSaid : Prop := Claim7.holds Tryz.pinned (.plain (OpenSpec.ofChange multiBackSpec)) multiBackCard

/-- THE SECOND FORM's CARD OF 'mandolinelaw11.MultiBack'. -/
def multiBackUptoCard : Claim7 := { stood := { row := multiBackUptoRow, standIns := [], harness := (true, "47eaa618045773f68e6f29d36d8ee69c7956bae18db99ce0b59e4962dede0d75"), looks := true }, kinds := [], alts := [], laidByText := true, laidKinds := [.data, .data, .data, .data, .sentinel, .sentinel, .pinned], laidTests := true, laidLooks := .later }
def MultiBackUptoCardSaid : Prop := Claim7.holds Tryz.pinned (.plain (OpenSpec.upto multiBackSpec)) multiBackUptoCard
end Rows
end Go.Proofs.YtnmfmcmokdoieaaGreatDoor
