/-
  DERIVED. GIVEN WITH THE SEED: THE CARDS: each row of YtnmfmcmokdoieaaDoorRows.lean that lists a variable, with what it lists TIED to the program's text (the seventh form; the later family's looks); each row that meets fmt, with fmt's text TOLD by the authors' own Lean function (tested against real Go, not proved from fmt's source: count such statements apart). THE CARD IS WHAT COUNTS. Prove the row's statement (the work); the ties are given (YtnmfmcmokdoieaaDoorTie.lean); close each card by the builder's one call (the guide's Derived/Test/ToyasCard.lean, 'card_holds'). Laid BY PROGRAM, IN A SANDBOX (cutbox-door.mjs). By AI agents, Wed Nov 11 2026. No macro, syntax, notation, axiom, sorry.
-/
import Derived.Test.YtnmfmcmokdoieaaDoorRows
import GoSem.ClaimSeven
namespace Go.Proofs.YtnmfmcmokdoieaaDoor
namespace Rows

/-- THE TIED CARD OF 'mandolinelaw11.MultiValues'. -/
def multiValuesCard : Claim7 := { stood := { row := multiValuesRow, standIns := [], harness := (true, "ea455588afafbaddca8cb23191a6bc89efece5ba9cb91616e7b43a70e1f67b65"), looks := true }, kinds := [], alts := [], laidByText := true, laidKinds := [.data, .data, .data, .data, .sentinel, .sentinel, .pinned], laidTests := true, laidLooks := .later }
def MultiValuesCardSaid : Prop := Claim7.holds Tryd.pinned (.plain (OpenSpec.ofChange multiValuesSpec)) multiValuesCard

/-- THE TIED CARD OF 'mandolinelaw11.MultiReads'. -/
def multiReadsCard : Claim7 := { stood := { row := multiReadsRow, standIns := [], harness := (true, "ea455588afafbaddca8cb23191a6bc89efece5ba9cb91616e7b43a70e1f67b65"), looks := true }, kinds := [], alts := [], laidByText := true, laidKinds := [.data, .data, .data, .data, .sentinel, .sentinel, .pinned], laidTests := true, laidLooks := .later }
def MultiReadsCardSaid : Prop := Claim7.holds Tryd.pinned (.plain (OpenSpec.ofChange multiReadsSpec)) multiReadsCard

/-- THE TIED CARD OF 'mandolinelaw11.MultiCuts'. -/
def multiCutsCard : Claim7 := { stood := { row := multiCutsRow, standIns := [], harness := (true, "ea455588afafbaddca8cb23191a6bc89efece5ba9cb91616e7b43a70e1f67b65"), looks := true }, kinds := [], alts := [], laidByText := true, laidKinds := [.data, .data, .data, .data, .sentinel, .sentinel, .pinned], laidTests := true, laidLooks := .later }
def MultiCutsCardSaid : Prop := Claim7.holds Tryd.pinned (.plain (OpenSpec.ofChange multiCutsSpec)) multiCutsCard

/-- THE TIED CARD OF 'mandolinelaw11.MultiBounds'. -/
def multiBoundsCard : Claim7 := { stood := { row := multiBoundsRow, standIns := [], harness := (true, "ea455588afafbaddca8cb23191a6bc89efece5ba9cb91616e7b43a70e1f67b65"), looks := true }, kinds := [], alts := [], laidByText := true, laidKinds := [.data, .data, .data, .data, .sentinel, .sentinel, .pinned], laidTests := true, laidLooks := .later }
def MultiBoundsCardSaid : Prop := Claim7.holds Tryd.pinned (.plain (OpenSpec.ofChange multiBoundsSpec)) multiBoundsCard

/-- THE SECOND FORM's CARD OF 'mandolinelaw11.MultiValues'. -/
def multiValuesUptoCard : Claim7 := { stood := { row := multiValuesUptoRow, standIns := [], harness := (true, "ea455588afafbaddca8cb23191a6bc89efece5ba9cb91616e7b43a70e1f67b65"), looks := true }, kinds := [], alts := [], laidByText := true, laidKinds := [.data, .data, .data, .data, .sentinel, .sentinel, .pinned], laidTests := true, laidLooks := .later }
def MultiValuesUptoCardSaid : Prop := Claim7.holds Tryd.pinned (.plain (OpenSpec.upto multiValuesSpec)) multiValuesUptoCard

/-- THE SECOND FORM's CARD OF 'mandolinelaw11.MultiReads'. -/
def multiReadsUptoCard : Claim7 := { stood := { row := multiReadsUptoRow, standIns := [], harness := (true, "ea455588afafbaddca8cb23191a6bc89efece5ba9cb91616e7b43a70e1f67b65"), looks := true }, kinds := [], alts := [], laidByText := true, laidKinds := [.data, .data, .data, .data, .sentinel, .sentinel, .pinned], laidTests := true, laidLooks := .later }
def MultiReadsUptoCardSaid : Prop := Claim7.holds Tryd.pinned (.plain (OpenSpec.upto multiReadsSpec)) multiReadsUptoCard

/-- THE SECOND FORM's CARD OF 'mandolinelaw11.MultiCuts'. -/
def multiCutsUptoCard : Claim7 := { stood := { row := multiCutsUptoRow, standIns := [], harness := (true, "ea455588afafbaddca8cb23191a6bc89efece5ba9cb91616e7b43a70e1f67b65"), looks := true }, kinds := [], alts := [], laidByText := true, laidKinds := [.data, .data, .data, .data, .sentinel, .sentinel, .pinned], laidTests := true, laidLooks := .later }
def MultiCutsUptoCardSaid : Prop := Claim7.holds Tryd.pinned (.plain (OpenSpec.upto multiCutsSpec)) multiCutsUptoCard

/-- THE SECOND FORM's CARD OF 'mandolinelaw11.MultiBounds'. -/
def multiBoundsUptoCard : Claim7 := { stood := { row := multiBoundsUptoRow, standIns := [], harness := (true, "ea455588afafbaddca8cb23191a6bc89efece5ba9cb91616e7b43a70e1f67b65"), looks := true }, kinds := [], alts := [], laidByText := true, laidKinds := [.data, .data, .data, .data, .sentinel, .sentinel, .pinned], laidTests := true, laidLooks := .later }
def MultiBoundsUptoCardSaid : Prop := Claim7.holds Tryd.pinned (.plain (OpenSpec.upto multiBoundsSpec)) multiBoundsUptoCard
end Rows
end Go.Proofs.YtnmfmcmokdoieaaDoor
