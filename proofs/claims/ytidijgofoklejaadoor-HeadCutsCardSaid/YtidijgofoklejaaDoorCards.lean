/-
  DERIVED. GIVEN WITH THE SEED: THE CARDS: each row of YtidijgofoklejaaDoorRows.lean that lists a variable, with what it lists TIED to the program's text (the seventh form; the later family's looks); each row that meets fmt, with fmt's text TOLD by the authors' own Lean function (tested against real Go, not proved from fmt's source: count such statements apart). THE CARD IS WHAT COUNTS. Prove the row's statement (the work); the ties are given (YtidijgofoklejaaDoorTie.lean); close each card by the builder's one call (the guide's Derived/Test/ToyasCard.lean, 'card_holds'). Laid BY PROGRAM, IN A SANDBOX (cutbox-door.mjs). By AI agents, Wed Nov 11 2026. No macro, syntax, notation, axiom, sorry.
-/
import Derived.Test.YtidijgofoklejaaDoorRows
import GoSem.ClaimSeven
namespace Go.Proofs.YtidijgofoklejaaDoor
namespace Rows

/-- THE TIED CARD OF 'mandolinelaw12.HeadTells'. -/
def headTellsCard : Claim7 := { stood := { row := headTellsRow, standIns := [], harness := (true, "c4abc185c1627de509e6221cabd048171e8a4f82dca4966ca234ff5f3631b2d1"), looks := false }, kinds := [], alts := [], laidByText := true, laidKinds := [.data, .pinned], laidTests := true, laidLooks := .later }
def HeadTellsCardSaid : Prop := Claim7.holds Tryd.pinned (.plain (OpenSpec.ofChange headTellsSpec)) headTellsCard

/-- THE TIED CARD OF 'mandolinelaw12.HeadNames'. -/
def headNamesCard : Claim7 := { stood := { row := headNamesRow, standIns := [], harness := (true, "c4abc185c1627de509e6221cabd048171e8a4f82dca4966ca234ff5f3631b2d1"), looks := false }, kinds := [], alts := [], laidByText := true, laidKinds := [.data, .pinned], laidTests := true, laidLooks := .later }
def HeadNamesCardSaid : Prop := Claim7.holds Tryd.pinned (.plain (OpenSpec.ofChange headNamesSpec)) headNamesCard

/-- THE TIED CARD OF 'mandolinelaw12.HeadAsks'. -/
def headAsksCard : Claim7 := { stood := { row := headAsksRow, standIns := [], harness := (true, "c4abc185c1627de509e6221cabd048171e8a4f82dca4966ca234ff5f3631b2d1"), looks := false }, kinds := [], alts := [], laidByText := true, laidKinds := [.data, .pinned], laidTests := true, laidLooks := .later }
def HeadAsksCardSaid : Prop := Claim7.holds Tryd.pinned (.plain (OpenSpec.ofChange headAsksSpec)) headAsksCard

/-- THE TIED CARD OF 'mandolinelaw12.HeadPuts'. -/
def headPutsCard : Claim7 := { stood := { row := headPutsRow, standIns := [], harness := (true, "c4abc185c1627de509e6221cabd048171e8a4f82dca4966ca234ff5f3631b2d1"), looks := false }, kinds := [], alts := [], laidByText := true, laidKinds := [.data, .data, .data, .data, .pinned], laidTests := true, laidLooks := .later }
def HeadPutsCardSaid : Prop := Claim7.holds Tryd.pinned (.plain (OpenSpec.ofChange headPutsSpec)) headPutsCard

/-- THE TIED CARD OF 'mandolinelaw12.HeadBack'. -/
def headBackCard : Claim7 := { stood := { row := headBackRow, standIns := [], harness := (true, "c4abc185c1627de509e6221cabd048171e8a4f82dca4966ca234ff5f3631b2d1"), looks := false }, kinds := [], alts := [], laidByText := true, laidKinds := [.data, .data, .data, .data, .pinned], laidTests := true, laidLooks := .later }
def HeadBackCardSaid : Prop := Claim7.holds Tryd.pinned (.plain (OpenSpec.ofChange headBackSpec)) headBackCard

/-- THE TIED CARD OF 'mandolinelaw12.HeadCuts'. -/
def headCutsCard : Claim7 := { stood := { row := headCutsRow, standIns := [], harness := (true, "c4abc185c1627de509e6221cabd048171e8a4f82dca4966ca234ff5f3631b2d1"), looks := false }, kinds := [], alts := [], laidByText := true, laidKinds := [.data, .data, .data, .data, .pinned], laidTests := true, laidLooks := .later }
def HeadCutsCardSaid : Prop := Claim7.holds Tryd.pinned (.plain (OpenSpec.ofChange headCutsSpec)) headCutsCard

/-- THE SECOND FORM's CARD OF 'mandolinelaw12.HeadTells'. -/
def headTellsUptoCard : Claim7 := { stood := { row := headTellsUptoRow, standIns := [], harness := (true, "c4abc185c1627de509e6221cabd048171e8a4f82dca4966ca234ff5f3631b2d1"), looks := false }, kinds := [], alts := [], laidByText := true, laidKinds := [.data, .pinned], laidTests := true, laidLooks := .later }
def HeadTellsUptoCardSaid : Prop := Claim7.holds Tryd.pinned (.plain (OpenSpec.upto headTellsSpec)) headTellsUptoCard

/-- THE SECOND FORM's CARD OF 'mandolinelaw12.HeadNames'. -/
def headNamesUptoCard : Claim7 := { stood := { row := headNamesUptoRow, standIns := [], harness := (true, "c4abc185c1627de509e6221cabd048171e8a4f82dca4966ca234ff5f3631b2d1"), looks := false }, kinds := [], alts := [], laidByText := true, laidKinds := [.data, .pinned], laidTests := true, laidLooks := .later }
def HeadNamesUptoCardSaid : Prop := Claim7.holds Tryd.pinned (.plain (OpenSpec.upto headNamesSpec)) headNamesUptoCard

/-- THE SECOND FORM's CARD OF 'mandolinelaw12.HeadAsks'. -/
def headAsksUptoCard : Claim7 := { stood := { row := headAsksUptoRow, standIns := [], harness := (true, "c4abc185c1627de509e6221cabd048171e8a4f82dca4966ca234ff5f3631b2d1"), looks := false }, kinds := [], alts := [], laidByText := true, laidKinds := [.data, .pinned], laidTests := true, laidLooks := .later }
def HeadAsksUptoCardSaid : Prop := Claim7.holds Tryd.pinned (.plain (OpenSpec.upto headAsksSpec)) headAsksUptoCard

/-- THE SECOND FORM's CARD OF 'mandolinelaw12.HeadPuts'. -/
def headPutsUptoCard : Claim7 := { stood := { row := headPutsUptoRow, standIns := [], harness := (true, "c4abc185c1627de509e6221cabd048171e8a4f82dca4966ca234ff5f3631b2d1"), looks := false }, kinds := [], alts := [], laidByText := true, laidKinds := [.data, .data, .data, .data, .pinned], laidTests := true, laidLooks := .later }
def HeadPutsUptoCardSaid : Prop := Claim7.holds Tryd.pinned (.plain (OpenSpec.upto headPutsSpec)) headPutsUptoCard

/-- THE SECOND FORM's CARD OF 'mandolinelaw12.HeadBack'. -/
def headBackUptoCard : Claim7 := { stood := { row := headBackUptoRow, standIns := [], harness := (true, "c4abc185c1627de509e6221cabd048171e8a4f82dca4966ca234ff5f3631b2d1"), looks := false }, kinds := [], alts := [], laidByText := true, laidKinds := [.data, .data, .data, .data, .pinned], laidTests := true, laidLooks := .later }
def HeadBackUptoCardSaid : Prop := Claim7.holds Tryd.pinned (.plain (OpenSpec.upto headBackSpec)) headBackUptoCard

/-- THE SECOND FORM's CARD OF 'mandolinelaw12.HeadCuts'. -/
def headCutsUptoCard : Claim7 := { stood := { row := headCutsUptoRow, standIns := [], harness := (true, "c4abc185c1627de509e6221cabd048171e8a4f82dca4966ca234ff5f3631b2d1"), looks := false }, kinds := [], alts := [], laidByText := true, laidKinds := [.data, .data, .data, .data, .pinned], laidTests := true, laidLooks := .later }
def HeadCutsUptoCardSaid : Prop := Claim7.holds Tryd.pinned (.plain (OpenSpec.upto headCutsSpec)) headCutsUptoCard
end Rows
end Go.Proofs.YtidijgofoklejaaDoor
