/-
  DERIVED. GIVEN WITH THE SEED: THE CARDS: each row of YtdmhjabnjbpliaaGreatDoorRows.lean that lists a variable, with what it lists TIED to the program's text (the seventh form; the later family's looks); each row that meets fmt, with fmt's text TOLD by the authors' own Lean function (tested against real Go, not proved from fmt's source: count such statements apart). THE CARD IS WHAT COUNTS. Prove the row's statement (the work); the ties are given (YtdmhjabnjbpliaaGreatDoorTie.lean); close each card by the builder's one call (the guide's Derived/Test/ToyasCard.lean, 'card_holds'). Laid BY PROGRAM, IN A SANDBOX (cutbox-door.mjs). By AI agents, Wed Nov 11 2026. No macro, syntax, notation, axiom, sorry.
-/
import Derived.Test.YtdmhjabnjbpliaaGreatDoorRows
import GoSem.ClaimSeven
namespace Go.Proofs.YtdmhjabnjbpliaaGreatDoor
namespace Rows

/-- THE TIED CARD OF 'mandolinelaw16.ClientCuts'. -/
def clientCutsCard : Claim7 := { stood := { row := clientCutsRow, standIns := [], harness := (true, "89e244c0e02e902ebd6366fbb212625121e5a8cada6e24b2ef7dea0023ffbce1"), looks := true }, kinds := [], alts := [], laidByText := true, laidKinds := [.data, .data, .data, .data, .sentinel, .sentinel, .pinned], laidTests := true, laidLooks := .later }
def ClientCutsCardSaid : Prop := Claim7.holds Tryz.pinned (.plain (OpenSpec.ofChange clientCutsSpec)) clientCutsCard

/-- THE TIED CARD OF 'mandolinelaw16.ClientShort'. -/
def clientShortCard : Claim7 := { stood := { row := clientShortRow, standIns := [], harness := (true, "89e244c0e02e902ebd6366fbb212625121e5a8cada6e24b2ef7dea0023ffbce1"), looks := true }, kinds := [], alts := [], laidByText := true, laidKinds := [.data, .data, .data, .data, .sentinel, .sentinel, .pinned], laidTests := true, laidLooks := .later }
def ClientShortCardSaid : Prop := Claim7.holds Tryz.pinned (.plain (OpenSpec.ofChange clientShortSpec)) clientShortCard

/-- THE TIED CARD OF 'mandolinelaw16.ClientOne'. -/
def clientOneCard : Claim7 := { stood := { row := clientOneRow, standIns := [], harness := (true, "89e244c0e02e902ebd6366fbb212625121e5a8cada6e24b2ef7dea0023ffbce1"), looks := true }, kinds := [], alts := [], laidByText := true, laidKinds := [.data, .data, .data, .data, .sentinel, .sentinel, .pinned], laidTests := true, laidLooks := .later }
def ClientOneCardSaid : Prop := Claim7.holds Tryz.pinned (.plain (OpenSpec.ofChange clientOneSpec)) clientOneCard

/-- THE TIED CARD OF 'mandolinelaw16.ClientAsks'. -/
def clientAsksCard : Claim7 := { stood := { row := clientAsksRow, standIns := [], harness := (true, "89e244c0e02e902ebd6366fbb212625121e5a8cada6e24b2ef7dea0023ffbce1"), looks := true }, kinds := [], alts := [], laidByText := true, laidKinds := [.data, .data, .data, .data, .sentinel, .sentinel, .pinned], laidTests := true, laidLooks := .later }
def ClientAsksCardSaid : Prop := Claim7.holds Tryz.pinned (.plain (OpenSpec.ofChange clientAsksSpec)) clientAsksCard

/-- THE TIED CARD OF 'mandolinelaw16.ClientReads'. -/
def clientReadsCard : Claim7 := { stood := { row := clientReadsRow, standIns := [], harness := (true, "89e244c0e02e902ebd6366fbb212625121e5a8cada6e24b2ef7dea0023ffbce1"), looks := true }, kinds := [], alts := [], laidByText := true, laidKinds := [.data, .data, .data, .data, .sentinel, .sentinel, .pinned], laidTests := true, laidLooks := .later }
def ClientReadsCardSaid : Prop := Claim7.holds Tryz.pinned (.plain (OpenSpec.ofChange clientReadsSpec)) clientReadsCard

/-- THE TIED CARD OF 'mandolinelaw16.ClientHead'. -/
def clientHeadCard : Claim7 := { stood := { row := clientHeadRow, standIns := [], harness := (true, "89e244c0e02e902ebd6366fbb212625121e5a8cada6e24b2ef7dea0023ffbce1"), looks := true }, kinds := [], alts := [], laidByText := true, laidKinds := [.data, .data, .data, .data, .sentinel, .sentinel, .pinned], laidTests := true, laidLooks := .later }
def ClientHeadCardSaid : Prop := Claim7.holds Tryz.pinned (.plain (OpenSpec.ofChange clientHeadSpec)) clientHeadCard

/-- THE SECOND FORM's CARD OF 'mandolinelaw16.ClientCuts'. -/
def clientCutsUptoCard : Claim7 := { stood := { row := clientCutsUptoRow, standIns := [], harness := (true, "89e244c0e02e902ebd6366fbb212625121e5a8cada6e24b2ef7dea0023ffbce1"), looks := true }, kinds := [], alts := [], laidByText := true, laidKinds := [.data, .data, .data, .data, .sentinel, .sentinel, .pinned], laidTests := true, laidLooks := .later }
def ClientCutsUptoCardSaid : Prop := Claim7.holds Tryz.pinned (.plain (OpenSpec.upto clientCutsSpec)) clientCutsUptoCard

/-- THE SECOND FORM's CARD OF 'mandolinelaw16.ClientShort'. -/
def clientShortUptoCard : Claim7 := { stood := { row := clientShortUptoRow, standIns := [], harness := (true, "89e244c0e02e902ebd6366fbb212625121e5a8cada6e24b2ef7dea0023ffbce1"), looks := true }, kinds := [], alts := [], laidByText := true, laidKinds := [.data, .data, .data, .data, .sentinel, .sentinel, .pinned], laidTests := true, laidLooks := .later }
def ClientShortUptoCardSaid : Prop := Claim7.holds Tryz.pinned (.plain (OpenSpec.upto clientShortSpec)) clientShortUptoCard

/-- THE SECOND FORM's CARD OF 'mandolinelaw16.ClientOne'. -/
def clientOneUptoCard : Claim7 := { stood := { row := clientOneUptoRow, standIns := [], harness := (true, "89e244c0e02e902ebd6366fbb212625121e5a8cada6e24b2ef7dea0023ffbce1"), looks := true }, kinds := [], alts := [], laidByText := true, laidKinds := [.data, .data, .data, .data, .sentinel, .sentinel, .pinned], laidTests := true, laidLooks := .later }
def ClientOneUptoCardSaid : Prop := Claim7.holds Tryz.pinned (.plain (OpenSpec.upto clientOneSpec)) clientOneUptoCard

/-- THE SECOND FORM's CARD OF 'mandolinelaw16.ClientAsks'. -/
def clientAsksUptoCard : Claim7 := { stood := { row := clientAsksUptoRow, standIns := [], harness := (true, "89e244c0e02e902ebd6366fbb212625121e5a8cada6e24b2ef7dea0023ffbce1"), looks := true }, kinds := [], alts := [], laidByText := true, laidKinds := [.data, .data, .data, .data, .sentinel, .sentinel, .pinned], laidTests := true, laidLooks := .later }
def ClientAsksUptoCardSaid : Prop := Claim7.holds Tryz.pinned (.plain (OpenSpec.upto clientAsksSpec)) clientAsksUptoCard

/-- THE SECOND FORM's CARD OF 'mandolinelaw16.ClientReads'. -/
def clientReadsUptoCard : Claim7 := { stood := { row := clientReadsUptoRow, standIns := [], harness := (true, "89e244c0e02e902ebd6366fbb212625121e5a8cada6e24b2ef7dea0023ffbce1"), looks := true }, kinds := [], alts := [], laidByText := true, laidKinds := [.data, .data, .data, .data, .sentinel, .sentinel, .pinned], laidTests := true, laidLooks := .later }
def ClientReadsUptoCardSaid : Prop := Claim7.holds Tryz.pinned (.plain (OpenSpec.upto clientReadsSpec)) clientReadsUptoCard

/-- THE SECOND FORM's CARD OF 'mandolinelaw16.ClientHead'. -/
def clientHeadUptoCard : Claim7 := { stood := { row := clientHeadUptoRow, standIns := [], harness := (true, "89e244c0e02e902ebd6366fbb212625121e5a8cada6e24b2ef7dea0023ffbce1"), looks := true }, kinds := [], alts := [], laidByText := true, laidKinds := [.data, .data, .data, .data, .sentinel, .sentinel, .pinned], laidTests := true, laidLooks := .later }
def ClientHeadUptoCardSaid : Prop := Claim7.holds Tryz.pinned (.plain (OpenSpec.upto clientHeadSpec)) clientHeadUptoCard
end Rows
end Go.Proofs.YtdmhjabnjbpliaaGreatDoor
