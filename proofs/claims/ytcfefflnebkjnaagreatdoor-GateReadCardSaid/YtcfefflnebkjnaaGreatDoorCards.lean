/-
  DERIVED. GIVEN WITH THE SEED: THE CARDS: each row of YtcfefflnebkjnaaGreatDoorRows.lean that lists a variable, with what it lists TIED to the program's text (the seventh form; the later family's looks); each row that meets fmt, with fmt's text TOLD by the authors' own Lean function (tested against real Go, not proved from fmt's source: count such statements apart). THE CARD IS WHAT COUNTS. Prove the row's statement (the work); the ties are given (YtcfefflnebkjnaaGreatDoorTie.lean); close each card by the builder's one call (the guide's Derived/Test/ToyasCard.lean, 'card_holds'). Laid BY PROGRAM, IN A SANDBOX (cutbox-door.mjs). By AI agents, Wed Nov 11 2026. No macro, syntax, notation, axiom, sorry.
-/
import Derived.Test.YtcfefflnebkjnaaGreatDoorRows
import GoSem.ClaimSeven
namespace Go.Proofs.YtcfefflnebkjnaaGreatDoor
namespace Rows

/-- THE TIED CARD OF 'mandolinelaw45.GateAsks'. -/
def gateAsksCard : Claim7 := { stood := { row := gateAsksRow, standIns := [], harness := (true, "692257fa6e00e4e80196694862d9ba5734a76ba64d82d25b0c9e07b137debd0b"), looks := false }, kinds := [], alts := [], laidByText := true, laidKinds := [.data, .data, .data, .data, .pinned], laidTests := true, laidLooks := .later }
def GateAsksCardSaid : Prop := Claim7.holds Tryz.pinned (.plain (OpenSpec.ofChange gateAsksSpec)) gateAsksCard

/-- THE TIED CARD OF 'mandolinelaw45.GatePuts'. -/
def gatePutsCard : Claim7 := { stood := { row := gatePutsRow, standIns := [], harness := (true, "692257fa6e00e4e80196694862d9ba5734a76ba64d82d25b0c9e07b137debd0b"), looks := false }, kinds := [], alts := [], laidByText := true, laidKinds := [.data, .data, .data, .data, .pinned], laidTests := true, laidLooks := .later }
def GatePutsCardSaid : Prop := Claim7.holds Tryz.pinned (.plain (OpenSpec.ofChange gatePutsSpec)) gatePutsCard

/-- THE TIED CARD OF 'mandolinelaw45.GateBack'. -/
def gateBackCard : Claim7 := { stood := { row := gateBackRow, standIns := [], harness := (true, "692257fa6e00e4e80196694862d9ba5734a76ba64d82d25b0c9e07b137debd0b"), looks := false }, kinds := [], alts := [], laidByText := true, laidKinds := [.data, .data, .data, .data, .pinned], laidTests := true, laidLooks := .later }
def GateBackCardSaid : Prop := Claim7.holds Tryz.pinned (.plain (OpenSpec.ofChange gateBackSpec)) gateBackCard

/-- THE TIED CARD OF 'mandolinelaw45.GateStrange'. -/
def gateStrangeCard : Claim7 := { stood := { row := gateStrangeRow, standIns := [], harness := (true, "692257fa6e00e4e80196694862d9ba5734a76ba64d82d25b0c9e07b137debd0b"), looks := false }, kinds := [], alts := [], laidByText := true, laidKinds := [.data, .data, .data, .data, .pinned], laidTests := true, laidLooks := .later }
def GateStrangeCardSaid : Prop := Claim7.holds Tryz.pinned (.plain (OpenSpec.ofChange gateStrangeSpec)) gateStrangeCard

/-- THE TIED CARD OF 'mandolinelaw45.GateHeads'. -/
def gateHeadsCard : Claim7 := { stood := { row := gateHeadsRow, standIns := [], harness := (true, "692257fa6e00e4e80196694862d9ba5734a76ba64d82d25b0c9e07b137debd0b"), looks := false }, kinds := [], alts := [], laidByText := true, laidKinds := [.data, .data, .data, .data, .pinned], laidTests := true, laidLooks := .later }
def GateHeadsCardSaid : Prop := Claim7.holds Tryz.pinned (.plain (OpenSpec.ofChange gateHeadsSpec)) gateHeadsCard

/-- THE TIED CARD OF 'mandolinelaw45.GateWhole'. -/
def gateWholeCard : Claim7 := { stood := { row := gateWholeRow, standIns := [], harness := (true, "692257fa6e00e4e80196694862d9ba5734a76ba64d82d25b0c9e07b137debd0b"), looks := false }, kinds := [], alts := [], laidByText := true, laidKinds := [.data, .data, .data, .data, .pinned], laidTests := true, laidLooks := .later }
def GateWholeCardSaid : Prop := Claim7.holds Tryz.pinned (.plain (OpenSpec.ofChange gateWholeSpec)) gateWholeCard

/-- THE TIED CARD OF 'mandolinelaw45.GateRead'. -/
def gateReadCard : Claim7 := { stood := { row := gateReadRow, standIns := [], harness := (true, "692257fa6e00e4e80196694862d9ba5734a76ba64d82d25b0c9e07b137debd0b"), looks := false }, kinds := [], alts := [], laidByText := true, laidKinds := [.data, .data, .data, .data, .pinned], laidTests := true, laidLooks := .later }
def GateReadCardSaid : Prop := Claim7.holds Tryz.pinned (.plain (OpenSpec.ofChange gateReadSpec)) gateReadCard

/-- THE TIED CARD OF 'mandolinelaw45.GateCut'. -/
def gateCutCard : Claim7 := { stood := { row := gateCutRow, standIns := [], harness := (true, "692257fa6e00e4e80196694862d9ba5734a76ba64d82d25b0c9e07b137debd0b"), looks := false }, kinds := [], alts := [], laidByText := true, laidKinds := [.data, .data, .data, .data, .pinned], laidTests := true, laidLooks := .later }
def GateCutCardSaid : Prop := Claim7.holds Tryz.pinned (.plain (OpenSpec.ofChange gateCutSpec)) gateCutCard

/-- THE SECOND FORM's CARD OF 'mandolinelaw45.GateAsks'. -/
def gateAsksUptoCard : Claim7 := { stood := { row := gateAsksUptoRow, standIns := [], harness := (true, "692257fa6e00e4e80196694862d9ba5734a76ba64d82d25b0c9e07b137debd0b"), looks := false }, kinds := [], alts := [], laidByText := true, laidKinds := [.data, .data, .data, .data, .pinned], laidTests := true, laidLooks := .later }
def GateAsksUptoCardSaid : Prop := Claim7.holds Tryz.pinned (.plain (OpenSpec.upto gateAsksSpec)) gateAsksUptoCard

/-- THE SECOND FORM's CARD OF 'mandolinelaw45.GatePuts'. -/
def gatePutsUptoCard : Claim7 := { stood := { row := gatePutsUptoRow, standIns := [], harness := (true, "692257fa6e00e4e80196694862d9ba5734a76ba64d82d25b0c9e07b137debd0b"), looks := false }, kinds := [], alts := [], laidByText := true, laidKinds := [.data, .data, .data, .data, .pinned], laidTests := true, laidLooks := .later }
def GatePutsUptoCardSaid : Prop := Claim7.holds Tryz.pinned (.plain (OpenSpec.upto gatePutsSpec)) gatePutsUptoCard

/-- THE SECOND FORM's CARD OF 'mandolinelaw45.GateBack'. -/
def gateBackUptoCard : Claim7 := { stood := { row := gateBackUptoRow, standIns := [], harness := (true, "692257fa6e00e4e80196694862d9ba5734a76ba64d82d25b0c9e07b137debd0b"), looks := false }, kinds := [], alts := [], laidByText := true, laidKinds := [.data, .data, .data, .data, .pinned], laidTests := true, laidLooks := .later }
def GateBackUptoCardSaid : Prop := Claim7.holds Tryz.pinned (.plain (OpenSpec.upto gateBackSpec)) gateBackUptoCard

/-- THE SECOND FORM's CARD OF 'mandolinelaw45.GateStrange'. -/
def gateStrangeUptoCard : Claim7 := { stood := { row := gateStrangeUptoRow, standIns := [], harness := (true, "692257fa6e00e4e80196694862d9ba5734a76ba64d82d25b0c9e07b137debd0b"), looks := false }, kinds := [], alts := [], laidByText := true, laidKinds := [.data, .data, .data, .data, .pinned], laidTests := true, laidLooks := .later }
def GateStrangeUptoCardSaid : Prop := Claim7.holds Tryz.pinned (.plain (OpenSpec.upto gateStrangeSpec)) gateStrangeUptoCard

/-- THE SECOND FORM's CARD OF 'mandolinelaw45.GateHeads'. -/
def gateHeadsUptoCard : Claim7 := { stood := { row := gateHeadsUptoRow, standIns := [], harness := (true, "692257fa6e00e4e80196694862d9ba5734a76ba64d82d25b0c9e07b137debd0b"), looks := false }, kinds := [], alts := [], laidByText := true, laidKinds := [.data, .data, .data, .data, .pinned], laidTests := true, laidLooks := .later }
def GateHeadsUptoCardSaid : Prop := Claim7.holds Tryz.pinned (.plain (OpenSpec.upto gateHeadsSpec)) gateHeadsUptoCard

/-- THE SECOND FORM's CARD OF 'mandolinelaw45.GateWhole'. -/
def gateWholeUptoCard : Claim7 := { stood := { row := gateWholeUptoRow, standIns := [], harness := (true, "692257fa6e00e4e80196694862d9ba5734a76ba64d82d25b0c9e07b137debd0b"), looks := false }, kinds := [], alts := [], laidByText := true, laidKinds := [.data, .data, .data, .data, .pinned], laidTests := true, laidLooks := .later }
def GateWholeUptoCardSaid : Prop := Claim7.holds Tryz.pinned (.plain (OpenSpec.upto gateWholeSpec)) gateWholeUptoCard

/-- THE SECOND FORM's CARD OF 'mandolinelaw45.GateRead'. -/
def gateReadUptoCard : Claim7 := { stood := { row := gateReadUptoRow, standIns := [], harness := (true, "692257fa6e00e4e80196694862d9ba5734a76ba64d82d25b0c9e07b137debd0b"), looks := false }, kinds := [], alts := [], laidByText := true, laidKinds := [.data, .data, .data, .data, .pinned], laidTests := true, laidLooks := .later }
def GateReadUptoCardSaid : Prop := Claim7.holds Tryz.pinned (.plain (OpenSpec.upto gateReadSpec)) gateReadUptoCard

/-- THE SECOND FORM's CARD OF 'mandolinelaw45.GateCut'. -/
def gateCutUptoCard : Claim7 := { stood := { row := gateCutUptoRow, standIns := [], harness := (true, "692257fa6e00e4e80196694862d9ba5734a76ba64d82d25b0c9e07b137debd0b"), looks := false }, kinds := [], alts := [], laidByText := true, laidKinds := [.data, .data, .data, .data, .pinned], laidTests := true, laidLooks := .later }
def GateCutUptoCardSaid : Prop := Claim7.holds Tryz.pinned (.plain (OpenSpec.upto gateCutSpec)) gateCutUptoCard
end Rows
end Go.Proofs.YtcfefflnebkjnaaGreatDoor
