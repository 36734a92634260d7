/-
  DERIVED. GIVEN WITH THE SEED: THE CARDS: each row of YtghopokdfjcjlaaDoorRows.lean that lists a variable, with what it lists TIED to the program's text (the seventh form; the later family's looks); each row that meets fmt, with fmt's text TOLD by the authors' own Lean function (tested against real Go, not proved from fmt's source: count such statements apart). THE CARD IS WHAT COUNTS. Prove the row's statement (the work); the ties are given (YtghopokdfjcjlaaDoorTie.lean); close each card by the builder's one call (the guide's Derived/Test/ToyasCard.lean, 'card_holds'). Laid BY PROGRAM, IN A SANDBOX (cutbox-door.mjs). By AI agents, Wed Nov 11 2026. No macro, syntax, notation, axiom, sorry.
-/
import Derived.Test.YtghopokdfjcjlaaDoorRows
import GoSem.ClaimSeven
namespace Go.Proofs.YtghopokdfjcjlaaDoor
namespace Rows

/-- THE TIED CARD OF 'mandolinelaw39.ConfigRight'. -/
def configRightCard : Claim7 := { stood := { row := configRightRow, standIns := [], harness := (true, "fe30690a3cbdaec5db79a122b72788a34e0ef622c3b829c8545888af75cd3e7b"), looks := false }, kinds := [], alts := [], laidByText := true, laidKinds := [.data, .data, .data, .data, .data, .pinned], laidTests := true, laidLooks := .later }
def ConfigRightCardSaid : Prop := Claim7.holds Tryd.pinned (.plain (OpenSpec.ofChange configRightSpec)) configRightCard

/-- THE TIED CARD OF 'mandolinelaw39.ConfigSizes'. -/
def configSizesCard : Claim7 := { stood := { row := configSizesRow, standIns := [], harness := (true, "fe30690a3cbdaec5db79a122b72788a34e0ef622c3b829c8545888af75cd3e7b"), looks := false }, kinds := [], alts := [], laidByText := true, laidKinds := [.data, .data, .data, .data, .data, .pinned], laidTests := true, laidLooks := .later }
def ConfigSizesCardSaid : Prop := Claim7.holds Tryd.pinned (.plain (OpenSpec.ofChange configSizesSpec)) configSizesCard

/-- THE TIED CARD OF 'mandolinelaw39.ConfigTexts'. -/
def configTextsCard : Claim7 := { stood := { row := configTextsRow, standIns := [], harness := (true, "fe30690a3cbdaec5db79a122b72788a34e0ef622c3b829c8545888af75cd3e7b"), looks := false }, kinds := [], alts := [], laidByText := true, laidKinds := [.data, .data, .data, .data, .data, .pinned], laidTests := true, laidLooks := .later }
def ConfigTextsCardSaid : Prop := Claim7.holds Tryd.pinned (.plain (OpenSpec.ofChange configTextsSpec)) configTextsCard

/-- THE TIED CARD OF 'mandolinelaw39.ConfigBack'. -/
def configBackCard : Claim7 := { stood := { row := configBackRow, standIns := [], harness := (true, "fe30690a3cbdaec5db79a122b72788a34e0ef622c3b829c8545888af75cd3e7b"), looks := false }, kinds := [], alts := [], laidByText := true, laidKinds := [.data, .data, .data, .data, .data, .pinned], laidTests := true, laidLooks := .later }
def ConfigBackCardSaid : Prop := Claim7.holds Tryd.pinned (.plain (OpenSpec.ofChange configBackSpec)) configBackCard

/-- THE TIED CARD OF 'mandolinelaw39.ConfigKind'. -/
def configKindCard : Claim7 := { stood := { row := configKindRow, standIns := [], harness := (true, "fe30690a3cbdaec5db79a122b72788a34e0ef622c3b829c8545888af75cd3e7b"), looks := false }, kinds := [], alts := [], laidByText := true, laidKinds := [.data, .data, .data, .data, .data, .pinned], laidTests := true, laidLooks := .later }
def ConfigKindCardSaid : Prop := Claim7.holds Tryd.pinned (.plain (OpenSpec.ofChange configKindSpec)) configKindCard

/-- THE SECOND FORM's CARD OF 'mandolinelaw39.ConfigRight'. -/
def configRightUptoCard : Claim7 := { stood := { row := configRightUptoRow, standIns := [], harness := (true, "fe30690a3cbdaec5db79a122b72788a34e0ef622c3b829c8545888af75cd3e7b"), looks := false }, kinds := [], alts := [], laidByText := true, laidKinds := [.data, .data, .data, .data, .data, .pinned], laidTests := true, laidLooks := .later }
def ConfigRightUptoCardSaid : Prop := Claim7.holds Tryd.pinned (.plain (OpenSpec.upto configRightSpec)) configRightUptoCard

/-- THE SECOND FORM's CARD OF 'mandolinelaw39.ConfigSizes'. -/
def configSizesUptoCard : Claim7 := { stood := { row := configSizesUptoRow, standIns := [], harness := (true, "fe30690a3cbdaec5db79a122b72788a34e0ef622c3b829c8545888af75cd3e7b"), looks := false }, kinds := [], alts := [], laidByText := true, laidKinds := [.data, .data, .data, .data, .data, .pinned], laidTests := true, laidLooks := .later }
def ConfigSizesUptoCardSaid : Prop := Claim7.holds Tryd.pinned (.plain (OpenSpec.upto configSizesSpec)) configSizesUptoCard

/-- THE SECOND FORM's CARD OF 'mandolinelaw39.ConfigTexts'. -/
def configTextsUptoCard : Claim7 := { stood := { row := configTextsUptoRow, standIns := [], harness := (true, "fe30690a3cbdaec5db79a122b72788a34e0ef622c3b829c8545888af75cd3e7b"), looks := false }, kinds := [], alts := [], laidByText := true, laidKinds := [.data, .data, .data, .data, .data, .pinned], laidTests := true, laidLooks := .later }
def ConfigTextsUptoCardSaid : Prop := Claim7.holds Tryd.pinned (.plain (OpenSpec.upto configTextsSpec)) configTextsUptoCard

/-- THE SECOND FORM's CARD OF 'mandolinelaw39.ConfigBack'. -/
def configBackUptoCard : Claim7 := { stood := { row := configBackUptoRow, standIns := [], harness := (true, "fe30690a3cbdaec5db79a122b72788a34e0ef622c3b829c8545888af75cd3e7b"), looks := false }, kinds := [], alts := [], laidByText := true, laidKinds := [.data, .data, .data, .data, .data, .pinned], laidTests := true, laidLooks := .later }
def ConfigBackUptoCardSaid : Prop := Claim7.holds Tryd.pinned (.plain (OpenSpec.upto configBackSpec)) configBackUptoCard

/-- THE SECOND FORM's CARD OF 'mandolinelaw39.ConfigKind'. -/
def configKindUptoCard : Claim7 := { stood := { row := configKindUptoRow, standIns := [], harness := (true, "fe30690a3cbdaec5db79a122b72788a34e0ef622c3b829c8545888af75cd3e7b"), looks := false }, kinds := [], alts := [], laidByText := true, laidKinds := [.data, .data, .data, .data, .data, .pinned], laidTests := true, laidLooks := .later }
def ConfigKindUptoCardSaid : Prop := Claim7.holds Tryd.pinned (.plain (OpenSpec.upto configKindSpec)) configKindUptoCard
end Rows
end Go.Proofs.YtghopokdfjcjlaaDoor
