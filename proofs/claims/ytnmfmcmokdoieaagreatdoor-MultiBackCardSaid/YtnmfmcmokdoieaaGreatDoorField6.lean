/- The field of a line. Contract. -/
import Derived.Test.YtnmfmcmokdoieaaGreatDoorField5
import Derived.Test.YtnmfmcmokdoieaaGreatDoorJLawA
import Derived.Test.YtnmfmcmokdoieaaGreatDoorRegion
set_option linter.unusedVariables false
set_option linter.unusedSimpArgs false
namespace Go.Proofs.YtnmfmcmokdoieaaGreatDoor
open Go.RowKit
theorem fieldR_hit {l a b : List UInt8} (h : cutC l = some (a, b)) : fieldR l = ((a, trim b), right (a, trim b)) := by unfold fieldR; rw [h]
theorem fieldR_none {l : List UInt8} (h : cutC l = none) : fieldR l = (([], []), false) := by unfold fieldR; rw [h]
end Go.Proofs.YtnmfmcmokdoieaaGreatDoor
