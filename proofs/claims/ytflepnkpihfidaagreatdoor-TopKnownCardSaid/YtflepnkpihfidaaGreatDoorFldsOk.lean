/- Fields that are read from a head: their sizes. No conditions. -/
import Derived.Test.YtflepnkpihfidaaGreatDoorJFrame2
set_option linter.unusedVariables false
set_option linter.unusedSimpArgs false
namespace Go.Proofs.YtflepnkpihfidaaGreatDoor
end Go.Proofs.YtflepnkpihfidaaGreatDoor
