/- Layer 11's law: its examples. Conditions: the library's own variables hold what their types allow. -/
import Derived.Test.YtgfckbhkgggkeaaGreatDoorJMulti
set_option linter.unusedVariables false
set_option linter.unusedSimpArgs false
namespace Go.Proofs.YtgfckbhkgggkeaaGreatDoor
open Go.RowKit
end Go.Proofs.YtgfckbhkgggkeaaGreatDoor
