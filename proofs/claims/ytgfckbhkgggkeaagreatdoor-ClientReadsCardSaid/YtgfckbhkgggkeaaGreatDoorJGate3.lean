/- Several texts in one (their own heads say what each is). No conditions but those that each theorem names. -/
import Derived.Test.YtgfckbhkgggkeaaGreatDoorJGate1
set_option linter.unusedVariables false
set_option linter.unusedSimpArgs false
/- XGate3 -/
namespace Go.Proofs.YtgfckbhkgggkeaaGreatDoor
open Go.RowKit
end Go.Proofs.YtgfckbhkgggkeaaGreatDoor
/- XGate4 -/
namespace Go.Proofs.YtgfckbhkgggkeaaGreatDoor
open Go.RowKit
end Go.Proofs.YtgfckbhkgggkeaaGreatDoor
/- XGate5 -/
namespace Go.Proofs.YtgfckbhkgggkeaaGreatDoor
open Go.RowKit
end Go.Proofs.YtgfckbhkgggkeaaGreatDoor
