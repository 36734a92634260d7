/- Several texts in one (their own heads say what each is). No conditions but those that each theorem names. -/
import Derived.Test.YtgfckbhkgggkeaaGreatDoorJCond
import Derived.Test.YtgfckbhkgggkeaaGreatDoorJWords
import Derived.Test.YtgfckbhkgggkeaaGreatDoorJHead1
set_option linter.unusedVariables false
set_option linter.unusedSimpArgs false
/- XCond4 -/
namespace Go.Proofs.YtgfckbhkgggkeaaGreatDoor
open Go.RowKit
end Go.Proofs.YtgfckbhkgggkeaaGreatDoor
/- XCond5 -/
namespace Go.Proofs.YtgfckbhkgggkeaaGreatDoor
open Go.RowKit
end Go.Proofs.YtgfckbhkgggkeaaGreatDoor
