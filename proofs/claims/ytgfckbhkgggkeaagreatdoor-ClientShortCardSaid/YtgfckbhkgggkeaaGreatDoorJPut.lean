/- Several texts in one (their own heads say what each is). No conditions but those that each theorem names. -/
import Derived.Test.YtgfckbhkgggkeaaGreatDoorProg
import Derived.Test.YtgfckbhkgggkeaaGreatDoorJWords
import Derived.Test.YtgfckbhkgggkeaaGreatDoorShelf
import Derived.Lib.Builder
import Derived.Lib.AppendStr
import Derived.Test.YtgfckbhkgggkeaaGreatDoorJItems
import Derived.Test.YtgfckbhkgggkeaaGreatDoorJLawA
set_option linter.unusedVariables false
set_option linter.unusedSimpArgs false
/- XBuilder -/
namespace Go.Proofs.YtgfckbhkgggkeaaGreatDoor
open Go.RowKit
end Go.Proofs.YtgfckbhkgggkeaaGreatDoor
/- XField12 -/
namespace Go.Proofs.YtgfckbhkgggkeaaGreatDoor
open Go.RowKit
end Go.Proofs.YtgfckbhkgggkeaaGreatDoor
