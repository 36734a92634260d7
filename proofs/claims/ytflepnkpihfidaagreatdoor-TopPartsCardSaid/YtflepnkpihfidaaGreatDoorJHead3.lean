/- Parts. No conditions but those that each theorem names. -/
import Derived.Test.YtflepnkpihfidaaGreatDoorJHead2
import Derived.Test.YtflepnkpihfidaaGreatDoorJLawA
import Derived.Lib.ItoaNum
import Derived.Test.YtflepnkpihfidaaGreatDoorTab
import Derived.Test.YtflepnkpihfidaaGreatDoorJBytes
import Derived.Test.YtflepnkpihfidaaGreatDoorJPut
import Derived.Test.YtflepnkpihfidaaGreatDoorJHead1
set_option linter.unusedVariables false
set_option linter.unusedSimpArgs false
namespace Go.Proofs.YtflepnkpihfidaaGreatDoor
end Go.Proofs.YtflepnkpihfidaaGreatDoor
namespace Go.Proofs.YtflepnkpihfidaaGreatDoor
open Go.RowKit
end Go.Proofs.YtflepnkpihfidaaGreatDoor
namespace Go.Proofs.YtflepnkpihfidaaGreatDoor
open Go.RowKit
end Go.Proofs.YtflepnkpihfidaaGreatDoor
namespace Go.Proofs.YtflepnkpihfidaaGreatDoor
end Go.Proofs.YtflepnkpihfidaaGreatDoor
