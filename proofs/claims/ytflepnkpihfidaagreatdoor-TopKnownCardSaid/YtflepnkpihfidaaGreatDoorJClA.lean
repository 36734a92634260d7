/- Parts. No conditions but those that each theorem names. -/
import Derived.Test.YtflepnkpihfidaaGreatDoorJFrame2
import Derived.Test.YtflepnkpihfidaaGreatDoorJHead1
import Derived.Test.YtflepnkpihfidaaGreatDoorJClientL
import Derived.Test.YtflepnkpihfidaaGreatDoorJMulti
import Derived.Test.YtflepnkpihfidaaGreatDoorJField2
import Derived.Test.YtflepnkpihfidaaGreatDoorJBytes
import Derived.Test.YtflepnkpihfidaaGreatDoorFldsOk
import Derived.Test.YtflepnkpihfidaaGreatDoorJWords
import Derived.Test.YtflepnkpihfidaaGreatDoorJGate6
import Derived.Test.YtflepnkpihfidaaGreatDoorJHead2
set_option linter.unusedVariables false
set_option linter.unusedSimpArgs false
namespace Go.Proofs.YtflepnkpihfidaaGreatDoor
open Go.RowKit
end Go.Proofs.YtflepnkpihfidaaGreatDoor
namespace Go.Proofs.YtflepnkpihfidaaGreatDoor
open Go.RowKit
end Go.Proofs.YtflepnkpihfidaaGreatDoor
namespace Go.Proofs.YtflepnkpihfidaaGreatDoor
open Go.RowKit
end Go.Proofs.YtflepnkpihfidaaGreatDoor
namespace Go.Proofs.YtflepnkpihfidaaGreatDoor
open Go.RowKit
end Go.Proofs.YtflepnkpihfidaaGreatDoor
namespace Go.Proofs.YtflepnkpihfidaaGreatDoor
open Go.RowKit
end Go.Proofs.YtflepnkpihfidaaGreatDoor
