/- Parts. No conditions but those that each theorem names. -/
import Derived.Test.YtflepnkpihfidaaGreatDoorJFrame1
import Derived.Test.YtflepnkpihfidaaGreatDoorJGateO
import Derived.Test.YtflepnkpihfidaaGreatDoorJGate3
import Derived.Test.YtflepnkpihfidaaGreatDoorJWords
import Derived.Test.YtflepnkpihfidaaGreatDoorJItems
import Derived.Test.YtflepnkpihfidaaGreatDoorRange2
import Derived.Test.YtflepnkpihfidaaGreatDoorJNum
import Derived.Test.YtflepnkpihfidaaGreatDoorJGate6
import Derived.Test.YtflepnkpihfidaaGreatDoorJSpec2
set_option linter.unusedVariables false
set_option linter.unusedSimpArgs false
namespace Go.Proofs.YtflepnkpihfidaaGreatDoor
end Go.Proofs.YtflepnkpihfidaaGreatDoor
namespace Go.Proofs.YtflepnkpihfidaaGreatDoor
open Go.RowKit
end Go.Proofs.YtflepnkpihfidaaGreatDoor
namespace Go.Proofs.YtflepnkpihfidaaGreatDoor
open Go.RowKit
end Go.Proofs.YtflepnkpihfidaaGreatDoor
namespace Go.Proofs.YtflepnkpihfidaaGreatDoor
open Go.RowKit
end Go.Proofs.YtflepnkpihfidaaGreatDoor
namespace Go.Proofs.YtflepnkpihfidaaGreatDoor
open Go.RowKit
end Go.Proofs.YtflepnkpihfidaaGreatDoor
namespace Go.Proofs.YtflepnkpihfidaaGreatDoor
open Go.RowKit
end Go.Proofs.YtflepnkpihfidaaGreatDoor
namespace Go.Proofs.YtflepnkpihfidaaGreatDoor
open Go.RowKit
end Go.Proofs.YtflepnkpihfidaaGreatDoor
