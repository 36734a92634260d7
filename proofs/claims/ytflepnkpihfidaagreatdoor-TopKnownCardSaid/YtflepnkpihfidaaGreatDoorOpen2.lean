/- Arguments of a law, opened: slices of bytes. No conditions beyond the row's own reach. -/
import Derived.Test.YtflepnkpihfidaaGreatDoorJRow
import Derived.Test.YtflepnkpihfidaaGreatDoorJBytes
set_option linter.unusedVariables false
set_option linter.unusedSimpArgs false
namespace Go.Proofs.YtflepnkpihfidaaGreatDoor
open Go.ChangeShapes Go.WideShapes Go.ChangeAt Go.RowKit Go.Deep Go.Joins
section
variable {H : Type} {enc : TypeId × Value → H} {P : Program}
end
end Go.Proofs.YtflepnkpihfidaaGreatDoor
