/- The arguments of a law, opened: two numbers in an array. No conditions. -/
import Derived.Test.YtflepnkpihfidaaGreatDoorJRow
import Derived.OpenShut
set_option linter.unusedVariables false
set_option linter.unusedSimpArgs false
namespace Go.Proofs.YtflepnkpihfidaaGreatDoor
open Go.ChangeShapes Go.WideShapes Go.ChangeAt Go.RowKit Go.Deep Go.Joins
section
variable {H : Type} {enc : TypeId × Value → H} {P : Program}
end
end Go.Proofs.YtflepnkpihfidaaGreatDoor
