/- strings.SplitSeq at a separator of one byte: the texts between; its iterator as a range over a function takes it. No conditions. -/
import Derived.Test.YtflepnkpihfidaaGreatDoorShelf
import Derived.Test.YtflepnkpihfidaaGreatDoorJWords
import Derived.Lib.IndexLaws
set_option linter.unusedVariables false
set_option linter.unusedSimpArgs false
namespace Go.Proofs.YtflepnkpihfidaaGreatDoor
open Go.RowKit

end Go.Proofs.YtflepnkpihfidaaGreatDoor
