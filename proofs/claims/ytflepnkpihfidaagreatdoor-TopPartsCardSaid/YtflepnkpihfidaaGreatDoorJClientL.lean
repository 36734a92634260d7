/- Parts. No conditions but those that each theorem names. -/
import Derived.Test.YtflepnkpihfidaaGreatDoorHeadLaw
import Derived.Test.YtflepnkpihfidaaGreatDoorJLawA
import Derived.Test.YtflepnkpihfidaaGreatDoorJFrame2
import Derived.Test.YtflepnkpihfidaaGreatDoorJMulti
import Derived.Test.YtflepnkpihfidaaGreatDoorJReq
set_option linter.unusedVariables false
set_option linter.unusedSimpArgs false
namespace Go.Proofs.YtflepnkpihfidaaGreatDoor
end Go.Proofs.YtflepnkpihfidaaGreatDoor
namespace Go.Proofs.YtflepnkpihfidaaGreatDoor
end Go.Proofs.YtflepnkpihfidaaGreatDoor
namespace Go.Proofs.YtflepnkpihfidaaGreatDoor
def crN : List UInt8 := [67, 111, 110, 116, 101, 110, 116, 45, 82, 97, 110, 103, 101]
def ctN : List UInt8 := [67, 111, 110, 116, 101, 110, 116, 45, 84, 121, 112, 101]
def sevN : List UInt8 := [109, 117, 108, 116, 105, 112, 97, 114, 116, 47, 98, 121, 116, 101, 114, 97, 110, 103, 101, 115, 59, 32, 98, 111, 117, 110, 100, 97, 114, 121, 61]
/-- what the head of an answer tells -/
structure ClH where
  st : Int
  fs : List Fld
  kind : Nat
  size : Nat
  tells : Nat
  fro : Int
  til : Int
  bnd : List UInt8
/-! ### many bytes of the body at once -/
/-! ### the head, line by line -/
end Go.Proofs.YtflepnkpihfidaaGreatDoor
namespace Go.Proofs.YtflepnkpihfidaaGreatDoor
/-! ### beginnings -/
end Go.Proofs.YtflepnkpihfidaaGreatDoor
namespace Go.Proofs.YtflepnkpihfidaaGreatDoor
/-! ### whole answers -/
/-! ### an answer of one span -/
end Go.Proofs.YtflepnkpihfidaaGreatDoor
