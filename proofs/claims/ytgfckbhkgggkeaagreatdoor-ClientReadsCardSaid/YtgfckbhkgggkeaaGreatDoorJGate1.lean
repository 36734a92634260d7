/- Several texts in one (their own heads say what each is). No conditions but those that each theorem names. -/
import Derived.Test.YtgfckbhkgggkeaaGreatDoorJChunk
import Derived.Test.YtgfckbhkgggkeaaGreatDoorJMulti
import Derived.Test.YtgfckbhkgggkeaaGreatDoorJHead3
import Derived.Test.YtgfckbhkgggkeaaGreatDoorJCond3
set_option linter.unusedVariables false
set_option linter.unusedSimpArgs false
/- XGate1 -/
namespace Go.Proofs.YtgfckbhkgggkeaaGreatDoor
open Go.RowKit
def lengthN:List UInt8:=[67,111,110,116,101,110,116,45,76,101,110,103,116,104]
def codingN:List UInt8:=[84,114,97,110,115,102,101,114,45,69,110,99,111,100,105,110,103]
def tellB (st:Int) (fs:List Fld) (sz:Int):Bool:=decide (100≤st)&&decide (st≤599)&&decide (-1≤sz)&&decide (sz≤1099511627776)&&decide ((ofN fs lengthN).length=0)&&decide ((ofN fs codingN).length=0)
theorem tellB_iff {st sz:Int} {fs:List Fld}:tellB st fs sz=true↔100≤st∧st≤599∧-1≤sz∧sz≤1099511627776∧ofN fs lengthN=[]∧ofN fs codingN=[]:=by
 unfold tellB;simp [and_assoc]
end Go.Proofs.YtgfckbhkgggkeaaGreatDoor
/- XGate2 -/
namespace Go.Proofs.YtgfckbhkgggkeaaGreatDoor
open Go.RowKit
def chunkedN:List UInt8:=[99,104,117,110,107,101,100]
def sizeF (sz:Int):Fld:=if sz= -1 then (codingN,chunkedN) else (lengthN,Lib.itoa sz)
def headF (st:Int) (fs:List Fld) (sz:Int):List Fld:=if bodB st then fs++[sizeF sz] else fs
end Go.Proofs.YtgfckbhkgggkeaaGreatDoor
