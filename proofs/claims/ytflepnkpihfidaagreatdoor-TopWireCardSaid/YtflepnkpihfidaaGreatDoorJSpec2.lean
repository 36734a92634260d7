/- Parts. No conditions but those that each theorem names. -/
import Derived.Test.YtflepnkpihfidaaGreatDoorJSpec
set_option linter.unusedVariables false
set_option linter.unusedSimpArgs false
namespace Go.Proofs.YtflepnkpihfidaaGreatDoor
open Go.RowKit
theorem sgr_put {w A:World} {D:Nat} (h:Gr w A) (hD:w.heap.size≤D) (o:Obj):Gr w (A.putObj D o):=
 have k:=grownBy_putObj' A D o
 ⟨k.os.trans h.os,k.tape.trans h.tape,k.output.trans h.output,Nat.le_trans h.size k.size,fun j hj=>(k.block j (Nat.lt_of_lt_of_le hj h.size) (by intro e;cases e;omega)).trans (h.block j hj)⟩
end Go.Proofs.YtflepnkpihfidaaGreatDoor
