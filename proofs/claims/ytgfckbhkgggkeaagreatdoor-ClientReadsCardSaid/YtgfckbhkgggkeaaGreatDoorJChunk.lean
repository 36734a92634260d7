/- Several texts in one (their own heads say what each is). No conditions but those that each theorem names. -/
import Derived.Test.YtgfckbhkgggkeaaGreatDoorJDate
import Derived.Lib.FrozenHead
import Derived.Test.YtgfckbhkgggkeaaGreatDoorJHead3
import Derived.Test.YtgfckbhkgggkeaaGreatDoorJMulti
import Derived.Test.YtgfckbhkgggkeaaGreatDoorJPut
import Derived.Lib.SlBytesConst
import Derived.Test.YtgfckbhkgggkeaaGreatDoorJReq
set_option linter.unusedVariables false
set_option linter.unusedSimpArgs false
/- XOwnM -/
namespace Go.Proofs.YtgfckbhkgggkeaaGreatDoor
open Go.RowKit
theorem by_tr2 {a b c:World} {r r':Option Nat} (h1:a.grownBy b r) (h2:b.grownBy c r') (h:r'=r∨∃k,r'=some k∧a.heap.size≤k):a.grownBy c r:=by
 refine ⟨h2.os.trans h1.os,h2.tape.trans h1.tape,h2.output.trans h1.output,Nat.le_trans h1.size h2.size,fun k hk hr=>?_⟩
 rw [h2.block k (Nat.lt_of_lt_of_le hk h1.size) (fun e=>?_),h1.block k hk hr]
 rcases h with h | ⟨j,hj,hjs⟩
 ·exact hr (e.trans h)
 ·rw [hj] at e;injection e with e;omega
theorem by_gr {a b c:World} {r:Option Nat} (h1:a.grownBy b r) (h2:Gr b c):a.grownBy c r:=by_tr2 h1 (h2.by r) (.inl rfl)
end Go.Proofs.YtgfckbhkgggkeaaGreatDoor
/- XPutW -/
namespace Go.Proofs.YtgfckbhkgggkeaaGreatDoor
open Go.RowKit
end Go.Proofs.YtgfckbhkgggkeaaGreatDoor
/- XChunk1 -/
namespace Go.Proofs.YtgfckbhkgggkeaaGreatDoor
open Go.RowKit
end Go.Proofs.YtgfckbhkgggkeaaGreatDoor
/- XChunk2 -/
namespace Go.Proofs.YtgfckbhkgggkeaaGreatDoor
open Go.RowKit
end Go.Proofs.YtgfckbhkgggkeaaGreatDoor
/- XChunk3 -/
namespace Go.Proofs.YtgfckbhkgggkeaaGreatDoor
open Go.RowKit
def bodB (st:Int):Bool:=decide (200≤st)&&st != 204&&st != 304
end Go.Proofs.YtgfckbhkgggkeaaGreatDoor
