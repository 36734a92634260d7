/- Layer 11: how many bytes parts have: multi.Size. A contract; conditions: spans within an object, not too many bytes. -/
import Derived.Test.YtflepnkpihfidaaGreatDoorJMulti
set_option linter.unusedVariables false
set_option linter.unusedSimpArgs false
namespace Go.Proofs.YtflepnkpihfidaaGreatDoor
open Go.RowKit
theorem spanOpen_no (f t:Int) (w:World) (h:t≠4611686018427387904):Calls Tryz.prog 157 #[.agg #[.int .i64 f,.int .i64 t]] w fun e w'=>e=.returned (.bool false)∧Gr w w':=by
 have k1:(t==4611686018427387904)=false:=by simpa using h
 have hb:=Bk.new w 48 #[.int .i64 f,.int .i64 t] (0,0)
 have hG1:=Gr.al (Gr.refl w) (Obj.cells #[.int .i64 f,.int .i64 t] 48)
 clear h
 go_enter Tryz.func157,Tryz.ntmps157
 go_upto_region 1 with fail
 generalize w.alloc (Obj.cells #[.int .i64 f,.int .i64 t] 48)=w1 at *
 generalize w.heap.size=g at *
 obtain ⟨q0,q1⟩:=hb.cells2
 clear hb
 go_wp2_with fail
 go_ret
 exact ⟨rfl,hG1⟩
end Go.Proofs.YtflepnkpihfidaaGreatDoor
