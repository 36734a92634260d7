/- The walk of the law HeadNames. No conditions but the reach of the form. -/
import Derived.Test.YtidijgofoklejaaDoorHead9
namespace Go.Proofs.YtidijgofoklejaaDoor.lnames
open Go.RowKit
set_option maxHeartbeats 2000000 in
set_option maxRecDepth 100000 in
theorem walk (s : List UInt8) (n : Int) (w : World) (hm : Ml w) (hs : s.length ≤ 140737488355328) : Calls Tryd.prog 4 #[str s, .int .i64 n] w fun e w' => e = .returned (.bool true) ∧ Gr w w' := by
  have HM := Lib.hid hm; clear hm
  by_cases hl : 400 < s.length
  · have hd : decide (400 < (s.length : Int)) = true := decide_eq_true (by omega)
    go_enter Tryd.func4, Tryd.ntmps4
    go_wp2_with (go_at_call 9; refine (awake12_any _ HM.out).mono ?_; rintro e w1 ⟨rfl, hG1⟩)
    go_ret
    exact ⟨rfl, hG1⟩
  · have hd : decide (400 < (s.length : Int)) = false := decide_eq_false (by omega)
    have hb1 : ((objB s) == (objB s)) = true := by simp
    have hb2 : ((reason n) == (reason n)) = true := by simp
    go_enter Tryd.func4, Tryd.ntmps4
    go_wp2_with (first
      | (go_at_call 14; refine (object_any _ _ (by omega)).mono ?_; rintro e w2 ⟨rfl, hG2⟩)
      | (go_at_call 15; refine (refObject_any _ _ (by omega)).mono ?_; rintro e w3 ⟨rfl, hG3⟩)
      | (go_at_call 16; refine (reason_any _ _).mono ?_; rintro e w4 ⟨rfl, hG4⟩)
      | (go_at_call 17; refine (refReason_any _ _).mono ?_; rintro e w5 ⟨rfl, hG5⟩)
      | (go_at_call 9; refine (awake12_any _ (HM.out.gr (Gr.tr hG2 (Gr.tr hG3 (Gr.tr hG4 hG5))))).mono ?_; rintro e w6 ⟨rfl, hG6⟩))
    go_ret
    exact ⟨by simp, Gr.tr hG2 (Gr.tr hG3 (Gr.tr hG4 (Gr.tr hG5 hG6)))⟩
end Go.Proofs.YtidijgofoklejaaDoor.lnames
