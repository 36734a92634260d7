/- Layer 39: how a node may work. No conditions. -/
import Derived.Test.YtghopokdfjcjlaaDoorConf1
namespace Go.Proofs.YtghopokdfjcjlaaDoor
open Go.RowKit
set_option maxHeartbeats 8000000 in
theorem c_right_any (c : Cfg) (w : World) : Calls Tryd.prog 9 #[cfgV c] w fun e w' => e = .returned (.bool c.right) ∧ Gr w w' := by
  have HR := Lib.hid (show c.right = (inB c.u 4 1048576 && powB c.u && inB c.wa 0 1099511627776 && inB c.mo c.u 1099511627776 && inB c.sp 1 64 && inB c.re 0 100 && inB c.rt 0 100 && inB c.li 0 1099511627776 && inB c.bu c.u 1125899906842624 && inB c.sh c.u c.bu && inB c.ch 1 1099511627776) from rfl)
  have HP := Lib.hid (and_pow c.u)
  unfold cfgV
  cases t1 : inB c.u 4 1048576
  · go_enter Tryd.func9, Tryd.ntmps9
    go_wp2_with (go_at_call 21; refine (c_in_any _ _ _ _).mono ?_; rintro e w1 ⟨rfl, rfl⟩)
    all_goals (go_ret; refine ⟨?_, Gr.al (Gr.refl w) _⟩; rw [HR.out, t1]; rfl)
  · have HP2 := Lib.hid (HP.out t1)
    clear HP
    go_enter Tryd.func9, Tryd.ntmps9
    go_wp2_with (go_at_call 21; refine (c_in_any _ _ _ _).mono ?_; rintro e w1 ⟨rfl, rfl⟩)
    all_goals (go_ret; refine ⟨?_, Gr.al (Gr.refl w) _⟩; rw [HR.out, t1]; have HP3 := HP2.out; simp_all)
end Go.Proofs.YtghopokdfjcjlaaDoor
