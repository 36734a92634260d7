/- The walk of the law ConfigRight. No conditions but the reach of the form, and that the tables lie. -/
import Derived.Test.YtghopokdfjcjlaaDoorConf12
namespace Go.Proofs.YtghopokdfjcjlaaDoor.lcright
open Go.RowKit
set_option maxHeartbeats 4000000 in
set_option maxRecDepth 100000 in
theorem walk (c : Cfg) (w : World) (hp : Pw w) (hn : Nm w) : Calls Tryd.prog 3 #[cfgV c] w fun e w' => e = .returned (.bool true) ∧ Gr w w' := by
  have HP := Lib.hid hp
  have HNm := Lib.hid hn
  have HR := Lib.hid (fun (w : World) => show Calls Tryd.prog 9 #[.agg #[.int .i64 c.u, .int .i64 c.wa, .int .i64 c.mo, .int .i64 c.sp, .int .i64 c.re, .int .i64 c.rt, .int .i64 c.li, .int .i64 c.bu, .int .i64 c.sh, .int .i64 c.ch]] w fun e w' => e = .returned (.bool c.right) ∧ Gr w w' from c_right_any c w)
  have HRR := Lib.hid (fun (w : World) => show Calls Tryd.prog 10 #[.agg #[.int .i64 c.u, .int .i64 c.wa, .int .i64 c.mo, .int .i64 c.sp, .int .i64 c.re, .int .i64 c.rt, .int .i64 c.li, .int .i64 c.bu, .int .i64 c.sh, .int .i64 c.ch]] w fun e w' => e = .returned (.bool c.right) ∧ Gr w w' from refRight39_any c w)
  have hb := Bk.new w 23 #[.int .i64 c.u, .int .i64 c.wa, .int .i64 c.mo, .int .i64 c.sp, .int .i64 c.re, .int .i64 c.rt, .int .i64 c.li, .int .i64 c.bu, .int .i64 c.sh, .int .i64 c.ch] (0, 0)
  have hG0 := Gr.al (Gr.refl w) (Obj.cells #[.int .i64 c.u, .int .i64 c.wa, .int .i64 c.mo, .int .i64 c.sp, .int .i64 c.re, .int .i64 c.rt, .int .i64 c.li, .int .i64 c.bu, .int .i64 c.sh, .int .i64 c.ch] 23)
  have HP1 := Lib.hid (HP.out.gr hG0)
  have HN1 := Lib.hid (HNm.out.gr hG0)
  have e1 : (c.right == c.right) = true := by simp
  generalize c.right = cr at *
  unfold cfgV
  clear hp hn HP HNm
  go_enter Tryd.func3, Tryd.ntmps3
  go_upto_region 1 with fail
  generalize w.alloc (Obj.cells #[.int .i64 c.u, .int .i64 c.wa, .int .i64 c.mo, .int .i64 c.sp, .int .i64 c.re, .int .i64 c.rt, .int .i64 c.li, .int .i64 c.bu, .int .i64 c.sh, .int .i64 c.ch] 23) = w0 at *
  generalize w.heap.size = g at *
  go_upto_region 3 with (go_at_call 8; refine (alive39_any _ HP1.out HN1.out).mono ?_; rintro e w1 ⟨rfl, hG1⟩)
  have hb1 := hb.gr hG1
  have q0 : ∀ i, (gw w1 i).cell? ⟨g, 0, none⟩ = some (.int .i64 c.u) := fun i => (hb1.gr (gw_gr w1 i)).cell 0
  have q1 : ∀ i, (gw w1 i).cell? ⟨g, 1, none⟩ = some (.int .i64 c.wa) := fun i => (hb1.gr (gw_gr w1 i)).cell 1
  have q2 : ∀ i, (gw w1 i).cell? ⟨g, 2, none⟩ = some (.int .i64 c.mo) := fun i => (hb1.gr (gw_gr w1 i)).cell 2
  have q3 : ∀ i, (gw w1 i).cell? ⟨g, 3, none⟩ = some (.int .i64 c.sp) := fun i => (hb1.gr (gw_gr w1 i)).cell 3
  have q4 : ∀ i, (gw w1 i).cell? ⟨g, 4, none⟩ = some (.int .i64 c.re) := fun i => (hb1.gr (gw_gr w1 i)).cell 4
  have q5 : ∀ i, (gw w1 i).cell? ⟨g, 5, none⟩ = some (.int .i64 c.rt) := fun i => (hb1.gr (gw_gr w1 i)).cell 5
  have q6 : ∀ i, (gw w1 i).cell? ⟨g, 6, none⟩ = some (.int .i64 c.li) := fun i => (hb1.gr (gw_gr w1 i)).cell 6
  have q7 : ∀ i, (gw w1 i).cell? ⟨g, 7, none⟩ = some (.int .i64 c.bu) := fun i => (hb1.gr (gw_gr w1 i)).cell 7
  have q8 : ∀ i, (gw w1 i).cell? ⟨g, 8, none⟩ = some (.int .i64 c.sh) := fun i => (hb1.gr (gw_gr w1 i)).cell 8
  have q9 : ∀ i, (gw w1 i).cell? ⟨g, 9, none⟩ = some (.int .i64 c.ch) := fun i => (hb1.gr (gw_gr w1 i)).cell 9
  have HGw := Lib.hid (Gr.tr hG0 hG1)
  clear hb hb1 hG0 hG1
  refine wp_region_gw (by kernel_rfl) (by kernel_rfl) ?_
  repeat (first | go_big_quiet_step ((first | (go_at_call 9; exact gw_call (HR.out _)) | (go_at_call 10; exact gw_call (HRR.out _)) | (go_at_call 11; exact gw_call (c_default_lit _)) | (go_at_call 12; exact gw_call (refDefault39_lit _)))) | quiet_step ((first | (go_at_call 9; exact gw_call (HR.out _)) | (go_at_call 10; exact gw_call (HRR.out _)) | (go_at_call 11; exact gw_call (c_default_lit _)) | (go_at_call 12; exact gw_call (refDefault39_lit _)))))
  refine wpQuiet_nil ?_; intro wq hwq; obtain ⟨iq, rfl⟩ := hwq
  go_wp2_with fail
  go_ret
  exact ⟨by simp, Gr.tr HGw.out (gw_gr _ _)⟩
end Go.Proofs.YtghopokdfjcjlaaDoor.lcright
