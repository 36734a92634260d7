/- The walk of the law HeadAsks. No conditions but the reach of the form. -/
import Derived.Test.YtidijgofoklejaaDoorHead12
namespace Go.Proofs.YtidijgofoklejaaDoor.lasks
open Go.RowKit
set_option maxHeartbeats 2000000 in
set_option maxRecDepth 100000 in
theorem walk (v : Value) (s : List UInt8) (w : World) (hm : Ml w) (hb : Byts w v s) (hs : s.length ≤ 140737488355328) : Calls Tryd.prog 5 #[v] w fun e w' => e = .returned (.bool true) ∧ Gr w w' := by
  obtain ⟨A, c, rfl, hc, hm', ho⟩ := hb.open
  have HB := Lib.hid hb; have HM := Lib.hid hm; clear hb hm ho
  by_cases hl : 900 < s.length
  · have hd : decide (900 < (s.length : Int)) = true := decide_eq_true (by omega)
    go_enter Tryd.func5, Tryd.ntmps5
    go_wp2_with (go_at_call 9; refine (awake12_any _ HM.out).mono ?_; rintro e w1 ⟨rfl, hG1⟩)
    go_ret
    exact ⟨rfl, hG1⟩
  · have hd : decide (900 < (s.length : Int)) = false := decide_eq_false (by omega)
    have hs9 : s.length ≤ 900 := by omega
    clear hl hs
    have HP := Lib.hid (fun (v : Value) (w : World) (h1 : Byts w v s) (h2 : Ml w) => ask_any v s w h1 h2 (by omega))
    have HR := Lib.hid (fun (w : World) => refAsk_any s w (by omega))
    generalize askR s = T at HP HR
    go_enter Tryd.func5, Tryd.ntmps5
    go_wp2_with (at_builtin; refine wpList_appS elemByte rfl _ _ rfl rfl rfl (Gr.al (Gr.refl w) _).size (own_empty w _) (HB.out.gr (Gr.al (Gr.refl w) _)) (by simp) (one_byt _) (by omega) (by omega) ?_; intro v' w1 hown1 happ1; rw [Nat.zero_add] at hown1; obtain ⟨A1, c1, rfl⟩ := hown1.form; have HO1 := Lib.hid hown1; have hG1 := happ1.gr (Gr.al (Gr.refl w) _) (own_empty w _); clear hown1 happ1)
    refine (HP.out _ _ (own_byts HO1.out (by simp) (by simp)) (HM.out.gr hG1)).mono ?_
    rintro e w2 ⟨A2, c2, rfl, hf2, hG2, _⟩
    have HF2 := Lib.hid hf2
    have hGw2 := Gr.tr hG1 hG2
    have hb2 := Lib.hid (Bk.new w2 26 #[str T.1.1, str T.1.2.1, .int .i64 T.1.2.2.1, .slice A2 T.1.2.2.2.length c2] (0, 0))
    clear hf2 HO1 HP hG1 hG2
    go_upto_region 4 with fail
    have hGa := Gr.al (Gr.refl w2) (Obj.cells #[str T.1.1, str T.1.2.1, .int .i64 T.1.2.2.1, .slice A2 T.1.2.2.2.length c2] 26)
    generalize w2.alloc (Obj.cells #[str T.1.1, str T.1.2.1, .int .i64 T.1.2.2.1, .slice A2 T.1.2.2.2.length c2] 26) = w3 at *
    generalize w2.heap.size = g at *
    have hGw3 := Gr.tr hGw2 hGa
    have HB3 := Lib.hid (HB.out.gr hGw3)
    have HF3 := Lib.hid (HF2.out.gr hGa)
    clear HF2 hGa hGw2
    go_wp2_with (refine wpList_toStr _ rfl rfl rfl HB3.out ?_)
    refine (HR.out _).mono ?_
    rintro e w4 ⟨A4, c4, rfl, hf4, hG4, _⟩
    have HF4 := Lib.hid hf4
    have HF5 := Lib.hid (HF3.out.gr hG4)
    have hGw4 := Gr.tr hGw3 hG4
    have hb4 := Lib.hid (hb2.out.gr hG4)
    have hr4 := Lib.hid (Bk.new w4 30 #[str T.1.1, str T.1.2.1, .int .i64 T.1.2.2.1, .slice A4 T.1.2.2.2.length c4] (0, 0))
    clear hf4 hb2 HF3 HR hG4 hGw3 HB3
    go_upto_region 5 with fail
    have hGa := Gr.al (Gr.refl w4) (Obj.cells #[str T.1.1, str T.1.2.1, .int .i64 T.1.2.2.1, .slice A4 T.1.2.2.2.length c4] 30)
    generalize w4.alloc (Obj.cells #[str T.1.1, str T.1.2.1, .int .i64 T.1.2.2.1, .slice A4 T.1.2.2.2.length c4] 30) = w5 at *
    generalize w4.heap.size = g4 at *
    have hb5 := Lib.hid (hb4.out.gr hGa)
    have HF6 := Lib.hid (HF4.out.gr hGa)
    have HF7 := Lib.hid (HF5.out.gr hGa)
    have hGw5 := Gr.tr hGw4 hGa
    have HM5 := Lib.hid (HM.out.gr hGw5)
    clear hb4 HF4 HF5 hGa hGw4 HM HB
    have q0 := fun i => (hb5.out.gr (gw_gr w5 i)).cells4.1
    have q1 := fun i => (hb5.out.gr (gw_gr w5 i)).cells4.2.1
    have q2 := fun i => (hb5.out.gr (gw_gr w5 i)).cells4.2.2.1
    have q3 := fun i => (hb5.out.gr (gw_gr w5 i)).cells4.2.2.2
    have p0 := fun i => (hr4.out.gr (gw_gr w5 i)).cells4.1
    have p1 := fun i => (hr4.out.gr (gw_gr w5 i)).cells4.2.1
    have p2 := fun i => (hr4.out.gr (gw_gr w5 i)).cells4.2.2.1
    have p3 := fun i => (hr4.out.gr (gw_gr w5 i)).cells4.2.2.2
    have e1 : ((T.2.2 : Int) == (T.2.2 : Int)) = true := by simp
    have e2 : ((T.2.1 : Int) == (T.2.1 : Int)) = true := by simp
    refine wp_region_gw (by kernel_rfl) (by kernel_rfl) ?_
    repeat (first | go_big_quiet_step ((first | (go_at_call 13; exact gw_call (lawRef_any _ _ _ _)) | (go_at_call 12; exact gw_call (refSame12_any T.1 _ _ _ _ _ (HF7.out.gr (gw_gr _ _)) (HF6.out.gr (gw_gr _ _)))) | (go_at_call 9; exact gw_call (awake12_any _ (HM5.out.gr (gw_gr _ _)))))) | quiet_step ((first | (go_at_call 13; exact gw_call (lawRef_any _ _ _ _)) | (go_at_call 12; exact gw_call (refSame12_any T.1 _ _ _ _ _ (HF7.out.gr (gw_gr _ _)) (HF6.out.gr (gw_gr _ _)))) | (go_at_call 9; exact gw_call (awake12_any _ (HM5.out.gr (gw_gr _ _)))))))
    refine wpQuiet_nil ?_; intro wq hwq; obtain ⟨iq, rfl⟩ := hwq
    have hGc := Gr.tr hGw5 (gw_gr w5 iq)
    generalize gw w5 iq = w6 at *
    go_wp2_with fail
    go_ret
    exact ⟨by simp, hGc⟩
end Go.Proofs.YtidijgofoklejaaDoor.lasks
