/- The walk of the law HeadBack. No conditions but the reach of the form. -/
import Derived.Test.YtidijgofoklejaaDoorHead15
namespace Go.Proofs.YtidijgofoklejaaDoor.lback12
open Go.RowKit
set_option maxHeartbeats 4000000 in
set_option maxRecDepth 100000 in
theorem walk (m o : List UInt8) (st : Int) (A : Option Addr) (c : Nat) (fs : List Fld) (u : Value) (more : List UInt8) (w : World) (hm : Ml w) (hp : Pw w) (hu : Flds w (.slice A fs.length c) fs) (hs : Short2 fs) (h1 : m.length ≤ 140737488355328) (h2 : o.length ≤ 140737488355328) (hy : Byts w u more) (hl : more.length ≤ 140737488355328) : Calls Tryd.prog 7 #[.agg #[str m, str o, .int .i64 st, .slice A fs.length c], u] w fun e w' => e = .returned (.bool true) ∧ Gr w w' := by
  have hG1 := Gr.al (Gr.refl w) (Obj.cells #[str m, str o, .int .i64 st, .slice A fs.length c] 26)
  have hb1 := Lib.hid (Bk.new w 26 #[str m, str o, .int .i64 st, .slice A fs.length c] (0, 0))
  have HU := Lib.hid (hu.gr hG1); have HM := Lib.hid (hm.gr hG1); have HP := Lib.hid (hp.gr hG1)
  have HS := Lib.hid (fun (w : World) (h : Flds w (.slice A fs.length c) fs) => small12_any (m, o, st, fs) A c w h hs h1 h2)
  have HPT := Lib.hid (fun (w : World) (h0 : smallB (m, o, st, fs) = true) (hp : Pw w) (h : Flds w (.slice A fs.length c) fs) => put12_any (m, o, st, fs) A c w hp h hs (small_of12 h0).1 (small_of12 h0).2.1 (small_of12 h0).2.2.1 (small_of12 h0).2.2.2)
  have HRP := Lib.hid (fun (w : World) (h0 : smallB (m, o, st, fs) = true) (h : Flds w (.slice A fs.length c) fs) => refPut12_any (m, o, st, fs) A c w h hs (small_of12 h0).1 (small_of12 h0).2.1 (small_of12 h0).2.2.1 (small_of12 h0).2.2.2)
  simp only at HS HPT HRP
  clear hu hs hm hp
  obtain ⟨Ay, cy, rfl, hcy, _, _⟩ := hy.open
  have HY := Lib.hid (hy.gr hG1)
  clear hy
  go_enter Tryd.func7, Tryd.ntmps7
  go_upto_region 1 with fail
  generalize w.alloc (Obj.cells #[str m, str o, .int .i64 st, .slice A fs.length c] 26) = w1 at *
  generalize w.heap.size = g at *
  obtain ⟨q0, q1, q2, q3⟩ := hb1.out.cells4
  cases hsm : smallB (m, o, st, fs) with
  | false =>
    rw [hsm] at HS
    go_wp2_with (first
      | (go_at_call 20; refine (HS.out _ HU.out).mono ?_; rintro e w2 ⟨rfl, hG2⟩)
      | (go_at_call 9; refine (awake12_any _ (HM.out.gr hG2)).mono ?_; rintro e w3 ⟨rfl, hG3⟩))
    go_ret
    exact ⟨rfl, Gr.tr hG1 (Gr.tr hG2 hG3)⟩
  | true =>
    have HPT2 := Lib.hid (fun (w : World) => HPT.out w hsm)
    have hsm2 := small_of12 hsm
    rw [hsm] at HS
    clear HPT HRP hsm
    by_cases hl2 : 200 < more.length
    · have d2 : decide (200 < (more.length : Int)) = true := decide_eq_true (by omega)
      go_wp2_with (first
        | (go_at_call 20; refine (HS.out _ HU.out).mono ?_; rintro e w2 ⟨rfl, hG2⟩)
        | (go_at_call 9; refine (awake12_any _ (HM.out.gr hG2)).mono ?_; rintro e w3 ⟨rfl, hG3⟩))
      go_ret
      exact ⟨rfl, Gr.tr hG1 (Gr.tr hG2 hG3)⟩
    · have d2 : decide (200 < (more.length : Int)) = false := decide_eq_false (by omega)
      have hml : more.length ≤ 200 := by omega
      clear hl2 hl hcy
      have HBK := Lib.hid (back_eq (m, o, st, fs) more)
      have hpl := putH_len (m, o, st, fs) hsm2.1 hsm2.2.1
      clear hsm2
      simp only at HBK
      generalize putH (m, o, st, fs) = pr at *
      obtain ⟨bs, e0⟩ := pr
      simp only at HPT2 HBK hpl
      go_wp2_with (go_at_call 20; refine (HS.out _ HU.out).mono ?_; rintro e w2 ⟨rfl, hG2⟩; have q0 := Gr.cell hG2 q0; have q1 := Gr.cell hG2 q1; have q2 := Gr.cell hG2 q2; have q3 := Gr.cell hG2 q3)
      refine (HPT2.out _ (HP.out.gr hG2) (HU.out.gr hG2)).mono ?_
      rintro e w3 ⟨A3, c3, rfl, hb3, hG3, _⟩
      have hGw3 := Gr.tr hG2 hG3
      have q2 := Gr.cell hG3 q2
      have HB3 := Lib.hid hb3
      clear hb3
      by_cases he : e0 = 0
      · subst he
        have HBK2 := Lib.hid (HBK.out rfl)
        clear HBK
        go_upto_region 7 with fail
        have tokA : True := trivial
        go_upto_region 8 with (first
          | (at_builtin; have _t := tokA; refine wpList_appS elemByte rfl _ _ rfl rfl rfl (Gr.al (Gr.refl w3) _).size (own_empty w3 _) (HB3.out.gr (Gr.al (Gr.refl w3) _)) (by simp) (one_byt _) (by omega) (by omega) ?_; intro v' w4 hown4 happ4; rw [Nat.zero_add] at hown4; obtain ⟨A4, c4, rfl⟩ := hown4.form; have HO4 := Lib.hid hown4; have hG4 := happ4.gr (Gr.al (Gr.refl w3) _) (own_empty w3 _); clear hown4 happ4 tokA; have HY4 := Lib.hid (HY.out.gr (Gr.tr hGw3 hG4)); have tokB : True := trivial)
          | (at_builtin; have _t := tokB; refine wpList_appS elemByte rfl _ _ rfl rfl rfl hG4.size HO4.out HY4.out (by simp) (one_byt _) (by omega) (by omega) ?_; intro v' w5 hown5 happ5; obtain ⟨A5, c5, rfl⟩ := hown5.form; have HO5 := Lib.hid hown5; have hG5 := happ5.gr hG4 HO4.out; clear hown5 happ5 tokB))
        have HB7 := Lib.hid (own_byts (l := bs ++ more) HO5.out (by simp) (by simp))
        have hGw7 := Gr.tr hGw3 hG5
        have q2 := Gr.cell hG5 q2
        clear HO4 HO5 HY4 hG4 hG5 HB3
        by_cases hst : st = 0
        · have HQ := Lib.hid (show askR (bs ++ more) = ((m, o, st, fs), bs.length, 0) from by rw [← HBK2.out, if_pos hst])
          have hs0 : ((st : Int) == 0) = true := by simpa using hst
          clear hst HBK2
          go_wp2_with fail
          refine (ask_any _ _ _ HB7.out (HM.out.gr hGw7) (by simp only [List.length_append]; omega)).mono ?_
          rw [HQ.out]
          rintro e w8 ⟨A8, c8, rfl, hf8, hG8, _⟩
          have HF8 := Lib.hid hf8
          have hGw8 := Gr.tr hGw7 hG8
          have hb8 := Lib.hid (Bk.new w8 26 #[str m, str o, .int .i64 st, .slice A8 fs.length c8] (0, 0))
          have hbx := Lib.hid (hb1.out.gr hGw8)
          clear hf8
          go_upto_region 10 with fail
          have hGa := Gr.al (Gr.refl w8) (Obj.cells #[str m, str o, .int .i64 st, .slice A8 fs.length c8] 26)
          generalize w8.alloc (Obj.cells #[str m, str o, .int .i64 st, .slice A8 fs.length c8] 26) = w9 at *
          generalize w8.heap.size = g8 at *
          have hb9 := Lib.hid (hbx.out.gr hGa)
          have HF9 := Lib.hid (HF8.out.gr hGa)
          have hGw9 := Gr.tr hGw8 hGa
          have HU9 := Lib.hid (HU.out.gr hGw9)
          have HM9 := Lib.hid (HM.out.gr hGw9)
          clear hbx HF8 hGa hGw8 hGw7 HB7 q0 q1 q2 q3
          have q0 := fun i => (hb9.out.gr (gw_gr w9 i)).cells4.1
          have q1 := fun i => (hb9.out.gr (gw_gr w9 i)).cells4.2.1
          have q2 := fun i => (hb9.out.gr (gw_gr w9 i)).cells4.2.2.1
          have q3 := fun i => (hb9.out.gr (gw_gr w9 i)).cells4.2.2.2
          have p0 := fun i => (hb8.out.gr (gw_gr w9 i)).cells4.1
          have p1 := fun i => (hb8.out.gr (gw_gr w9 i)).cells4.2.1
          have p2 := fun i => (hb8.out.gr (gw_gr w9 i)).cells4.2.2.1
          have p3 := fun i => (hb8.out.gr (gw_gr w9 i)).cells4.2.2.2
          have e1 : ((bs.length : Int) == (bs.length : Int)) = true := by simp
          refine wp_region_gw (by kernel_rfl) (by kernel_rfl) ?_
          repeat (first | go_big_quiet_step ((first | (go_at_call 13; exact gw_call (lawRef_any (m, o, st, fs) _ _ _)) | (go_at_call 12; exact gw_call (refSame12_any (m, o, st, fs) _ _ _ _ _ (HF9.out.gr (gw_gr _ _)) (HU9.out.gr (gw_gr _ _)))) | (go_at_call 9; exact gw_call (awake12_any _ (HM9.out.gr (gw_gr _ _)))))) | quiet_step ((first | (go_at_call 13; exact gw_call (lawRef_any (m, o, st, fs) _ _ _)) | (go_at_call 12; exact gw_call (refSame12_any (m, o, st, fs) _ _ _ _ _ (HF9.out.gr (gw_gr _ _)) (HU9.out.gr (gw_gr _ _)))) | (go_at_call 9; exact gw_call (awake12_any _ (HM9.out.gr (gw_gr _ _)))))))
          refine wpQuiet_nil ?_; intro wq hwq; obtain ⟨iq, rfl⟩ := hwq
          have hGc := Gr.tr (Gr.tr hG1 hGw9) (gw_gr w9 iq)
          generalize gw w9 iq = w10 at *
          go_wp2_with fail
          go_ret
          exact ⟨by simp, hGc⟩
        · have HQ := Lib.hid (show tellR (bs ++ more) = ((m, o, st, fs), bs.length, 0) from by rw [← HBK2.out, if_neg hst])
          have hs0 : ((st : Int) == 0) = false := by simpa using hst
          clear hst HBK2
          go_wp2_with fail
          refine (tell_any _ _ _ HB7.out (HM.out.gr hGw7) (by simp only [List.length_append]; omega)).mono ?_
          rw [HQ.out]
          rintro e w8 ⟨A8, c8, rfl, hf8, hG8, _⟩
          have HF8 := Lib.hid hf8
          have hGw8 := Gr.tr hGw7 hG8
          have hb8 := Lib.hid (Bk.new w8 26 #[str m, str o, .int .i64 st, .slice A8 fs.length c8] (0, 0))
          have hbx := Lib.hid (hb1.out.gr hGw8)
          clear hf8
          go_upto_region 12 with fail
          have hGa := Gr.al (Gr.refl w8) (Obj.cells #[str m, str o, .int .i64 st, .slice A8 fs.length c8] 26)
          generalize w8.alloc (Obj.cells #[str m, str o, .int .i64 st, .slice A8 fs.length c8] 26) = w9 at *
          generalize w8.heap.size = g8 at *
          have hb9 := Lib.hid (hbx.out.gr hGa)
          have HF9 := Lib.hid (HF8.out.gr hGa)
          have hGw9 := Gr.tr hGw8 hGa
          have HU9 := Lib.hid (HU.out.gr hGw9)
          have HM9 := Lib.hid (HM.out.gr hGw9)
          clear hbx HF8 hGa hGw8 hGw7 HB7 q0 q1 q2 q3
          have q0 := fun i => (hb9.out.gr (gw_gr w9 i)).cells4.1
          have q1 := fun i => (hb9.out.gr (gw_gr w9 i)).cells4.2.1
          have q2 := fun i => (hb9.out.gr (gw_gr w9 i)).cells4.2.2.1
          have q3 := fun i => (hb9.out.gr (gw_gr w9 i)).cells4.2.2.2
          have p0 := fun i => (hb8.out.gr (gw_gr w9 i)).cells4.1
          have p1 := fun i => (hb8.out.gr (gw_gr w9 i)).cells4.2.1
          have p2 := fun i => (hb8.out.gr (gw_gr w9 i)).cells4.2.2.1
          have p3 := fun i => (hb8.out.gr (gw_gr w9 i)).cells4.2.2.2
          have e1 : ((bs.length : Int) == (bs.length : Int)) = true := by simp
          refine wp_region_gw (by kernel_rfl) (by kernel_rfl) ?_
          repeat (first | go_big_quiet_step ((first | (go_at_call 13; exact gw_call (lawRef_any (m, o, st, fs) _ _ _)) | (go_at_call 12; exact gw_call (refSame12_any (m, o, st, fs) _ _ _ _ _ (HF9.out.gr (gw_gr _ _)) (HU9.out.gr (gw_gr _ _)))) | (go_at_call 9; exact gw_call (awake12_any _ (HM9.out.gr (gw_gr _ _)))))) | quiet_step ((first | (go_at_call 13; exact gw_call (lawRef_any (m, o, st, fs) _ _ _)) | (go_at_call 12; exact gw_call (refSame12_any (m, o, st, fs) _ _ _ _ _ (HF9.out.gr (gw_gr _ _)) (HU9.out.gr (gw_gr _ _)))) | (go_at_call 9; exact gw_call (awake12_any _ (HM9.out.gr (gw_gr _ _)))))))
          refine wpQuiet_nil ?_; intro wq hwq; obtain ⟨iq, rfl⟩ := hwq
          have hGc := Gr.tr (Gr.tr hG1 hGw9) (gw_gr w9 iq)
          generalize gw w9 iq = w10 at *
          go_wp2_with fail
          go_ret
          exact ⟨by simp, hGc⟩
      · have hne : ((e0 : Int) != 0) = true := by simp; exact he
        go_wp2_with (go_at_call 9; refine (awake12_any _ (HM.out.gr hGw3)).mono ?_; rintro e w4 ⟨rfl, hG4⟩)
        go_ret
        exact ⟨rfl, Gr.tr hG1 (Gr.tr hGw3 hG4)⟩
end Go.Proofs.YtidijgofoklejaaDoor.lback12
