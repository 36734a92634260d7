/- The walk of the law GateRead: a whole answer is read, head and body, as its status, its fields, and its parts' bytes, and nothing that stands behind. Conditions: the library's tables and variables. -/
import Derived.Test.YtcfefflnebkjnaaGreatDoorJGate9
import Derived.Test.YtcfefflnebkjnaaGreatDoorJGate10
import Derived.Test.YtcfefflnebkjnaaGreatDoorJFrame2
set_option linter.unusedVariables false
set_option linter.unusedSimpArgs false
namespace Go.Proofs.YtcfefflnebkjnaaGreatDoor.lgread
open Go.RowKit
set_option maxHeartbeats 16000000 in
set_option maxRecDepth 100000 in
theorem walk (st sz : Int) (fs : List Fld) (ps : List PartT) (A1 A2 : Option Addr) (c1 c2 : Nat) (obj : List UInt8) (u : Value) (more : List UInt8) (mv : Value) (w : World) (hm : Ml w) (hp : Pw w) (hz : Tz w) (hf : Flds w (.slice A1 fs.length c1) fs) (hu : Parts w (.slice A2 ps.length c2) ps) (hs : Short2 fs) (hlp : ∀ p ∈ ps, Low p.1) (ho : Byts w u obj) (hmv : Byts w mv more) :
    Calls Tryz.prog 9 #[.agg #[.int .i64 st, .slice A1 fs.length c1, .slice A2 ps.length c2, .int .i64 sz], u, mv] w fun e w' => e = .returned (.bool true) ∧ Gr w w' := by
  obtain ⟨Am, cm, rfl, -, -, -⟩ := id hmv.open
  have HMV := Lib.hid (fun (x : World) (g : Gr w x) => hmv.gr g)
  clear hmv
  obtain ⟨A3, c3, rfl, -, -, -⟩ := id ho.open
  have HF := Lib.hid (fun (x : World) (g : Gr w x) => hf.gr g)
  have HU := Lib.hid (fun (x : World) (g : Gr w x) => hu.gr g)
  have HO := Lib.hid (fun (x : World) (g : Gr w x) => ho.gr g)
  have HS := Lib.hid hs
  have HP := Lib.hid (fun (x : World) (g : Gr w x) => hp.gr g)
  have HZ := Lib.hid (fun (x : World) (g : Gr w x) => hz.gr g)
  have HM := Lib.hid (fun (x : World) (g : Gr w x) => hm.gr g)
  have HAW := Lib.hid (fun (x : World) (g : Gr w x) => awake45_any x (hm.gr g) (hp.gr g) (hz.gr g))
  have HGT := Lib.hid (fun (x : World) (g : Gr w x) => show Calls Tryz.prog 19 #[.agg #[.int .i64 st, .slice A1 fs.length c1, .slice A2 ps.length c2, .int .i64 sz], .slice A3 obj.length c3] x (fun e w' => e = .returned (.bool (greatA fs ps obj)) ∧ Gr x w') from refGreat45_any st sz fs _ A1 A2 c1 c2 ps obj x (hf.gr g) hs (hu.gr g) (ho.gr g) hlp)
  have HSM := Lib.hid (fun (hg : greatA fs ps obj = false) => show fs.length ≤ 130 ∧ bulk2 fs ≤ 12000 ∧ ps.length ≤ 100 ∧ obj.length ≤ 1000 ∧ PartsLow obj ps from greatA_small hg)
  have hbr := Bk.new w 45 #[.int .i64 st, .slice A1 fs.length c1, .slice A2 ps.length c2, .int .i64 sz] (0, 0)
  have hG0 := Gr.al (Gr.refl w) (Obj.cells #[.int .i64 st, .slice A1 fs.length c1, .slice A2 ps.length c2, .int .i64 sz] 45)
  clear hf hu ho hs hp hz hm hlp
  go_enter Tryz.func9, Tryz.ntmps9
  go_upto_region 1 with fail
  generalize w.alloc (Obj.cells #[.int .i64 st, .slice A1 fs.length c1, .slice A2 ps.length c2, .int .i64 sz] 45) = w0 at *
  obtain ⟨g, hgq⟩ : ∃ g, g = w.heap.size := ⟨_, rfl⟩
  rw [← hgq] at hbr ⊢
  clear hgq
  have r0 : ∀ x, Gr w0 x → x.cell? ⟨g, 0, none⟩ = some (.int .i64 st) := fun x h => (hbr.gr h).cell 0
  have r1 : ∀ x, Gr w0 x → x.cell? ⟨g, 1, none⟩ = some (.slice A1 fs.length c1) := fun x h => (hbr.gr h).cell 1
  have r2 : ∀ x, Gr w0 x → x.cell? ⟨g, 2, none⟩ = some (.slice A2 ps.length c2) := fun x h => (hbr.gr h).cell 2
  have r3 : ∀ x, Gr w0 x → x.cell? ⟨g, 3, none⟩ = some (.int .i64 sz) := fun x h => (hbr.gr h).cell 3
  have h00 : Gr w0 w0 := Gr.refl w0
  have HG0 := Lib.hid hG0
  clear hbr hG0
  have HAW := Lib.hid (fun (x : World) (h : Gr w0 x) => HAW.out x (Gr.tr HG0.out h))
  have HGT := Lib.hid (fun (x : World) (h : Gr w0 x) => HGT.out x (Gr.tr HG0.out h))
  cases hgr : greatA fs ps obj with
  | true =>
    rw [hgr] at HGT
    clear hgr HF HU HO HS HP HZ HM HSM
    go_wp2_with (first | (go_at_call 11; refine (HAW.out _ (by assumption)).mono ?_; rintro e wn ⟨rfl, hgn⟩; have hgg : Gr w0 wn := Gr.tr (by assumption) hgn; clear hgn) | (go_at_call 19; refine (HGT.out _ (by assumption)).mono ?_; rintro e wn ⟨rfl, hgn⟩; have hgg : Gr w0 wn := Gr.tr (by assumption) hgn; clear hgn))
    go_ret
    exact ⟨rfl, Gr.tr HG0.out (by assumption)⟩
  | false =>
    rw [hgr] at HGT
    obtain ⟨hb1, hb2, hb3, hb4, hb5⟩ := HSM.out hgr
    have HLOW := Lib.hid hb5
    clear hgr HSM hb5
    by_cases hk1 : 50 < more.length
    · have d1 : decide (50 < (more.length : Int)) = true := decide_eq_true (by omega)
      go_wp2_with (first | (go_at_call 11; refine (HAW.out _ (by assumption)).mono ?_; rintro e wn ⟨rfl, hgn⟩; have hgg : Gr w0 wn := Gr.tr (by assumption) hgn; clear hgn) | (go_at_call 19; refine (HGT.out _ (by assumption)).mono ?_; rintro e wn ⟨rfl, hgn⟩; have hgg : Gr w0 wn := Gr.tr (by assumption) hgn; clear hgn))
      go_ret
      exact ⟨rfl, Gr.tr HG0.out (by assumption)⟩
    have d1 : decide (50 < (more.length : Int)) = false := decide_eq_false (by omega)
    go_upto_region 3 with (first | (go_at_call 11; refine (HAW.out _ (by assumption)).mono ?_; rintro e wn ⟨rfl, hgn⟩; have hgg : Gr w0 wn := Gr.tr (by assumption) hgn; clear hgn) | (go_at_call 19; refine (HGT.out _ (by assumption)).mono ?_; rintro e wn ⟨rfl, hgn⟩; have hgg : Gr w0 wn := Gr.tr (by assumption) hgn; clear hgn))
    have HN := Lib.hid (show Gr w0 wn from by assumption)
    have HNW := Lib.hid (Gr.tr HG0.out HN.out)
    have HWH := Lib.hid (fun (v : Value) (x : World) (g : Gr w x) (hb : Byts x v obj) => show Calls Tryz.prog 26 #[.agg #[.int .i64 st, .slice A1 fs.length c1, .slice A2 ps.length c2, .int .i64 sz], v] x (WEnd x (wholeR st fs ps sz obj)) from gateWhole_any st sz fs v A1 A2 c1 c2 ps obj x (HP.out x g) (HZ.out x g) (HF.out x g) HS.out hb1 hb2 (HU.out x g) hb hb3 hb4 HLOW.out)
    have HRW := Lib.hid (fun (x : World) (g : Gr w x) => show Calls Tryz.prog 27 #[.agg #[.int .i64 st, .slice A1 fs.length c1, .slice A2 ps.length c2, .int .i64 sz], .slice A3 obj.length c3] x (WEnd x (wholeR st fs ps sz obj)) from refWhole_any st sz fs _ A1 A2 c1 c2 ps obj x (HF.out x g) HS.out hb1 hb2 (HU.out x g) (HO.out x g) hb3 hb4 HLOW.out)
    have HFL := Lib.hid (fill_len HLOW.out hb4 hb3)
    have HRX := Lib.hid (fun (h : (wholeR st fs ps sz obj).2 = 0) => read45_ex h HFL.out more)
    have HWL := Lib.hid (fun (h : (wholeR st fs ps sz obj).2 = 0) => whole_le h HFL.out)
    have HFO := Lib.hid (fun (h : (wholeR st fs ps sz obj).2 = 0) => whole_flds h)
    have HIN := Lib.hid (fun (h : (wholeR st fs ps sz obj).2 = 0) => whole_in h)
    have HBAD := Lib.hid (fun (h : (wholeR st fs ps sz obj).2 ≠ 0) => whole_bad h)
    have hfa := headF_app st fs sz
    have HBY := Lib.hid (fun (x : World) (g : Gr w x) => refBytes_any st sz (.slice A1 fs.length c1) (.slice A3 obj.length c3) A2 c2 ps obj x (HU.out x g) (HO.out x g) (by omega) hb4 HLOW.out)
    have HBO := Lib.hid (fun (x : World) => refBodied_any st sz (.slice A1 fs.length c1) (.slice A2 ps.length c2) x)
    clear HRW
    generalize wholeR st fs ps sz obj = R at *
    generalize headF st fs sz = F at *
    generalize hWt : fillL obj ps = Wt at *
    have HWT := Lib.hid hWt
    clear hWt
    obtain ⟨B, E⟩ := R
    have q0 := gx_cell (r := none) (r0 wn HN.out) (by simp)
    have q1 := gx_cell (r := none) (r1 wn HN.out) (by simp)
    have q2 := gx_cell (r := none) (r2 wn HN.out) (by simp)
    have q3 := gx_cell (r := none) (r3 wn HN.out) (by simp)
    refine wp_region_mix [0, 2] none 8 (by kernel_rfl) rfl (by kernel_rfl) (fun o _ _ _ _ h => by cases o <;> exact h) ?_
    simp only [pickOps, List.filterMap_cons, List.filterMap_nil, List.getElem?_cons_zero, List.getElem?_cons_succ]
    repeat (first | (refine wpGq_step (fun K hK => ?_); go_simp; refine hK _ ?_; clear hK K) | (refine wpGq_step (fun K hK => ?_); go_simp; simp only [↓IntWalk.iteOmega]; go_simp; refine hK _ ?_; clear hK K) | (refine wpGq_step (fun K hK => ?_); go_simp; apply Exists.intro; refine ⟨fun _ => ?_, hK _ ?_⟩; fail; clear hK K))
    refine wpGq_nil ?_
    clear q0 q1 q2 q3
    refine wpG_one 1 (by kernel_rfl) rfl rfl (fun K hK wa hga => ?_)
    go_simp
    refine hK _ _ ((Gr.al hga _).by _) ?_
    clear hK K
    refine wpG_one 3 (by kernel_rfl) rfl rfl (fun K hK wb hgb => ?_)
    refine op_appS (W0 := wa) (n := 0) (m := obj.length) (xs := []) (news := obj.map byt) elemByte _ _ rfl rfl rfl ?_ ((own_nil0 wa _ 1).gr hgb) (HO.out _ (Gr.tr HNW.out (Gr.tr (Gr.al hga _) hgb))) (by simp) (one_byt _) (by omega) (by decide) ?_
    · have := (Gr.tr (Gr.al (Gr.refl wa) (Obj.cells #[] 5)) hgb).size; omega
    intro v4 w4 hOwn hApp
    rw [Nat.zero_add, List.nil_append] at hOwn
    obtain ⟨A4, c4, rfl⟩ := hOwn.form
    have hG4 : Gr wn w4 := Gr.tr hga (hApp.gr (Gr.tr (Gr.al (Gr.refl wa) _) hgb) ((own_nil0 wa 5 1).gr hgb))
    have HB4 := Lib.hid (own_byts hOwn)
    refine hK _ _ (hG4.by _) ?_
    clear hK K hOwn hApp
    refine wpG_one 4 (by kernel_rfl) rfl rfl (fun K hK w5 hg5 => ?_)
    have HG5 := Lib.hid (Gr.tr hG4 hg5)
    have HB5 := Lib.hid (HB4.out.gr hg5)
    clear hga hgb hG4 hg5 HB4
    go_simp
    refine (HWH.out _ _ (Gr.tr HNW.out HG5.out) HB5.out).mono ?_
    rintro e w6 ⟨A6, c6, rfl, hg6, hB6⟩
    simp only []
    have HG6 := Lib.hid (Gr.tr HG5.out hg6)
    have HB6 := Lib.hid hB6
    clear hg6 hB6
    refine hK _ _ (HG6.out.by _) ?_
    clear hK K
    refine wpG_quiet [5, 6, 7, 8, 9] 0 (HG6.out.by _) rfl (by kernel_rfl) (fun o _ _ _ _ h => by cases o <;> exact h) ?_
    simp only [pickOps, List.filterMap_cons, List.filterMap_nil, List.getElem?_cons_zero, List.getElem?_cons_succ]
    repeat (first | (refine wpGq_step (fun K hK => ?_); go_simp; refine hK _ ?_; clear hK K) | (refine wpGq_step (fun K hK => ?_); go_simp; simp only [↓IntWalk.iteOmega]; go_simp; refine hK _ ?_; clear hK K) | (refine wpGq_step (fun K hK => ?_); go_simp; apply Exists.intro; refine ⟨fun _ => ?_, hK _ ?_⟩; fail; clear hK K))
    refine wpGq_nil ?_
    refine wpG_done (by kernel_rfl) (fun w7 hg7 => ?_)
    have HG7 := Lib.hid (Gr.tr HN.out (Gr.tr HG6.out hg7))
    have HB7 := Lib.hid (HB6.out.gr hg7)
    have hgg : Gr w0 w7 := HG7.out
    clear HG5 HG6 HB5 HB6 hg7
    by_cases he : E = 0
    case neg =>
      have d0 : ((E : Int) != 0) = true := by simp; omega
      obtain rfl : B = [] := HBAD.out he
      clear he
      go_wp2_with fail
      go_ret
      exact ⟨rfl, Gr.tr HG0.out HG7.out⟩
    subst he
    have HB7 := Lib.hid (show Byts w7 (.slice A6 B.length c6) B from HB7.out)
    have hWL : B.length ≤ 300000 := HWL.out rfl
    have HFK := Lib.hid (HFO.out rfl)
    have HIK := Lib.hid (HIN.out rfl)
    obtain ⟨hft, hfl⟩ := hfa
    have HFT := Lib.hid hft
    obtain ⟨k, z, n, s, h1, n1, n2, h2, h3, h4, h5, h6, h7, h8, h9, h10⟩ := HRX.out rfl
    have n2 : n ≤ B.length := n2
    have HTK := Lib.hid h7
    have HDN := Lib.hid h8
    have HSP := Lib.hid h9
    have HKD := Lib.hid h10
    have HFR := Lib.hid h2
    have HTA := Lib.hid (fun (v : Value) (x : World) (g : Gr w x) (hb : Byts x v (B ++ more)) => show Calls Tryz.prog 28 #[v] x (fun e w' => ∃ A c, e = .returned (.tuple #[.agg #[str [], str [], .int .i64 st, .slice A F.length c], .int .i64 (n : Nat), .int .i64 0]) ∧ Flds w' (.slice A F.length c) F ∧ Gr x w') from by
        have h := tell_any v (B ++ more) x hb (HM.out x g) (by rw [List.length_append]; omega)
        rw [h1] at h
        exact h.mono fun e w' ⟨A, c, h1, h2, h3, _⟩ => ⟨A, c, h1, h2, h3⟩)
    clear HRX HWL HFO HIN HBAD hft h1 h2 h7 h8 h9 h10 HAW HGT
    have hG3a := Gr.al (Gr.refl w7) (Obj.cells #[] 5)
    go_upto_region 7 with (first
      | (at_builtin; refine wpList_appS (W0 := w7) (n := 0) (m := B.length) (news := B.map byt) elemByte rfl _ _ rfl rfl rfl hG3a.size (own_nil0 w7 5 1) (HB7.out.gr hG3a) (by simp) (one_byt B) (by omega) (by decide) ?_; intro v8 w8 hown8 happ8; rw [Nat.zero_add, List.nil_append] at hown8; obtain ⟨A8, c8, rfl⟩ := hown8.form; have hG78 := happ8.gr hG3a (own_nil0 w7 5 1); have HO8 := Lib.hid hown8; clear hown8 happ8)
      | (at_builtin; refine wpList_appS (W0 := w7) (n := B.length) (m := more.length) (news := more.map byt) elemByte rfl _ _ rfl rfl rfl hG78.size HO8.out (HMV.out _ (Gr.tr HG0.out (Gr.tr HG7.out hG78))) (by simp) (one_byt more) (by omega) (by decide) ?_; intro v9 w9 hown9 happ9; obtain ⟨A9, c9, rfl⟩ := hown9.form; have HG79 := Lib.hid (happ9.gr hG78 HO8.out); have HB9 := Lib.hid (own_byts (l := B ++ more) (by rw [List.length_append, List.map_append]; exact hown9)); clear hown9 happ9))
    have HG9 := Lib.hid (Gr.tr HG7.out HG79.out)
    have HB9 := Lib.hid (show Byts w9 (.slice A9 (B.length + more.length) c9) (B ++ more) from HB9.out)
    generalize hXq : B ++ more = X at *
    generalize hNq : B.length + more.length = N at *
    have HXL := Lib.hid (show X.length = N from by rw [← hXq, ← hNq, List.length_append])
    have hNB : B.length ≤ N := by omega
    have hN3 : N ≤ 300100 := by omega
    clear hXq hNq
    go_upto_region 8 with (go_at_call 28; refine (HTA.out _ _ (Gr.tr HG0.out HG9.out) HB9.out).mono ?_; rintro e w10 ⟨A10, c10, rfl, hF10, hg10⟩)
    refine at_world (P := Code.wp _ _ _ _) (w0 := w10.alloc (Obj.cells #[str [], str [], .int .i64 st, .slice A10 F.length c10] 53)) ?_
    intro w11 hw_
    have hbh : Bk w11 w10.heap.size 53 #[str [], str [], .int .i64 st, .slice A10 F.length c10] (0, 0) := by rw [hw_]; exact Bk.new w10 _ _ _
    have hg11 : Gr w10 w11 := by rw [hw_]; exact Gr.al (Gr.refl w10) _
    clear hw_
    generalize w10.heap.size = gh at *
    have s0 : ∀ x, Gr w11 x → x.cell? ⟨gh, 0, none⟩ = some (str []) := fun x h => (hbh.gr h).cell 0
    have s1 : ∀ x, Gr w11 x → x.cell? ⟨gh, 1, none⟩ = some (str []) := fun x h => (hbh.gr h).cell 1
    have s2 : ∀ x, Gr w11 x → x.cell? ⟨gh, 2, none⟩ = some (.int .i64 st) := fun x h => (hbh.gr h).cell 2
    have s3 : ∀ x, Gr w11 x → x.cell? ⟨gh, 3, none⟩ = some (.slice A10 F.length c10) := fun x h => (hbh.gr h).cell 3
    have HF11 := Lib.hid (hF10.gr hg11)
    have HG11 := Lib.hid (Gr.tr HG9.out (Gr.tr hg10 hg11))
    have HB11 := Lib.hid (HB9.out.gr (Gr.tr hg10 hg11))
    have HFS := Lib.hid (HF.out w11 (Gr.tr HG0.out HG11.out))
    clear hbh hF10 hg10 hg11 HB7 HB9 HTA
    have x0 := gx_cell (r := none) (r0 w11 HG11.out) (by simp)
    have x1 := gx_cell (r := none) (r1 w11 HG11.out) (by simp)
    have y2 := gx_cell (r := none) (s2 w11 (Gr.refl w11)) (by simp)
    have y3 := gx_cell (r := none) (s3 w11 (Gr.refl w11)) (by simp)
    have j1 : decide ((n : Int) < 1) = false := decide_eq_false (by omega)
    have j2 : decide ((B.length : Int) < (n : Int)) = false := decide_eq_false (by omega)
    have j3 : (st != st) = false := by simp
    have j4 : decide ((F.length : Int) < (fs.length : Int)) = false := decide_eq_false (by omega)
    refine wp_region_mix [0, 1, 2, 3, 4, 5, 6, 7, 8, 9, 10, 11, 12, 13, 14, 15, 16, 17, 18, 19, 20, 21, 22, 23, 24, 25, 26, 27, 28, 29, 30, 31, 32, 33, 35, 36] none 4 (by kernel_rfl) rfl (by kernel_rfl) (fun o _ _ _ _ h => by cases o <;> exact h) ?_
    simp only [pickOps, List.filterMap_cons, List.filterMap_nil, List.getElem?_cons_zero, List.getElem?_cons_succ]
    repeat (first | (refine wpGq_step (fun K hK => ?_); go_simp; refine hK _ ?_; clear hK K) | (refine wpGq_step (fun K hK => ?_); go_simp; simp only [↓IntWalk.iteOmega]; go_simp; refine hK _ ?_; clear hK K) | (refine wpGq_step (fun K hK => ?_); go_simp; apply Exists.intro; refine ⟨fun _ => ?_, hK _ ?_⟩; fail; clear hK K))
    refine wpGq_nil ?_
    clear x0 x1 y2 y3
    refine wpG_oneW 34 (by kernel_rfl) rfl (by go_simp) (fun K hK wa hga => ?_)
    refine op_slFlds _ _ rfl rfl rfl (HF11.out.gr hga) hfl (fun A12 hA12 => ?_)
    rw [HFT.out] at hA12
    refine hK _ _ (hga.by _) ?_
    clear hK K
    have HSF := Lib.hid (fun (i : Gxw wa none) => show Calls Tryz.prog 29 #[.slice A12 fs.length c10, .slice A1 fs.length c1] (gx wa none i) (fun e w' => e = .returned (.bool true) ∧ Gr (gx wa none i) w') from by
      have h := same_any _ _ fs fs (gx wa none i) (hA12.gr (gr_none (gx_by wa none i))) (HFS.out.gr (Gr.tr hga (gr_none (gx_by wa none i))))
      rw [show (fs == fs) = true from by simp] at h
      exact h)
    clear hA12
    refine wpG_quiet [37, 38, 39] 0 (hga.by _) rfl (by kernel_rfl) (fun o _ _ _ _ h => by cases o <;> exact h) ?_
    simp only [pickOps, List.filterMap_cons, List.filterMap_nil, List.getElem?_cons_zero, List.getElem?_cons_succ]
    repeat (first | (refine wpGq_step (fun K hK => ?_); go_simp; refine hK _ ?_; clear hK K) | (refine wpGq_step (fun K hK => ?_); go_simp; simp only [↓IntWalk.iteOmega]; go_simp; refine hK _ ?_; clear hK K) | (refine wpGq_step (fun K hK => ?_); go_simp; apply Exists.intro; refine ⟨fun _ => ?_, hK _ ?_⟩; (go_at_call 29; exact HSF.out _); clear hK K))
    refine wpGq_nil ?_
    refine wpG_done (by kernel_rfl) (fun w13 hg13 => ?_)
    have hg13 : Gr w11 w13 := Gr.tr hga hg13
    have HOF := Lib.hid (show Calls Tryz.prog 30 #[.agg #[str [], str [], .int .i64 st, .slice A10 F.length c10], str [71, 69, 84]] w13 (OfEnd w13 (k, (z : Int), 0)) from by
      have h := frOf_any st F getB [] [] A10 c10 w13 (HF11.out.gr hg13) HFK.out.short HFK.out.val HFK.out.many HFK.out.items
      rw [HFR.out] at h
      exact h)
    have HNW := Lib.hid (fun (x : World) => frNew_any k z x h3 h4 h5 h6)
    clear HSF j1 j2 j3 j4
    go_upto_region 16 with (first
      | (go_at_call 30; refine HOF.out.mono ?_; rintro e w14 ⟨rfl, hg14⟩)
      | (go_at_call 31; refine (HNW.out _).mono ?_; rintro e w15 ⟨gf, gc, rfl, hFA, hg15, hgf, hgc⟩))
    have HB15 := Lib.hid (HB11.out.gr (Gr.tr hg13 (Gr.tr hg14 hg15)))
    have HG15 := Lib.hid (Gr.tr HG11.out (Gr.tr hg13 (Gr.tr hg14 hg15)))
    have HFA := Lib.hid hFA
    have hwf : w0.heap.size ≤ gf := Nat.le_trans (Gr.tr HG11.out (Gr.tr hg13 hg14)).size hgf
    have hwc : w0.heap.size ≤ gc := Nat.le_trans (Gr.tr HG11.out (Gr.tr hg13 hg14)).size hgc
    have HGF := Lib.hid hFA.fr.lt
    have HGC := Lib.hid (Bk.lt hFA.ck)
    clear hFA hg13 hg14 hg15 hgf hgc HB11 HF11 HOF HNW hga HFS
    have HLS := Lib.hid (show List.drop ((n : Nat) : Int).toNat X = X.drop n from rfl)
    have HLL := Lib.hid (show (X.drop n).length = N - n from by rw [List.length_drop, HXL.out])
    have hxn : ((n : Nat) : Int) ≤ ((X.length : Nat) : Int) := by rw [HXL.out]; omega
    have HXN := Lib.hid hxn
    clear hxn
    generalize X.drop n = Y at *
    obtain ⟨M, hM⟩ : ∃ M, M = B.length - n := ⟨_, rfl⟩
    rw [← hM] at HTK
    have hM : n + M = B.length := by omega
    have hG3b := Gr.al (Gr.refl w15) (Obj.cells #[] 5)
    cases hbd : bodB st
    all_goals
      rw [hbd] at HTK HBO
      simp only [Bool.false_eq_true, if_false, if_true] at HTK
      clear hbd
      have HTT := Lib.hid (fun (v : Value) (x : World) (hA : FrAt x gf gc (FrT.new k z)) (hy : Byts x v Y) (e1 : v.ownBlock ≠ some gf) (e2 : v.ownBlock ≠ some gc) => show Calls Tryz.prog 32 #[.pointer (some ⟨gf, 0, none⟩), v] x (FTakeEnd x gf gc _) from by
        have h := frTake_any (FrT.new k z) Y v x gf gc hA ⟨h3, h4⟩ rfl ckOk_start h5 hy e1 e2 (by rw [HLL.out]; omega)
        rw [HTK.out] at h
        exact h)
      have HBYE := Lib.hid (fun (x : World) (g : Gr w x) => show Calls Tryz.prog 33 #[.agg #[.int .i64 st, .slice A1 fs.length c1, .slice A2 ps.length c2, .int .i64 sz], .slice A3 obj.length c3] x (fun e w' => ∃ A c, e = .returned (.tuple #[.slice A Wt.length c, .bool true]) ∧ Byts w' (.slice A Wt.length c) Wt ∧ Gr x w') from by
        have h := HBY.out x g
        unfold BytesEnd at h
        rw [HIK.out] at h
        simp only [if_true, HWT.out] at h
        exact h.mono fun e w' ⟨h1, A, c, h2, h3⟩ => ⟨A, c, h2, h3, h1⟩)
      go_upto_region 17 with (first
        | (refine wpList_slLo _ _ rfl rfl rfl rfl (HB15.out.gr hG3b) ?_ ?_ ?_; omega; exact HXN.out; intro A16 hA16; have HA16 := Lib.hid hA16; clear hA16)
        | (at_builtin; refine wpList_appS (W0 := w15) (n := 0) (m := N - n) (news := Y.map byt) elemByte rfl _ _ rfl rfl rfl hG3b.size (own_nil0 w15 5 1) (by have h := HA16.out; rw [HLS.out] at h; unfold Byts at h; rw [HLL.out] at h; exact h) (by rw [List.length_map, HLL.out, Nat.mul_one]) (one_byt Y) (by omega) (by decide) ?_; intro v17 w17 hown17 happ17; rw [Nat.zero_add, List.nil_append] at hown17; obtain ⟨A17, c17, rfl⟩ := hown17.form; have HG17 := Lib.hid (happ17.gr hG3b (own_nil0 w15 5 1)); have HO17 := Lib.hid hown17; have HY17 := Lib.hid (own_byts (l := Y) (by rw [HLL.out]; exact hown17)); clear hown17 happ17)
        | (go_at_call 32; refine (HTT.out _ _ (HFA.out.gr HG17.out) HY17.out (own_ne HO17.out HGF.out) (own_ne HO17.out HGC.out)).mono ?_; rintro e w18 ⟨v18, rfl, hD18, hFB, hKr, -⟩; obtain ⟨A18, c18, rfl, -, -, -⟩ := id hD18.open; have HD18 := Lib.hid hD18; have HFB := Lib.hid hFB; have HKR := Lib.hid hKr; clear hD18 hFB hKr))
      have hG18 : Gr w0 w18 := HKR.out.old (Gr.tr HG15.out HG17.out) (by intro j hj; simp only [List.mem_cons, List.not_mem_nil, or_false] at hj; omega) (Gr.tr HG15.out HG17.out).size
      go_upto_region 18 with (go_at_call 33; refine (HBYE.out _ (Gr.tr HG0.out hG18)).mono ?_; rintro e w19 ⟨A19, c19, rfl, hB19, hg19⟩)
      have hG19 : Gr w0 w19 := Gr.tr hG18 hg19
      go_upto_region 20 with (go_at_call 34; refine (HBO.out _).mono ?_; rintro e w20 ⟨rfl, hg20⟩)
      have t1 := (HD18.out.gr (Gr.tr hg19 hg20)).toStr
      try have t4 : (convert 22 9 (.slice A18 0 c18)).run Tryz.prog w20 = .ok (str []) w20 := t1
      have t2 := (hB19.gr hg20).toStr
      have t3 := (Byts.nil w20).toStr
      have hFB20 := HFB.out.gr (Gr.tr hg19 hg20)
      have HD2 := Lib.hid (show Calls Tryz.prog 35 #[.pointer (some ⟨gf, 0, none⟩)] w20 (fun e w' => e = .returned (.bool true) ∧ Gr w20 w') from by have h := frDone_any s w20 gf gc hFB20 (by rw [HKD.out]; exact ⟨h3, h4⟩); rw [HDN.out] at h; exact h)
      have HE2 := Lib.hid (fun (x : World) (gx : Gr w20 x) => show Calls Tryz.prog 36 #[.pointer (some ⟨gf, 0, none⟩)] x (fun e w' => e = .returned (.int .i64 0) ∧ x.grownBy w' (some gf)) from by
        have h := frEnd_any s x gf gc (hFB20.gr gx) (by rw [HKD.out]; exact ⟨h3, h4⟩)
        rw [HSP.out] at h
        exact h.mono fun e w' ⟨a, _, c⟩ => ⟨a, c⟩)
      have s9 : (Wt == Wt) = true := by simp
      have s8 : (([] : List UInt8) == []) = true := rfl
      have en : (((n : Nat) : Int) + ((M : Nat) : Int) == ((B.length : Nat) : Int)) = true := by simp; omega
      have HG20 := Lib.hid (Gr.tr HG0.out (Gr.tr hG19 hg20))
      clear hB19 hFB20
      go_wp2_with (first
        | (go_at_call 35; refine HD2.out.mono ?_; rintro e w21 ⟨rfl, hg21⟩)
        | (go_at_call 36; refine (HE2.out _ hg21).mono ?_; rintro e w22 ⟨rfl, hg22⟩))
      go_ret
      exact ⟨rfl, gr_by (Gr.tr HG20.out hg21) hg22 (Nat.le_trans HG0.out.size hwf)⟩
end Go.Proofs.YtcfefflnebkjnaaGreatDoor.lgread
