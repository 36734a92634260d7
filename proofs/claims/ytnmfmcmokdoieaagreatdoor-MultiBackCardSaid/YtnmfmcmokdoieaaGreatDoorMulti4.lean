/- Layer 11: what a text says as a content range: multi.Range. Conditions: the library's own variables hold what their types allow; a text shorter than 2 to the 32nd. -/
import Derived.Test.YtnmfmcmokdoieaaGreatDoorMulti3
set_option linter.unusedVariables false
set_option linter.unusedSimpArgs false
namespace Go.Proofs.YtnmfmcmokdoieaaGreatDoor
open Go.RowKit
theorem cut_len (l sep : List UInt8) : (Lib.cut l sep).1.length ≤ l.length ∧ (Lib.cut l sep).2.1.length ≤ l.length := by
  unfold Lib.cut
  split
  · simp only [List.length_take, List.length_drop]; omega
  · simp
theorem trimP_len (s p : List UInt8) : (Lib.trimPrefix s p).length ≤ s.length := by
  unfold Lib.trimPrefix
  split
  · rw [List.length_drop]; omega
  · exact Nat.le_refl _
def progT (s : List UInt8) (f t : Int) (n : Int) : Option (Int × Int × Int) := if contentL f (t + 1) n = [] then none else if contentL f (t + 1) n = s then some (f, t + 1, n) else none
theorem progR_f {s : List UInt8} (h : okInt (Lib.parseIntB 64 (partsR s).1) = none) : progR s = none := by unfold progR; rw [h]
theorem progR_t {s : List UInt8} {f : Int} (h : okInt (Lib.parseIntB 64 (partsR s).1) = some f) (h2 : okInt (Lib.parseIntB 64 (partsR s).2.1) = none) : progR s = none := by unfold progR; rw [h]; simp only; rw [h2]
theorem progR_g {s : List UInt8} {f t : Int} (h : okInt (Lib.parseIntB 64 (partsR s).1) = some f) (h2 : okInt (Lib.parseIntB 64 (partsR s).2.1) = some t) (h3 : 4611686018427387903 ≤ t) : progR s = none := by unfold progR; rw [h]; simp only; rw [h2]; simp only; rw [if_pos h3]
theorem progR_a {s : List UInt8} {f t : Int} (h : okInt (Lib.parseIntB 64 (partsR s).1) = some f) (h2 : okInt (Lib.parseIntB 64 (partsR s).2.1) = some t) (h3 : ¬ 4611686018427387903 ≤ t) (h4 : totP (partsR s).2.2 = none) : progR s = none := by unfold progR; rw [h]; simp only; rw [h2]; simp only; rw [if_neg h3, h4]
theorem progR_n {s : List UInt8} {f t n : Int} (h : okInt (Lib.parseIntB 64 (partsR s).1) = some f) (h2 : okInt (Lib.parseIntB 64 (partsR s).2.1) = some t) (h3 : ¬ 4611686018427387903 ≤ t) (h4 : totP (partsR s).2.2 = some n) : progR s = progT s f t n := by unfold progR progT; rw [h]; simp only; rw [h2]; simp only; rw [if_neg h3, h4]
set_option maxHeartbeats 8000000 in
set_option maxRecDepth 100000 in
theorem range_any (s : List UInt8) (w : World) (hv : Vars w) (_hs : s.length ≤ 4294967000) : Calls Tryz.prog 35 #[str s] w fun e w' => e = .returned (rangeV (progR s)) ∧ Gr w w' := by
  have hb := Bk.new w 31 #[.int .i64 0, .int .i64 0] (0, 0)
  have hG1 := Gr.al (Gr.refl w) (Obj.cells #[.int .i64 0, .int .i64 0] 31)
  have HV1 := Lib.hid (hv.gr hG1); have HVW := Lib.hid hv; clear hv
  have l1 := trimP_len s [98, 121, 116, 101, 115, 32]
  have l2 := cut_len (Lib.trimPrefix s [98, 121, 116, 101, 115, 32]) [47]
  have l3 := cut_len (Lib.cut (Lib.trimPrefix s [98, 121, 116, 101, 115, 32]) [47]).1 [45]
  have HCP := Lib.hid (fun (w : World) => m_cutPre s [98, 121, 116, 101, 115, 32] w)
  have HC1 := Lib.hid (fun (w : World) (h : Ml w) => m_cut (Lib.trimPrefix s [98, 121, 116, 101, 115, 32]) [47] w h (by omega))
  have HC2 := Lib.hid (fun (w : World) (h : Ml w) => m_cut (Lib.cut (Lib.trimPrefix s [98, 121, 116, 101, 115, 32]) [47]).1 [45] w h (by omega))
  have HR1 := Lib.hid (fun h => progR_f (s := s) h)
  have HR2 := Lib.hid (fun f h h2 => progR_t (s := s) (f := f) h h2)
  have HR3 := Lib.hid (fun f t h h2 h3 => progR_g (s := s) (f := f) (t := t) h h2 h3)
  have HR4 := Lib.hid (fun f t h h2 h3 h4 => progR_a (s := s) (f := f) (t := t) h h2 h3 h4)
  have HR5 := Lib.hid (fun f t n h h2 h3 h4 => progR_n (s := s) (f := f) (t := t) (n := n) h h2 h3 h4)
  unfold partsR at HR1 HR2 HR3 HR4 HR5
  generalize Lib.trimPrefix s [98, 121, 116, 101, 115, 32] = tp at *
  generalize [98, 121, 116, 101, 115, 32].isPrefixOf s = tpb at *
  generalize Lib.cut (Lib.cut tp [47]).1 [45] = c2 at *
  generalize Lib.cut tp [47] = c1 at *
  obtain ⟨pe, pa, pb⟩ := c1
  obtain ⟨pf, pl, pc⟩ := c2
  simp only at *
  go_enter Tryz.func35, Tryz.ntmps35
  go_upto_region 1 with fail
  generalize w.alloc (Obj.cells #[.int .i64 0, .int .i64 0] 31) = w1 at *
  generalize hg : w.heap.size = g at *
  have HB := Lib.hid hb; clear hb
  go_upto_region 2 with (go_at_call 34; refine (HCP.out _).mono ?_; rintro e w2 ⟨rfl, hG2⟩)
  go_upto_region 3 with (go_at_call 55; refine (HC1.out _ (HV1.out.gr hG2).ml).mono ?_; rintro e w3 ⟨rfl, hG3⟩)
  go_upto_region 4 with (go_at_call 55; refine (HC2.out _ ((HV1.out.gr hG2).gr hG3).ml).mono ?_; rintro e w4 ⟨rfl, hG4⟩)
  have hG14 := Gr.tr (Gr.tr hG2 hG3) hG4
  have HV4 := Lib.hid (HV1.out.gr hG14)
  have hGw4 := Gr.tr hG1 hG14
  have HB4 := Lib.hid (HB.out.gr hG14)
  clear hG2 hG3 hG4 HV1 HB HCP HC1 HC2 hG1 hG14
  go_upto_region 5 with fail
  have hbx := Bk.new w4 31 #[.int .i64 0, .int .i64 0] (0, 0)
  have hG5 := Gr.al (Gr.refl w4) (Obj.cells #[.int .i64 0, .int .i64 0] 31)
  have hne : g ≠ w4.heap.size := by have := HB4.out.lt; omega
  have HB5 := Lib.hid (HB4.out.al (Obj.cells #[.int .i64 0, .int .i64 0] 31))
  have HV5 := Lib.hid (HV4.out.gr hG5)
  have hGw5 := Gr.tr hGw4 hG5
  have hgx : w.heap.size ≤ w4.heap.size := hGw4.size
  generalize w4.alloc (Obj.cells #[.int .i64 0, .int .i64 0] 31) = w5 at *
  generalize w4.heap.size = gx at *
  have HBX := Lib.hid hbx
  have HX5 := HBX
  clear hbx hG5 hGw4 HB4 HV4 HBX HV5
  cases hq : okInt (Lib.parseIntB 64 pf) with
  | none =>
    have HR := Lib.hid (HR1.out hq)
    clear HR1 HR2 HR3 HR4 HR5
    have HPI := Lib.hid (fun (w : World) (hv : Vars w) => parseInt_no pf hq w hv (by omega))
    clear hq
    go_wp2_with (go_at_call 56; refine (HPI.out _ (HVW.out.gr hGw5)).mono ?_; rintro e w6 ⟨xq, N, rfl, hG6⟩; have HB6 := Lib.hid (HB5.out.gr hG6); have HX6 := Lib.hid (HX5.out.gr hG6); obtain ⟨y0, y1⟩ := HX6.out.cells2; obtain ⟨f0, f1⟩ := HX6.out.free2; obtain ⟨v0, v1⟩ := HB6.out.cells2; obtain ⟨e0, e1⟩ := HB6.out.free2)
    obtain ⟨x0, x1⟩ := ((HB6.out.far (p := ⟨gx, 0, none⟩) hne (.int .i64 xq)).set2 (.int .i64 0) (.int .i64 0)).cells2
    exact bodyPost_ret (v := rangeV none) (by simp [rangeV, results, Tryz.results35, go_sem, x0, x1]) rfl ⟨by rw [HR.out], Gr.st (Gr.st (Gr.st (Gr.tr hGw5 hG6) hgx _) (Nat.le_of_eq hg) _) (Nat.le_of_eq hg) _⟩
  | some f =>
    have HR2 := Lib.hid (HR2.out f hq)
    have HR3 := Lib.hid (fun t => HR3.out f t hq)
    have HR4 := Lib.hid (fun t => HR4.out f t hq)
    have HR5 := Lib.hid (fun t n => HR5.out f t n hq)
    have HPI := Lib.hid (fun (w : World) => parseInt_ok pf _ hq w (by omega))
    have hbdf := okInt_bounds hq
    clear hq
    go_upto_region 7 with (go_at_call 56; refine (HPI.out _).mono ?_; rintro e w6 ⟨rfl, hG6⟩; have HB6 := Lib.hid (HB5.out.gr hG6); have HX6 := Lib.hid (HX5.out.gr hG6); obtain ⟨y0, y1⟩ := HX6.out.cells2; obtain ⟨f0, f1⟩ := HX6.out.free2; obtain ⟨v0, v1⟩ := HB6.out.cells2; obtain ⟨e0, e1⟩ := HB6.out.free2)
    have hbx := HX6.out.set 0 (.int .i64 f)
    simp only [List.setIfInBounds_toArray, List.set_cons_zero] at hbx
    have HX7 := Lib.hid hbx
    have HB7 := Lib.hid (HB6.out.far (p := ⟨gx, 0, none⟩) hne (.int .i64 f))
    have hGw7 := Gr.st (Gr.tr hGw5 hG6) hgx (p := ⟨gx, 0, none⟩) (.int .i64 f)
    generalize w6.setCell ⟨gx, 0, none⟩ (.int .i64 f) = w7 at *
    clear y0 y1 f0 f1 v0 v1 e0 e1 hbx HB6 HX6 hG6 hGw5 HB5 HX5 HPI
    obtain ⟨w5, rfl⟩ : ∃ w5 : World, w5 = w7 := ⟨_, rfl⟩
    obtain ⟨hGw5, HB5, HX5⟩ : Gr w w5 ∧ Hid (Bk w5 g 31 #[.int .i64 0, .int .i64 0] (0, 0)) ∧ Hid (Bk w5 gx 31 #[.int .i64 f, .int .i64 0] (0, 0)) := ⟨hGw7, HB7, HX7⟩
    clear HB7 HX7 hGw7
    cases hq : okInt (Lib.parseIntB 64 pl) with
    | none =>
      have HR := Lib.hid (HR2.out hq)
      clear HR1 HR2 HR3 HR4 HR5
      have HPI := Lib.hid (fun (w : World) (hv : Vars w) => parseInt_no pl hq w hv (by omega))
      clear hq
      go_wp2_with (go_at_call 56; refine (HPI.out _ (HVW.out.gr hGw5)).mono ?_; rintro e w6 ⟨xq, N, rfl, hG6⟩; have HB6 := Lib.hid (HB5.out.gr hG6); have HX6 := Lib.hid (HX5.out.gr hG6); obtain ⟨y0, y1⟩ := HX6.out.cells2; obtain ⟨f0, f1⟩ := HX6.out.free2; obtain ⟨v0, v1⟩ := HB6.out.cells2; obtain ⟨e0, e1⟩ := HB6.out.free2)
      obtain ⟨x0, x1⟩ := ((HB6.out.far (p := ⟨gx, 1, none⟩) hne (.int .i64 xq)).set2 (.int .i64 0) (.int .i64 0)).cells2
      exact bodyPost_ret (v := rangeV none) (by simp [rangeV, results, Tryz.results35, go_sem, x0, x1]) rfl ⟨by rw [HR.out], Gr.st (Gr.st (Gr.st (Gr.tr hGw5 hG6) hgx _) (Nat.le_of_eq hg) _) (Nat.le_of_eq hg) _⟩
    | some t =>
      have HR3 := Lib.hid (HR3.out t hq)
      have HR4 := Lib.hid (HR4.out t hq)
      have HR5 := Lib.hid (fun n => HR5.out t n hq)
      have HPI := Lib.hid (fun (w : World) => parseInt_ok pl _ hq w (by omega))
      have hbdt := okInt_bounds hq
      clear hq
      go_upto_region 10 with (go_at_call 56; refine (HPI.out _).mono ?_; rintro e w6 ⟨rfl, hG6⟩; have HB6 := Lib.hid (HB5.out.gr hG6); have HX6 := Lib.hid (HX5.out.gr hG6); obtain ⟨y0, y1⟩ := HX6.out.cells2; obtain ⟨f0, f1⟩ := HX6.out.free2; obtain ⟨v0, v1⟩ := HB6.out.cells2; obtain ⟨e0, e1⟩ := HB6.out.free2)
      have hbx := HX6.out.set 1 (.int .i64 t)
      simp only [List.setIfInBounds_toArray, List.set_cons_zero, List.set_cons_succ] at hbx
      have HX7 := Lib.hid hbx
      have HB7 := Lib.hid (HB6.out.far (p := ⟨gx, 1, none⟩) hne (.int .i64 t))
      have hGw7 := Gr.st (Gr.tr hGw5 hG6) hgx (p := ⟨gx, 1, none⟩) (.int .i64 t)
      generalize w6.setCell ⟨gx, 1, none⟩ (.int .i64 t) = w7 at *
      clear y0 y1 f0 f1 v0 v1 e0 e1 hbx HB6 HX6 hG6 hGw5 HB5 HX5 HPI
      obtain ⟨w5, rfl⟩ : ∃ w5 : World, w5 = w7 := ⟨_, rfl⟩
      obtain ⟨hGw5, HB5, HX5⟩ : Gr w w5 ∧ Hid (Bk w5 g 31 #[.int .i64 0, .int .i64 0] (0, 0)) ∧ Hid (Bk w5 gx 31 #[.int .i64 f, .int .i64 t] (0, 0)) := ⟨hGw7, HB7, HX7⟩
      clear HB7 HX7 hGw7
      obtain ⟨y0, y1⟩ := HX5.out.cells2
      obtain ⟨f0, f1⟩ := HX5.out.free2
      by_cases hgt : 4611686018427387903 ≤ t
      · have HR := Lib.hid (HR3.out hgt)
        have kg : decide (4611686018427387903 ≤ t) = true := decide_eq_true hgt
        obtain ⟨v0, v1⟩ := HB5.out.cells2
        obtain ⟨e0, e1⟩ := HB5.out.free2
        go_wp2_with fail
        obtain ⟨x0, x1⟩ := (HB5.out.set2 (.int .i64 0) (.int .i64 0)).cells2
        exact bodyPost_ret (v := rangeV none) (by simp [rangeV, results, Tryz.results35, go_sem, x0, x1]) rfl ⟨by rw [HR.out], Gr.st (Gr.st hGw5 (Nat.le_of_eq hg) _) (Nat.le_of_eq hg) _⟩
      · have HR4 := Lib.hid (HR4.out (Int.not_le.1 hgt))
        have HR5 := Lib.hid (fun n => HR5.out n (Int.not_le.1 hgt))
        have kg : decide (4611686018427387903 ≤ t) = false := decide_eq_false hgt
        go_upto_region 13 with fail
        have hbx := HX5.out.set 1 (.int .i64 (t + 1))
        simp only [List.setIfInBounds_toArray, List.set_cons_zero, List.set_cons_succ] at hbx
        have HX7 := Lib.hid hbx
        have HB7 := Lib.hid (HB5.out.far (p := ⟨gx, 1, none⟩) hne (.int .i64 (t + 1)))
        have hGw7 := Gr.st hGw5 hgx (p := ⟨gx, 1, none⟩) (.int .i64 (t + 1))
        generalize w5.setCell ⟨gx, 1, none⟩ (.int .i64 (t + 1)) = w7 at *
        clear y0 y1 f0 f1 hbx HB5 HX5 hGw5
        obtain ⟨w5, rfl⟩ : ∃ w5 : World, w5 = w7 := ⟨_, rfl⟩
        obtain ⟨hGw5, HB5, HX5⟩ : Gr w w5 ∧ Hid (Bk w5 g 31 #[.int .i64 0, .int .i64 0] (0, 0)) ∧ Hid (Bk w5 gx 31 #[.int .i64 f, .int .i64 (t + 1)] (0, 0)) := ⟨hGw7, HB7, HX7⟩
        clear HB7 HX7 hGw7
        by_cases hst : pa = [42]
        · have kst : (pa == [42]) = true := by simp [hst]
          have HR6 := Lib.hid (HR5.out (-1) (by unfold totP; rw [if_pos hst]))
          clear HR1 HR2 HR3 HR4 HR5 hst
          have HC := Lib.hid (fun (w : World) (hp : Pw w) => content_any f (t + 1) (-1) w hp (by omega) (by omega) (by omega))
          obtain ⟨y0, y1⟩ := HX5.out.cells2
          by_cases hc0 : contentL f (t + 1) (-1) = []
          · have kc : (contentL f (t + 1) (-1) == []) = true := by simp [hc0]
            have ke : (contentL f (t + 1) (-1)).isEmpty = true := by simp [hc0]
            have HR := Lib.hid (show progR s = none from by rw [HR6.out]; unfold progT; rw [if_pos hc0])
            clear hc0 HR6
            go_wp2_with (go_at_call 12; refine (HC.out _ (HVW.out.gr hGw5).pw).mono ?_; rintro e w6 ⟨rfl, hG6⟩; have HB6 := Lib.hid (HB5.out.gr hG6); obtain ⟨v0, v1⟩ := HB6.out.cells2; obtain ⟨e0, e1⟩ := HB6.out.free2)
            obtain ⟨x0, x1⟩ := (HB6.out.set2 (.int .i64 0) (.int .i64 0)).cells2
            exact bodyPost_ret (v := rangeV none) (by simp [rangeV, results, Tryz.results35, go_sem, x0, x1]) rfl ⟨by rw [HR.out], Gr.st (Gr.st (Gr.tr hGw5 hG6) (Nat.le_of_eq hg) _) (Nat.le_of_eq hg) _⟩
          · have kc : (contentL f (t + 1) (-1) == []) = false := by simpa using hc0
            have ke : (contentL f (t + 1) (-1)).isEmpty = false := by simpa using hc0
            by_cases hcs : contentL f (t + 1) (-1) = s
            · have ks : (contentL f (t + 1) (-1) == s) = true := by simpa using hcs
              have HR := Lib.hid (show progR s = some (f, t + 1, (-1)) from by rw [HR6.out]; unfold progT; rw [if_neg hc0, if_pos hcs])
              clear hc0 hcs HR6
              go_wp2_with (go_at_call 12; refine (HC.out _ (HVW.out.gr hGw5).pw).mono ?_; rintro e w6 ⟨rfl, hG6⟩; have HB6 := Lib.hid (HB5.out.gr hG6); obtain ⟨v0, v1⟩ := HB6.out.cells2; obtain ⟨e0, e1⟩ := HB6.out.free2; have y0 := hG6.cell y0; have y1 := hG6.cell y1)
              obtain ⟨x0, x1⟩ := (HB6.out.set2 (.int .i64 f) (.int .i64 (t + 1))).cells2
              exact bodyPost_ret (v := rangeV (some (f, t + 1, (-1)))) (by simp [rangeV, results, Tryz.results35, go_sem, x0, x1]) rfl ⟨by rw [HR.out], Gr.st (Gr.st (Gr.tr hGw5 hG6) (Nat.le_of_eq hg) _) (Nat.le_of_eq hg) _⟩
            · have ks : (contentL f (t + 1) (-1) == s) = false := by simpa using hcs
              have HR := Lib.hid (show progR s = none from by rw [HR6.out]; unfold progT; rw [if_neg hc0, if_neg hcs])
              clear hc0 hcs HR6
              go_wp2_with (go_at_call 12; refine (HC.out _ (HVW.out.gr hGw5).pw).mono ?_; rintro e w6 ⟨rfl, hG6⟩; have HB6 := Lib.hid (HB5.out.gr hG6); obtain ⟨v0, v1⟩ := HB6.out.cells2; obtain ⟨e0, e1⟩ := HB6.out.free2)
              obtain ⟨x0, x1⟩ := (HB6.out.set2 (.int .i64 0) (.int .i64 0)).cells2
              exact bodyPost_ret (v := rangeV none) (by simp [rangeV, results, Tryz.results35, go_sem, x0, x1]) rfl ⟨by rw [HR.out], Gr.st (Gr.st (Gr.tr hGw5 hG6) (Nat.le_of_eq hg) _) (Nat.le_of_eq hg) _⟩
        · have kst : (pa == [42]) = false := by simpa using hst
          cases hq : okInt (Lib.parseIntB 64 pa) with
          | none =>
            have HR := Lib.hid (HR4.out (by unfold totP; rw [if_neg hst, hq]))
            clear HR1 HR2 HR3 HR4 HR5 hst
            have HPI := Lib.hid (fun (w : World) (hv : Vars w) => parseInt_no pa hq w hv (by omega))
            clear hq
            go_wp2_with (go_at_call 56; refine (HPI.out _ (HVW.out.gr hGw5)).mono ?_; rintro e w6 ⟨xq, N, rfl, hG6⟩; have HB6 := Lib.hid (HB5.out.gr hG6); have HX6 := Lib.hid (HX5.out.gr hG6); obtain ⟨y0, y1⟩ := HX6.out.cells2; obtain ⟨f0, f1⟩ := HX6.out.free2; obtain ⟨v0, v1⟩ := HB6.out.cells2; obtain ⟨e0, e1⟩ := HB6.out.free2)
            obtain ⟨x0, x1⟩ := (HB6.out.set2 (.int .i64 0) (.int .i64 0)).cells2
            exact bodyPost_ret (v := rangeV none) (by simp [rangeV, results, Tryz.results35, go_sem, x0, x1]) rfl ⟨by rw [HR.out], Gr.st (Gr.st (Gr.tr hGw5 hG6) (Nat.le_of_eq hg) _) (Nat.le_of_eq hg) _⟩
          | some n =>
            have HR6 := Lib.hid (HR5.out n (by unfold totP; rw [if_neg hst, hq]))
            clear HR1 HR2 HR3 HR4 HR5 hst
            have HPI := Lib.hid (fun (w : World) => parseInt_ok pa _ hq w (by omega))
            have hbdn := okInt_bounds hq
            clear hq
            go_upto_region 16 with (go_at_call 56; refine (HPI.out _).mono ?_; rintro e w6 ⟨rfl, hG6⟩)
            have hGw7 := Gr.tr hGw5 hG6
            have HB7 := Lib.hid (HB5.out.gr hG6)
            have HX7 := Lib.hid (HX5.out.gr hG6)
            clear HB5 HX5 hGw5 HPI hG6
            obtain ⟨w5, rfl⟩ : ∃ w5 : World, w5 = w6 := ⟨_, rfl⟩
            obtain ⟨hGw5, HB5, HX5⟩ : Gr w w5 ∧ Hid (Bk w5 g 31 #[.int .i64 0, .int .i64 0] (0, 0)) ∧ Hid (Bk w5 gx 31 #[.int .i64 f, .int .i64 (t + 1)] (0, 0)) := ⟨hGw7, HB7, HX7⟩
            clear HB7 HX7 hGw7
            have HC := Lib.hid (fun (w : World) (hp : Pw w) => content_any f (t + 1) n w hp (by omega) (by omega) (by omega))
            obtain ⟨y0, y1⟩ := HX5.out.cells2
            by_cases hc0 : contentL f (t + 1) n = []
            · have kc : (contentL f (t + 1) n == []) = true := by simp [hc0]
              have ke : (contentL f (t + 1) n).isEmpty = true := by simp [hc0]
              have HR := Lib.hid (show progR s = none from by rw [HR6.out]; unfold progT; rw [if_pos hc0])
              clear hc0 HR6
              go_wp2_with (go_at_call 12; refine (HC.out _ (HVW.out.gr hGw5).pw).mono ?_; rintro e w6 ⟨rfl, hG6⟩; have HB6 := Lib.hid (HB5.out.gr hG6); obtain ⟨v0, v1⟩ := HB6.out.cells2; obtain ⟨e0, e1⟩ := HB6.out.free2)
              obtain ⟨x0, x1⟩ := (HB6.out.set2 (.int .i64 0) (.int .i64 0)).cells2
              exact bodyPost_ret (v := rangeV none) (by simp [rangeV, results, Tryz.results35, go_sem, x0, x1]) rfl ⟨by rw [HR.out], Gr.st (Gr.st (Gr.tr hGw5 hG6) (Nat.le_of_eq hg) _) (Nat.le_of_eq hg) _⟩
            · have kc : (contentL f (t + 1) n == []) = false := by simpa using hc0
              have ke : (contentL f (t + 1) n).isEmpty = false := by simpa using hc0
              by_cases hcs : contentL f (t + 1) n = s
              · have ks : (contentL f (t + 1) n == s) = true := by simpa using hcs
                have HR := Lib.hid (show progR s = some (f, t + 1, n) from by rw [HR6.out]; unfold progT; rw [if_neg hc0, if_pos hcs])
                clear hc0 hcs HR6
                go_wp2_with (go_at_call 12; refine (HC.out _ (HVW.out.gr hGw5).pw).mono ?_; rintro e w6 ⟨rfl, hG6⟩; have HB6 := Lib.hid (HB5.out.gr hG6); obtain ⟨v0, v1⟩ := HB6.out.cells2; obtain ⟨e0, e1⟩ := HB6.out.free2; have y0 := hG6.cell y0; have y1 := hG6.cell y1)
                obtain ⟨x0, x1⟩ := (HB6.out.set2 (.int .i64 f) (.int .i64 (t + 1))).cells2
                exact bodyPost_ret (v := rangeV (some (f, t + 1, n))) (by simp [rangeV, results, Tryz.results35, go_sem, x0, x1]) rfl ⟨by rw [HR.out], Gr.st (Gr.st (Gr.tr hGw5 hG6) (Nat.le_of_eq hg) _) (Nat.le_of_eq hg) _⟩
              · have ks : (contentL f (t + 1) n == s) = false := by simpa using hcs
                have HR := Lib.hid (show progR s = none from by rw [HR6.out]; unfold progT; rw [if_neg hc0, if_neg hcs])
                clear hc0 hcs HR6
                go_wp2_with (go_at_call 12; refine (HC.out _ (HVW.out.gr hGw5).pw).mono ?_; rintro e w6 ⟨rfl, hG6⟩; have HB6 := Lib.hid (HB5.out.gr hG6); obtain ⟨v0, v1⟩ := HB6.out.cells2; obtain ⟨e0, e1⟩ := HB6.out.free2)
                obtain ⟨x0, x1⟩ := (HB6.out.set2 (.int .i64 0) (.int .i64 0)).cells2
                exact bodyPost_ret (v := rangeV none) (by simp [rangeV, results, Tryz.results35, go_sem, x0, x1]) rfl ⟨by rw [HR.out], Gr.st (Gr.st (Gr.tr hGw5 hG6) (Nat.le_of_eq hg) _) (Nat.le_of_eq hg) _⟩
end Go.Proofs.YtnmfmcmokdoieaaGreatDoor
