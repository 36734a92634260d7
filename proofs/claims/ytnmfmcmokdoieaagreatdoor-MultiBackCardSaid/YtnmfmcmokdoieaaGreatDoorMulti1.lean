/- Layer 11: content ranges, by the program and by the document. The condition: the library's table of powers of ten lies where it was laid. -/
import Derived.Test.YtnmfmcmokdoieaaGreatDoorMultiLaw1
import Derived.Test.YtnmfmcmokdoieaaGreatDoorOwn
set_option linter.unusedVariables false
set_option linter.unusedSimpArgs false
namespace Go.Proofs.YtnmfmcmokdoieaaGreatDoor
open Go.RowKit
def spanV (f t : Int) : Value := .agg #[.int .i64 f, .int .i64 t]
set_option maxHeartbeats 2000000 in
theorem spanRight_any (f t : Int) (w : World) : Calls Tryz.prog 21 #[.agg #[.int .i64 f, .int .i64 t]] w fun e w' => e = .returned (.bool (spanB f t)) ∧ Gr w w' := by
  have HS := Lib.hid (show spanB f t = (decide (0 ≤ f) && (decide (f ≤ t) && decide (t ≤ 4611686018427387904))) from rfl)
  by_cases h1 : 0 ≤ f
  · have k1 : decide (0 ≤ f) = true := decide_eq_true h1
    by_cases h2 : f ≤ t
    · have k2 : decide (f ≤ t) = true := decide_eq_true h2
      go_enter Tryz.func21, Tryz.ntmps21
      go_wp2_with fail
      go_ret
      exact ⟨by rw [HS.out, k1, k2]; rfl, Gr.al (Gr.refl w) _⟩
    · have k2 : decide (f ≤ t) = false := decide_eq_false h2
      go_enter Tryz.func21, Tryz.ntmps21
      go_wp2_with fail
      go_ret
      exact ⟨by rw [HS.out, k1, k2]; rfl, Gr.al (Gr.refl w) _⟩
  · have k1 : decide (0 ≤ f) = false := decide_eq_false h1
    go_enter Tryz.func21, Tryz.ntmps21
    go_wp2_with fail
    go_ret
    exact ⟨by rw [HS.out, k1]; rfl, Gr.al (Gr.refl w) _⟩
set_option maxHeartbeats 1000000 in
theorem refEnd01_any (w : World) : Calls Tryz.prog 24 #[] w fun e w' => e = .returned (.int .i64 4611686018427387904) ∧ w' = w := by
  go_enter Tryz.func24, Tryz.ntmps24
  go_wp2_with fail
  go_ret
  exact ⟨rfl, rfl⟩
theorem refEnd01_gr (w : World) : Calls Tryz.prog 24 #[] w fun e w' => e = .returned (.int .i64 4611686018427387904) ∧ Gr w w' := (refEnd01_any w).mono fun _ _ ⟨h1, h2⟩ => ⟨h1, by subst h2; exact Gr.refl _⟩
set_option maxHeartbeats 2000000 in
theorem refSpanRight_any (f t : Int) (w : World) : Calls Tryz.prog 13 #[.agg #[.int .i64 f, .int .i64 t]] w fun e w' => e = .returned (.bool (spanB f t)) ∧ Gr w w' := by
  have HS := Lib.hid (show spanB f t = (decide (0 ≤ f) && (decide (f ≤ t) && decide (t ≤ 4611686018427387904))) from rfl)
  have hb := Bk.new w 31 #[.int .i64 f, .int .i64 t] (0, 0)
  have hG1 := Gr.al (Gr.refl w) (Obj.cells #[.int .i64 f, .int .i64 t] 31)
  by_cases h1 : 0 ≤ f
  · have k1 : decide (0 ≤ f) = true := decide_eq_true h1
    by_cases h2 : f ≤ t
    · have k2 : decide (f ≤ t) = true := decide_eq_true h2
      go_enter Tryz.func13, Tryz.ntmps13
      go_upto_region 1 with fail
      generalize w.alloc (Obj.cells #[.int .i64 f, .int .i64 t] 31) = w1 at *
      generalize w.heap.size = g at *
      have q0 : ∀ i, (gw w1 i).cell? ⟨g, 0, none⟩ = some (.int .i64 f) := fun i => (hb.gr (gw_gr w1 i)).cell 0
      have q1 : ∀ i, (gw w1 i).cell? ⟨g, 1, none⟩ = some (.int .i64 t) := fun i => (hb.gr (gw_gr w1 i)).cell 1
      have HG1 := Lib.hid hG1
      clear hb hG1
      refine wp_region_gw (by kernel_rfl) (by kernel_rfl) ?_
      repeat (first | go_big_quiet_step ((go_at_call 24; exact gw_call (refEnd01_gr _))) | quiet_step ((go_at_call 24; exact gw_call (refEnd01_gr _))))
      refine wpQuiet_nil ?_; intro wq hwq; obtain ⟨iq, rfl⟩ := hwq
      go_wp2_with fail
      go_ret
      exact ⟨by rw [HS.out, k1, k2]; rfl, Gr.tr HG1.out (gw_gr _ _)⟩
    · have k2 : decide (f ≤ t) = false := decide_eq_false h2
      go_enter Tryz.func13, Tryz.ntmps13
      go_upto_region 1 with fail
      generalize w.alloc (Obj.cells #[.int .i64 f, .int .i64 t] 31) = w1 at *
      generalize w.heap.size = g at *
      have q0 : ∀ i, (gw w1 i).cell? ⟨g, 0, none⟩ = some (.int .i64 f) := fun i => (hb.gr (gw_gr w1 i)).cell 0
      have q1 : ∀ i, (gw w1 i).cell? ⟨g, 1, none⟩ = some (.int .i64 t) := fun i => (hb.gr (gw_gr w1 i)).cell 1
      have HG1 := Lib.hid hG1
      clear hb hG1
      refine wp_region_gw (by kernel_rfl) (by kernel_rfl) ?_
      repeat (first | go_big_quiet_step ((go_at_call 24; exact gw_call (refEnd01_gr _))) | quiet_step ((go_at_call 24; exact gw_call (refEnd01_gr _))))
      refine wpQuiet_nil ?_; intro wq hwq; obtain ⟨iq, rfl⟩ := hwq
      go_wp2_with fail
      go_ret
      exact ⟨by rw [HS.out, k1, k2]; rfl, Gr.tr HG1.out (gw_gr _ _)⟩
  · have k1 : decide (0 ≤ f) = false := decide_eq_false h1
    go_enter Tryz.func13, Tryz.ntmps13
    go_upto_region 1 with fail
    generalize w.alloc (Obj.cells #[.int .i64 f, .int .i64 t] 31) = w1 at *
    generalize w.heap.size = g at *
    have q0 : ∀ i, (gw w1 i).cell? ⟨g, 0, none⟩ = some (.int .i64 f) := fun i => (hb.gr (gw_gr w1 i)).cell 0
    have q1 : ∀ i, (gw w1 i).cell? ⟨g, 1, none⟩ = some (.int .i64 t) := fun i => (hb.gr (gw_gr w1 i)).cell 1
    have HG1 := Lib.hid hG1
    clear hb hG1
    refine wp_region_gw (by kernel_rfl) (by kernel_rfl) ?_
    repeat (first | go_big_quiet_step ((go_at_call 24; exact gw_call (refEnd01_gr _))) | quiet_step ((go_at_call 24; exact gw_call (refEnd01_gr _))))
    refine wpQuiet_nil ?_; intro wq hwq; obtain ⟨iq, rfl⟩ := hwq
    go_wp2_with fail
    go_ret
    exact ⟨by rw [HS.out, k1]; rfl, Gr.tr HG1.out (gw_gr _ _)⟩
set_option maxHeartbeats 4000000 in
set_option maxRecDepth 100000 in
theorem content_any (f t n : Int) (w : World) (hp : Pw w) (hf : -9223372036854775808 ≤ f ∧ f ≤ 9223372036854775807) (ht : -9223372036854775808 ≤ t ∧ t ≤ 9223372036854775807) (hn : -9223372036854775808 ≤ n ∧ n ≤ 9223372036854775807) : Calls Tryz.prog 12 #[.agg #[.int .i64 f, .int .i64 t], .int .i64 n] w fun e w' => e = .returned (str (contentL f t n)) ∧ Gr w w' := by
  have hb := Bk.new w 31 #[.int .i64 f, .int .i64 t] (0, 0)
  have hG1 := Gr.al (Gr.refl w) (Obj.cells #[.int .i64 f, .int .i64 t] 31)
  have HP1 := Lib.hid (hp.gr hG1)
  clear hp
  have HS := Lib.hid (fun (w : World) => spanRight_any f t w)
  go_enter Tryz.func12, Tryz.ntmps12
  go_upto_region 1 with fail
  generalize w.alloc (Obj.cells #[.int .i64 f, .int .i64 t] 31) = w1 at *
  generalize w.heap.size = g at *
  have a0 : w1.cell? ⟨g, 0, none⟩ = some (.int .i64 f) := hb.cell 0
  have a1 : w1.cell? ⟨g, 1, none⟩ = some (.int .i64 t) := hb.cell 1
  have HB := Lib.hid hb
  clear hb
  cases c1 : spanB f t with
  | false =>
    rw [c1] at HS
    have HE := Lib.hid (cont_span (n := n) c1)
    go_wp2_with (go_at_call 21; refine (HS.out _).mono ?_; rintro e w2 ⟨rfl, hG2⟩; have b0 := hG2.cell a0; have b1 := hG2.cell a1)
    go_ret
    exact ⟨by rw [HE.out]; rfl, Gr.tr hG1 hG2⟩
  | true =>
    rw [c1] at HS
    have hsb := span_bounds c1
    by_cases g0 : f = t
    · have k0 : (f == t) = true := by simpa using g0
      have HE := Lib.hid (cont_same (f := f) (t := t) (n := n) g0)
      clear g0
      go_wp2_with (go_at_call 21; refine (HS.out _).mono ?_; rintro e w2 ⟨rfl, hG2⟩; have b0 := hG2.cell a0; have b1 := hG2.cell a1)
      go_ret
      exact ⟨by rw [HE.out]; rfl, Gr.tr hG1 hG2⟩
    · have k0 : (f == t) = false := by simpa using g0
      by_cases g1 : t = 4611686018427387904
      · have k1 : (t == 4611686018427387904) = true := by simpa using g1
        have HE := Lib.hid (cont_open (f := f) (t := t) (n := n) g1)
        clear g1
        go_wp2_with (go_at_call 21; refine (HS.out _).mono ?_; rintro e w2 ⟨rfl, hG2⟩; have b0 := hG2.cell a0; have b1 := hG2.cell a1)
        go_ret
        exact ⟨by rw [HE.out]; rfl, Gr.tr hG1 hG2⟩
      · have k1 : (t == 4611686018427387904) = false := by simpa using g1
        by_cases g2 : n < -1
        · have k2 : decide (n < -1) = true := decide_eq_true g2
          have HE := Lib.hid (cont_low (f := f) (t := t) (n := n) g2)
          clear g2
          go_wp2_with (go_at_call 21; refine (HS.out _).mono ?_; rintro e w2 ⟨rfl, hG2⟩; have b0 := hG2.cell a0; have b1 := hG2.cell a1)
          go_ret
          exact ⟨by rw [HE.out]; rfl, Gr.tr hG1 hG2⟩
        · have k2 : decide (n < -1) = false := decide_eq_false g2
          by_cases g3 : 4611686018427387903 < n
          · have k3 : decide (4611686018427387903 < n) = true := decide_eq_true g3
            have HE := Lib.hid (cont_high (f := f) (t := t) (n := n) g3)
            clear g3
            go_wp2_with (go_at_call 21; refine (HS.out _).mono ?_; rintro e w2 ⟨rfl, hG2⟩; have b0 := hG2.cell a0; have b1 := hG2.cell a1)
            go_ret
            exact ⟨by rw [HE.out]; rfl, Gr.tr hG1 hG2⟩
          · have k3 : decide (4611686018427387903 < n) = false := decide_eq_false g3
            by_cases g4 : n = -1
            · have k4 : (n == -1) = true := by simpa using g4
              have HE := Lib.hid (cont_any c1 g0 g1 g2 g3 (.inl g4))
              rw [if_pos g4] at HE
              clear g4
              have lf := itoa_len_int (x := f) hsb.1 (by omega)
              have lt := itoa_len_int (x := t - 1) (by omega) (by omega)
              go_upto_region 3 with (go_at_call 21; refine (HS.out _).mono ?_; rintro e w2 ⟨rfl, hG2⟩; have b0 := hG2.cell a0; have b1 := hG2.cell a1)
              have q0 : ∀ i, (gw w2 i).cell? ⟨g, 0, none⟩ = some (.int .i64 f) := fun i => (gw_gr w2 i).cell b0
              have q1 : ∀ i, (gw w2 i).cell? ⟨g, 1, none⟩ = some (.int .i64 t) := fun i => (gw_gr w2 i).cell b1
              have HG2 := Lib.hid (Gr.tr hG1 hG2)
              have HP2 := Lib.hid (HP1.out.gr hG2)
              clear hG2 hG1 a0 a1
              refine wp_region_gw (by kernel_rfl) (by kernel_rfl) ?_
              repeat (first | go_big_quiet_step ((go_at_call 23; exact gw_call (fmtInt_any _ _ (HP2.out.gr (gw_gr _ _)) (by omega) (by omega)))) | quiet_step ((go_at_call 23; exact gw_call (fmtInt_any _ _ (HP2.out.gr (gw_gr _ _)) (by omega) (by omega)))))
              refine wpQuiet_nil ?_; intro wq hwq; obtain ⟨iq, rfl⟩ := hwq
              have HG3 := Lib.hid (Gr.tr HG2.out (gw_gr w2 iq))
              have s1 := q1 iq
              have s0 := q0 iq
              have HP3 := Lib.hid (HP2.out.gr (gw_gr w2 iq))
              generalize gw w2 iq = w3 at *
              clear q0 q1
              go_wp2_with fail
              go_ret
              exact ⟨by rw [HE.out]; simp [headC], HG3.out⟩
            · have k4 : (n == -1) = false := by simpa using g4
              by_cases g5 : n < t
              · have k5 : decide (n < t) = true := decide_eq_true g5
                have HE := Lib.hid (cont_behind (f := f) (t := t) (n := n) g4 g5)
                clear g4
                have lf := itoa_len_int (x := f) hsb.1 (by omega)
                have lt := itoa_len_int (x := t - 1) (by omega) (by omega)
                go_upto_region 3 with (go_at_call 21; refine (HS.out _).mono ?_; rintro e w2 ⟨rfl, hG2⟩; have b0 := hG2.cell a0; have b1 := hG2.cell a1)
                have q0 : ∀ i, (gw w2 i).cell? ⟨g, 0, none⟩ = some (.int .i64 f) := fun i => (gw_gr w2 i).cell b0
                have q1 : ∀ i, (gw w2 i).cell? ⟨g, 1, none⟩ = some (.int .i64 t) := fun i => (gw_gr w2 i).cell b1
                have HG2 := Lib.hid (Gr.tr hG1 hG2)
                have HP2 := Lib.hid (HP1.out.gr hG2)
                clear hG2 hG1 a0 a1
                refine wp_region_gw (by kernel_rfl) (by kernel_rfl) ?_
                repeat (first | go_big_quiet_step ((go_at_call 23; exact gw_call (fmtInt_any _ _ (HP2.out.gr (gw_gr _ _)) (by omega) (by omega)))) | quiet_step ((go_at_call 23; exact gw_call (fmtInt_any _ _ (HP2.out.gr (gw_gr _ _)) (by omega) (by omega)))))
                refine wpQuiet_nil ?_; intro wq hwq; obtain ⟨iq, rfl⟩ := hwq
                have HG3 := Lib.hid (Gr.tr HG2.out (gw_gr w2 iq))
                have s1 := q1 iq
                have s0 := q0 iq
                have HP3 := Lib.hid (HP2.out.gr (gw_gr w2 iq))
                generalize gw w2 iq = w3 at *
                clear q0 q1
                go_wp2_with fail
                go_ret
                exact ⟨by rw [HE.out]; rfl, HG3.out⟩
              · have k5 : decide (n < t) = false := decide_eq_false g5
                have HE := Lib.hid (cont_any c1 g0 g1 g2 g3 (.inr (by omega)))
                rw [if_neg g4] at HE
                have hn1 : -1 < n := by omega
                have ln := itoa_len_int (x := n) (by omega) (by omega)
                clear g4
                have lf := itoa_len_int (x := f) hsb.1 (by omega)
                have lt := itoa_len_int (x := t - 1) (by omega) (by omega)
                go_upto_region 3 with (go_at_call 21; refine (HS.out _).mono ?_; rintro e w2 ⟨rfl, hG2⟩; have b0 := hG2.cell a0; have b1 := hG2.cell a1)
                have q0 : ∀ i, (gw w2 i).cell? ⟨g, 0, none⟩ = some (.int .i64 f) := fun i => (gw_gr w2 i).cell b0
                have q1 : ∀ i, (gw w2 i).cell? ⟨g, 1, none⟩ = some (.int .i64 t) := fun i => (gw_gr w2 i).cell b1
                have HG2 := Lib.hid (Gr.tr hG1 hG2)
                have HP2 := Lib.hid (HP1.out.gr hG2)
                clear hG2 hG1 a0 a1
                refine wp_region_gw (by kernel_rfl) (by kernel_rfl) ?_
                repeat (first | go_big_quiet_step ((go_at_call 23; exact gw_call (fmtInt_any _ _ (HP2.out.gr (gw_gr _ _)) (by omega) (by omega)))) | quiet_step ((go_at_call 23; exact gw_call (fmtInt_any _ _ (HP2.out.gr (gw_gr _ _)) (by omega) (by omega)))))
                refine wpQuiet_nil ?_; intro wq hwq; obtain ⟨iq, rfl⟩ := hwq
                have HG3 := Lib.hid (Gr.tr HG2.out (gw_gr w2 iq))
                have s1 := q1 iq
                have s0 := q0 iq
                have HP3 := Lib.hid (HP2.out.gr (gw_gr w2 iq))
                generalize gw w2 iq = w3 at *
                clear q0 q1
                go_wp2_with (go_at_call 23; refine (fmtInt_any _ _ HP3.out (by omega) (by omega)).mono ?_; rintro e w4 ⟨rfl, hG4⟩)
                go_ret
                exact ⟨by rw [HE.out]; simp [headC], Gr.tr HG3.out hG4⟩
end Go.Proofs.YtnmfmcmokdoieaaGreatDoor
