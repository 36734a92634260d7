/- Layer 11: content ranges, by the program and by the document. The condition: the library's table of powers of ten lies where it was laid. -/
import Derived.Test.YtnmfmcmokdoieaaDoorMultiLaw1
import Derived.Test.YtnmfmcmokdoieaaDoorOwn
set_option linter.unusedVariables false
set_option linter.unusedSimpArgs false
namespace Go.Proofs.YtnmfmcmokdoieaaDoor
open Go.RowKit
set_option maxHeartbeats 2000000 in
theorem refDigits11_any (m : Nat) : ∀ (w : World), m ≤ 9223372036854775807 → Calls Tryd.prog 24 #[.int .i64 m] w fun e w' => e = .returned (str (Lib.decDigits m)) ∧ Gr w w' := by
  induction m using Nat.strongRecOn with
  | _ m ih =>
    intro w hm
    by_cases h : m < 10
    · have k1 : decide ((m : Int) < 10) = true := decide_eq_true (by omega)
      have HD := Lib.hid (dec_small h)
      have HS := Lib.hid (dig_slice m h)
      go_enter Tryd.func24, Tryd.ntmps24
      go_wp2_with fail
      go_ret
      refine ⟨?_, Gr.refl _⟩
      rw [HD.out, ← HS.out]; rfl
    · have k1 : decide ((m : Int) < 10) = false := decide_eq_false (by omega)
      have HI := Lib.hid (fun (w : World) => show Calls Tryd.prog 24 #[.int .i64 ((m : Int) / 10)] w fun e w' => e = .returned (str (Lib.decDigits (m / 10))) ∧ Gr w w' from by
        rw [show (m : Int) / 10 = ((m / 10 : Nat) : Int) from by omega]
        exact ih (m / 10) (by omega) w (by omega))
      have HD := Lib.hid (dec_great h)
      have HS := Lib.hid (dig_slice (m % 10) (by omega))
      have hl : (Lib.decDigits (m / 10)).length ≤ 19 := dec_len19 (by omega)
      clear ih h
      go_enter Tryd.func24, Tryd.ntmps24
      go_upto_region 3 with fail
      refine wp_region_gw (by kernel_rfl) (by kernel_rfl) ?_
      repeat (first | go_big_quiet_step ((go_at_call 24; exact gw_call (HI.out _))) | quiet_step ((go_at_call 24; exact gw_call (HI.out _))))
      refine wpQuiet_nil ?_; intro wq hwq; obtain ⟨iq, rfl⟩ := hwq
      go_wp2_with fail
      go_ret
      refine ⟨?_, gw_gr _ _⟩
      rw [HD.out, ← HS.out]; rfl
theorem refDigits11_int (x : Int) (w : World) (h0 : 0 ≤ x) (h1 : x ≤ 9223372036854775807) : Calls Tryd.prog 24 #[.int .i64 x] w fun e w' => e = .returned (str (Lib.itoa x)) ∧ Gr w w' := by
  obtain ⟨m, rfl⟩ : ∃ m : Nat, x = m := ⟨x.toNat, by omega⟩
  rw [itoa_nat]
  exact refDigits11_any m w (by omega)
def spanV (f t : Int) : Value := .agg #[.int .i64 f, .int .i64 t]
set_option maxHeartbeats 2000000 in
theorem spanRight_any (f t : Int) (w : World) : Calls Tryd.prog 21 #[.agg #[.int .i64 f, .int .i64 t]] w fun e w' => e = .returned (.bool (spanB f t)) ∧ Gr w w' := by
  have HS := Lib.hid (show spanB f t = (decide (0 ≤ f) && (decide (f ≤ t) && decide (t ≤ 4611686018427387904))) from rfl)
  by_cases h1 : 0 ≤ f
  · have k1 : decide (0 ≤ f) = true := decide_eq_true h1
    by_cases h2 : f ≤ t
    · have k2 : decide (f ≤ t) = true := decide_eq_true h2
      go_enter Tryd.func21, Tryd.ntmps21
      go_wp2_with fail
      go_ret
      exact ⟨by rw [HS.out, k1, k2]; rfl, Gr.al (Gr.refl w) _⟩
    · have k2 : decide (f ≤ t) = false := decide_eq_false h2
      go_enter Tryd.func21, Tryd.ntmps21
      go_wp2_with fail
      go_ret
      exact ⟨by rw [HS.out, k1, k2]; rfl, Gr.al (Gr.refl w) _⟩
  · have k1 : decide (0 ≤ f) = false := decide_eq_false h1
    go_enter Tryd.func21, Tryd.ntmps21
    go_wp2_with fail
    go_ret
    exact ⟨by rw [HS.out, k1]; rfl, Gr.al (Gr.refl w) _⟩
set_option maxHeartbeats 1000000 in
theorem refEnd01_any (w : World) : Calls Tryd.prog 41 #[] w fun e w' => e = .returned (.int .i64 4611686018427387904) ∧ w' = w := by
  go_enter Tryd.func41, Tryd.ntmps41
  go_wp2_with fail
  go_ret
  exact ⟨rfl, rfl⟩
theorem refEnd01_gr (w : World) : Calls Tryd.prog 41 #[] w fun e w' => e = .returned (.int .i64 4611686018427387904) ∧ Gr w w' := (refEnd01_any w).mono fun _ _ ⟨h1, h2⟩ => ⟨h1, by subst h2; exact Gr.refl _⟩
set_option maxHeartbeats 2000000 in
theorem refSpanRight_any (f t : Int) (w : World) : Calls Tryd.prog 23 #[.agg #[.int .i64 f, .int .i64 t]] w fun e w' => e = .returned (.bool (spanB f t)) ∧ Gr w w' := by
  have HS := Lib.hid (show spanB f t = (decide (0 ≤ f) && (decide (f ≤ t) && decide (t ≤ 4611686018427387904))) from rfl)
  have hb := Bk.new w 23 #[.int .i64 f, .int .i64 t] (0, 0)
  have hG1 := Gr.al (Gr.refl w) (Obj.cells #[.int .i64 f, .int .i64 t] 23)
  by_cases h1 : 0 ≤ f
  · have k1 : decide (0 ≤ f) = true := decide_eq_true h1
    by_cases h2 : f ≤ t
    · have k2 : decide (f ≤ t) = true := decide_eq_true h2
      go_enter Tryd.func23, Tryd.ntmps23
      go_upto_region 1 with fail
      generalize w.alloc (Obj.cells #[.int .i64 f, .int .i64 t] 23) = w1 at *
      generalize w.heap.size = g at *
      have q0 : ∀ i, (gw w1 i).cell? ⟨g, 0, none⟩ = some (.int .i64 f) := fun i => (hb.gr (gw_gr w1 i)).cell 0
      have q1 : ∀ i, (gw w1 i).cell? ⟨g, 1, none⟩ = some (.int .i64 t) := fun i => (hb.gr (gw_gr w1 i)).cell 1
      have HG1 := Lib.hid hG1
      clear hb hG1
      refine wp_region_gw (by kernel_rfl) (by kernel_rfl) ?_
      repeat (first | go_big_quiet_step ((go_at_call 41; exact gw_call (refEnd01_gr _))) | quiet_step ((go_at_call 41; exact gw_call (refEnd01_gr _))))
      refine wpQuiet_nil ?_; intro wq hwq; obtain ⟨iq, rfl⟩ := hwq
      go_wp2_with fail
      go_ret
      exact ⟨by rw [HS.out, k1, k2]; rfl, Gr.tr HG1.out (gw_gr _ _)⟩
    · have k2 : decide (f ≤ t) = false := decide_eq_false h2
      go_enter Tryd.func23, Tryd.ntmps23
      go_upto_region 1 with fail
      generalize w.alloc (Obj.cells #[.int .i64 f, .int .i64 t] 23) = w1 at *
      generalize w.heap.size = g at *
      have q0 : ∀ i, (gw w1 i).cell? ⟨g, 0, none⟩ = some (.int .i64 f) := fun i => (hb.gr (gw_gr w1 i)).cell 0
      have q1 : ∀ i, (gw w1 i).cell? ⟨g, 1, none⟩ = some (.int .i64 t) := fun i => (hb.gr (gw_gr w1 i)).cell 1
      have HG1 := Lib.hid hG1
      clear hb hG1
      refine wp_region_gw (by kernel_rfl) (by kernel_rfl) ?_
      repeat (first | go_big_quiet_step ((go_at_call 41; exact gw_call (refEnd01_gr _))) | quiet_step ((go_at_call 41; exact gw_call (refEnd01_gr _))))
      refine wpQuiet_nil ?_; intro wq hwq; obtain ⟨iq, rfl⟩ := hwq
      go_wp2_with fail
      go_ret
      exact ⟨by rw [HS.out, k1, k2]; rfl, Gr.tr HG1.out (gw_gr _ _)⟩
  · have k1 : decide (0 ≤ f) = false := decide_eq_false h1
    go_enter Tryd.func23, Tryd.ntmps23
    go_upto_region 1 with fail
    generalize w.alloc (Obj.cells #[.int .i64 f, .int .i64 t] 23) = w1 at *
    generalize w.heap.size = g at *
    have q0 : ∀ i, (gw w1 i).cell? ⟨g, 0, none⟩ = some (.int .i64 f) := fun i => (hb.gr (gw_gr w1 i)).cell 0
    have q1 : ∀ i, (gw w1 i).cell? ⟨g, 1, none⟩ = some (.int .i64 t) := fun i => (hb.gr (gw_gr w1 i)).cell 1
    have HG1 := Lib.hid hG1
    clear hb hG1
    refine wp_region_gw (by kernel_rfl) (by kernel_rfl) ?_
    repeat (first | go_big_quiet_step ((go_at_call 41; exact gw_call (refEnd01_gr _))) | quiet_step ((go_at_call 41; exact gw_call (refEnd01_gr _))))
    refine wpQuiet_nil ?_; intro wq hwq; obtain ⟨iq, rfl⟩ := hwq
    go_wp2_with fail
    go_ret
    exact ⟨by rw [HS.out, k1]; rfl, Gr.tr HG1.out (gw_gr _ _)⟩
set_option maxHeartbeats 4000000 in
set_option maxRecDepth 100000 in
theorem content_any (f t n : Int) (w : World) (hp : Pw w) (hf : -9223372036854775808 ≤ f ∧ f ≤ 9223372036854775807) (ht : -9223372036854775808 ≤ t ∧ t ≤ 9223372036854775807) (hn : -9223372036854775808 ≤ n ∧ n ≤ 9223372036854775807) : Calls Tryd.prog 8 #[.agg #[.int .i64 f, .int .i64 t], .int .i64 n] w fun e w' => e = .returned (str (contentL f t n)) ∧ Gr w w' := by
  have hb := Bk.new w 23 #[.int .i64 f, .int .i64 t] (0, 0)
  have hG1 := Gr.al (Gr.refl w) (Obj.cells #[.int .i64 f, .int .i64 t] 23)
  have HP1 := Lib.hid (hp.gr hG1)
  clear hp
  have HS := Lib.hid (fun (w : World) => spanRight_any f t w)
  go_enter Tryd.func8, Tryd.ntmps8
  go_upto_region 1 with fail
  generalize w.alloc (Obj.cells #[.int .i64 f, .int .i64 t] 23) = w1 at *
  generalize w.heap.size = g at *
  have a0 : w1.cell? ⟨g, 0, none⟩ = some (.int .i64 f) := hb.cell 0
  have a1 : w1.cell? ⟨g, 1, none⟩ = some (.int .i64 t) := hb.cell 1
  have HB := Lib.hid hb
  clear hb
  cases c1 : spanB f t with
  | false =>
    rw [c1] at HS
    have HE := Lib.hid (cont_span (n := n) c1)
    go_wp2_with (go_at_call 21; refine (HS.out _).mono ?_; rintro e w2 ⟨rfl, hG2⟩; have b0 := hG2.cell a0; have b1 := hG2.cell a1)
    go_ret
    exact ⟨by rw [HE.out]; rfl, Gr.tr hG1 hG2⟩
  | true =>
    rw [c1] at HS
    have hsb := span_bounds c1
    by_cases g0 : f = t
    · have k0 : (f == t) = true := by simpa using g0
      have HE := Lib.hid (cont_same (f := f) (t := t) (n := n) g0)
      clear g0
      go_wp2_with (go_at_call 21; refine (HS.out _).mono ?_; rintro e w2 ⟨rfl, hG2⟩; have b0 := hG2.cell a0; have b1 := hG2.cell a1)
      go_ret
      exact ⟨by rw [HE.out]; rfl, Gr.tr hG1 hG2⟩
    · have k0 : (f == t) = false := by simpa using g0
      by_cases g1 : t = 4611686018427387904
      · have k1 : (t == 4611686018427387904) = true := by simpa using g1
        have HE := Lib.hid (cont_open (f := f) (t := t) (n := n) g1)
        clear g1
        go_wp2_with (go_at_call 21; refine (HS.out _).mono ?_; rintro e w2 ⟨rfl, hG2⟩; have b0 := hG2.cell a0; have b1 := hG2.cell a1)
        go_ret
        exact ⟨by rw [HE.out]; rfl, Gr.tr hG1 hG2⟩
      · have k1 : (t == 4611686018427387904) = false := by simpa using g1
        by_cases g2 : n < -1
        · have k2 : decide (n < -1) = true := decide_eq_true g2
          have HE := Lib.hid (cont_low (f := f) (t := t) (n := n) g2)
          clear g2
          go_wp2_with (go_at_call 21; refine (HS.out _).mono ?_; rintro e w2 ⟨rfl, hG2⟩; have b0 := hG2.cell a0; have b1 := hG2.cell a1)
          go_ret
          exact ⟨by rw [HE.out]; rfl, Gr.tr hG1 hG2⟩
        · have k2 : decide (n < -1) = false := decide_eq_false g2
          by_cases g3 : 4611686018427387903 < n
          · have k3 : decide (4611686018427387903 < n) = true := decide_eq_true g3
            have HE := Lib.hid (cont_high (f := f) (t := t) (n := n) g3)
            clear g3
            go_wp2_with (go_at_call 21; refine (HS.out _).mono ?_; rintro e w2 ⟨rfl, hG2⟩; have b0 := hG2.cell a0; have b1 := hG2.cell a1)
            go_ret
            exact ⟨by rw [HE.out]; rfl, Gr.tr hG1 hG2⟩
          · have k3 : decide (4611686018427387903 < n) = false := decide_eq_false g3
            by_cases g4 : n = -1
            · have k4 : (n == -1) = true := by simpa using g4
              have HE := Lib.hid (cont_any c1 g0 g1 g2 g3 (.inl g4))
              rw [if_pos g4] at HE
              clear g4
              have lf := itoa_len_int (x := f) hsb.1 (by omega)
              have lt := itoa_len_int (x := t - 1) (by omega) (by omega)
              go_upto_region 3 with (go_at_call 21; refine (HS.out _).mono ?_; rintro e w2 ⟨rfl, hG2⟩; have b0 := hG2.cell a0; have b1 := hG2.cell a1)
              have q0 : ∀ i, (gw w2 i).cell? ⟨g, 0, none⟩ = some (.int .i64 f) := fun i => (gw_gr w2 i).cell b0
              have q1 : ∀ i, (gw w2 i).cell? ⟨g, 1, none⟩ = some (.int .i64 t) := fun i => (gw_gr w2 i).cell b1
              have HG2 := Lib.hid (Gr.tr hG1 hG2)
              have HP2 := Lib.hid (HP1.out.gr hG2)
              clear hG2 hG1 a0 a1
              refine wp_region_gw (by kernel_rfl) (by kernel_rfl) ?_
              repeat (first | go_big_quiet_step ((go_at_call 22; exact gw_call (fmtInt_any _ _ (HP2.out.gr (gw_gr _ _)) (by omega) (by omega)))) | quiet_step ((go_at_call 22; exact gw_call (fmtInt_any _ _ (HP2.out.gr (gw_gr _ _)) (by omega) (by omega)))))
              refine wpQuiet_nil ?_; intro wq hwq; obtain ⟨iq, rfl⟩ := hwq
              have HG3 := Lib.hid (Gr.tr HG2.out (gw_gr w2 iq))
              have s1 := q1 iq
              have s0 := q0 iq
              have HP3 := Lib.hid (HP2.out.gr (gw_gr w2 iq))
              generalize gw w2 iq = w3 at *
              clear q0 q1
              go_wp2_with fail
              go_ret
              exact ⟨by rw [HE.out]; simp [headC], HG3.out⟩
            · have k4 : (n == -1) = false := by simpa using g4
              by_cases g5 : n < t
              · have k5 : decide (n < t) = true := decide_eq_true g5
                have HE := Lib.hid (cont_behind (f := f) (t := t) (n := n) g4 g5)
                clear g4
                have lf := itoa_len_int (x := f) hsb.1 (by omega)
                have lt := itoa_len_int (x := t - 1) (by omega) (by omega)
                go_upto_region 3 with (go_at_call 21; refine (HS.out _).mono ?_; rintro e w2 ⟨rfl, hG2⟩; have b0 := hG2.cell a0; have b1 := hG2.cell a1)
                have q0 : ∀ i, (gw w2 i).cell? ⟨g, 0, none⟩ = some (.int .i64 f) := fun i => (gw_gr w2 i).cell b0
                have q1 : ∀ i, (gw w2 i).cell? ⟨g, 1, none⟩ = some (.int .i64 t) := fun i => (gw_gr w2 i).cell b1
                have HG2 := Lib.hid (Gr.tr hG1 hG2)
                have HP2 := Lib.hid (HP1.out.gr hG2)
                clear hG2 hG1 a0 a1
                refine wp_region_gw (by kernel_rfl) (by kernel_rfl) ?_
                repeat (first | go_big_quiet_step ((go_at_call 22; exact gw_call (fmtInt_any _ _ (HP2.out.gr (gw_gr _ _)) (by omega) (by omega)))) | quiet_step ((go_at_call 22; exact gw_call (fmtInt_any _ _ (HP2.out.gr (gw_gr _ _)) (by omega) (by omega)))))
                refine wpQuiet_nil ?_; intro wq hwq; obtain ⟨iq, rfl⟩ := hwq
                have HG3 := Lib.hid (Gr.tr HG2.out (gw_gr w2 iq))
                have s1 := q1 iq
                have s0 := q0 iq
                have HP3 := Lib.hid (HP2.out.gr (gw_gr w2 iq))
                generalize gw w2 iq = w3 at *
                clear q0 q1
                go_wp2_with fail
                go_ret
                exact ⟨by rw [HE.out]; rfl, HG3.out⟩
              · have k5 : decide (n < t) = false := decide_eq_false g5
                have HE := Lib.hid (cont_any c1 g0 g1 g2 g3 (.inr (by omega)))
                rw [if_neg g4] at HE
                have hn1 : -1 < n := by omega
                have ln := itoa_len_int (x := n) (by omega) (by omega)
                clear g4
                have lf := itoa_len_int (x := f) hsb.1 (by omega)
                have lt := itoa_len_int (x := t - 1) (by omega) (by omega)
                go_upto_region 3 with (go_at_call 21; refine (HS.out _).mono ?_; rintro e w2 ⟨rfl, hG2⟩; have b0 := hG2.cell a0; have b1 := hG2.cell a1)
                have q0 : ∀ i, (gw w2 i).cell? ⟨g, 0, none⟩ = some (.int .i64 f) := fun i => (gw_gr w2 i).cell b0
                have q1 : ∀ i, (gw w2 i).cell? ⟨g, 1, none⟩ = some (.int .i64 t) := fun i => (gw_gr w2 i).cell b1
                have HG2 := Lib.hid (Gr.tr hG1 hG2)
                have HP2 := Lib.hid (HP1.out.gr hG2)
                clear hG2 hG1 a0 a1
                refine wp_region_gw (by kernel_rfl) (by kernel_rfl) ?_
                repeat (first | go_big_quiet_step ((go_at_call 22; exact gw_call (fmtInt_any _ _ (HP2.out.gr (gw_gr _ _)) (by omega) (by omega)))) | quiet_step ((go_at_call 22; exact gw_call (fmtInt_any _ _ (HP2.out.gr (gw_gr _ _)) (by omega) (by omega)))))
                refine wpQuiet_nil ?_; intro wq hwq; obtain ⟨iq, rfl⟩ := hwq
                have HG3 := Lib.hid (Gr.tr HG2.out (gw_gr w2 iq))
                have s1 := q1 iq
                have s0 := q0 iq
                have HP3 := Lib.hid (HP2.out.gr (gw_gr w2 iq))
                generalize gw w2 iq = w3 at *
                clear q0 q1
                go_wp2_with (go_at_call 22; refine (fmtInt_any _ _ HP3.out (by omega) (by omega)).mono ?_; rintro e w4 ⟨rfl, hG4⟩)
                go_ret
                exact ⟨by rw [HE.out]; simp [headC], Gr.tr HG3.out hG4⟩
set_option maxHeartbeats 4000000 in
set_option maxRecDepth 100000 in
theorem refContent_any (f t n : Int) (w : World) (hf : -9223372036854775808 ≤ f ∧ f ≤ 9223372036854775807) (ht : -9223372036854775808 ≤ t ∧ t ≤ 9223372036854775807) (hn : -9223372036854775808 ≤ n ∧ n ≤ 9223372036854775807) : Calls Tryd.prog 9 #[.agg #[.int .i64 f, .int .i64 t], .int .i64 n] w fun e w' => e = .returned (str (contentL f t n)) ∧ Gr w w' := by
  have hb := Bk.new w 23 #[.int .i64 f, .int .i64 t] (0, 0)
  have hG1 := Gr.al (Gr.refl w) (Obj.cells #[.int .i64 f, .int .i64 t] 23)
  have HS := Lib.hid (fun (w : World) => refSpanRight_any f t w)
  go_enter Tryd.func9, Tryd.ntmps9
  go_upto_region 1 with fail
  generalize w.alloc (Obj.cells #[.int .i64 f, .int .i64 t] 23) = w1 at *
  generalize w.heap.size = g at *
  have a0 : w1.cell? ⟨g, 0, none⟩ = some (.int .i64 f) := hb.cell 0
  have a1 : w1.cell? ⟨g, 1, none⟩ = some (.int .i64 t) := hb.cell 1
  have HB := Lib.hid hb
  clear hb
  cases c1 : spanB f t with
  | false =>
    rw [c1] at HS
    have HE := Lib.hid (cont_span (n := n) c1)
    go_wp2_with (go_at_call 23; refine (HS.out _).mono ?_; rintro e w2 ⟨rfl, hG2⟩; have b0 := hG2.cell a0; have b1 := hG2.cell a1)
    go_ret
    exact ⟨by rw [HE.out]; rfl, Gr.tr hG1 hG2⟩
  | true =>
    rw [c1] at HS
    have hsb := span_bounds c1
    by_cases g0 : f = t
    · have k0 : decide (t ≤ f) = true := decide_eq_true (by omega)
      have HE := Lib.hid (cont_same (f := f) (t := t) (n := n) g0)
      clear g0
      go_wp2_with (go_at_call 23; refine (HS.out _).mono ?_; rintro e w2 ⟨rfl, hG2⟩; have b0 := hG2.cell a0; have b1 := hG2.cell a1)
      go_ret
      exact ⟨by rw [HE.out]; rfl, Gr.tr hG1 hG2⟩
    · have k0 : decide (t ≤ f) = false := decide_eq_false (by omega)
      by_cases g1 : t = 4611686018427387904
      · have k1 : decide (4611686018427387904 ≤ t) = true := decide_eq_true (by omega)
        have HE := Lib.hid (cont_open (f := f) (t := t) (n := n) g1)
        clear g1
        go_wp2_with (go_at_call 23; refine (HS.out _).mono ?_; rintro e w2 ⟨rfl, hG2⟩; have b0 := hG2.cell a0; have b1 := hG2.cell a1)
        go_ret
        exact ⟨by rw [HE.out]; rfl, Gr.tr hG1 hG2⟩
      · have k1 : decide (4611686018427387904 ≤ t) = false := decide_eq_false (by omega)
        by_cases g2 : n < -1
        · have k2 : decide (n < -1) = true := decide_eq_true g2
          have HE := Lib.hid (cont_low (f := f) (t := t) (n := n) g2)
          clear g2
          go_wp2_with (go_at_call 23; refine (HS.out _).mono ?_; rintro e w2 ⟨rfl, hG2⟩; have b0 := hG2.cell a0; have b1 := hG2.cell a1)
          go_ret
          exact ⟨by rw [HE.out]; rfl, Gr.tr hG1 hG2⟩
        · have k2 : decide (n < -1) = false := decide_eq_false g2
          by_cases g3 : 4611686018427387903 < n
          · have k3 : decide (4611686018427387904 ≤ n) = true := decide_eq_true (by omega)
            have HE := Lib.hid (cont_high (f := f) (t := t) (n := n) g3)
            clear g3
            go_wp2_with (go_at_call 23; refine (HS.out _).mono ?_; rintro e w2 ⟨rfl, hG2⟩; have b0 := hG2.cell a0; have b1 := hG2.cell a1)
            go_ret
            exact ⟨by rw [HE.out]; rfl, Gr.tr hG1 hG2⟩
          · have k3 : decide (4611686018427387904 ≤ n) = false := decide_eq_false (by omega)
            by_cases g4 : 0 ≤ n
            · have k4 : decide (0 ≤ n) = true := decide_eq_true g4
              have k6 : decide (n < 0) = false := decide_eq_false (by omega)
              by_cases g5 : n < t
              · have k5 : decide (n < t) = true := decide_eq_true g5
                have HE := Lib.hid (cont_behind (f := f) (t := t) (n := n) (by omega) g5)
                clear g5
                go_wp2_with (go_at_call 23; refine (HS.out _).mono ?_; rintro e w2 ⟨rfl, hG2⟩; have b0 := hG2.cell a0; have b1 := hG2.cell a1)
                go_ret
                exact ⟨by rw [HE.out]; rfl, Gr.tr hG1 hG2⟩
              · have k5 : decide (n < t) = false := decide_eq_false g5
                have HE := Lib.hid (cont_any c1 g0 g1 g2 g3 (.inr (by omega)))
                rw [if_neg (by omega)] at HE
                have ln := itoa_len_int (x := n) (by omega) (by omega)
                have lf := itoa_len_int (x := f) hsb.1 (by omega)
                have lt := itoa_len_int (x := t - 1) (by omega) (by omega)
                go_upto_region 3 with (go_at_call 23; refine (HS.out _).mono ?_; rintro e w2 ⟨rfl, hG2⟩; have b0 := hG2.cell a0; have b1 := hG2.cell a1)
                have q0 : ∀ i, (gw w2 i).cell? ⟨g, 0, none⟩ = some (.int .i64 f) := fun i => (gw_gr w2 i).cell b0
                have q1 : ∀ i, (gw w2 i).cell? ⟨g, 1, none⟩ = some (.int .i64 t) := fun i => (gw_gr w2 i).cell b1
                have HG2 := Lib.hid (Gr.tr hG1 hG2)
                clear hG2 hG1 a0 a1
                refine wp_region_gw (by kernel_rfl) (by kernel_rfl) ?_
                repeat (first | go_big_quiet_step ((go_at_call 24; exact gw_call (refDigits11_int _ _ (by omega) (by omega)))) | quiet_step ((go_at_call 24; exact gw_call (refDigits11_int _ _ (by omega) (by omega)))))
                refine wpQuiet_nil ?_; intro wq hwq; obtain ⟨iq, rfl⟩ := hwq
                have HG3 := Lib.hid (Gr.tr HG2.out (gw_gr w2 iq))
                have s1 := q1 iq
                have s0 := q0 iq
                generalize gw w2 iq = w3 at *
                clear q0 q1
                go_wp2_with (go_at_call 24; refine (refDigits11_int _ _ (by omega) (by omega)).mono ?_; rintro e w4 ⟨rfl, hG4⟩)
                go_ret
                exact ⟨by rw [HE.out]; simp [headC], Gr.tr HG3.out hG4⟩
            · have k4 : decide (0 ≤ n) = false := decide_eq_false g4
              have k6 : decide (n < 0) = true := decide_eq_true (by omega)
              obtain rfl : n = -1 := by omega
              have HE := Lib.hid (cont_any c1 g0 g1 g2 g3 (.inl rfl))
              rw [if_pos rfl] at HE
              have lf := itoa_len_int (x := f) hsb.1 (by omega)
              have lt := itoa_len_int (x := t - 1) (by omega) (by omega)
              go_upto_region 3 with (go_at_call 23; refine (HS.out _).mono ?_; rintro e w2 ⟨rfl, hG2⟩; have b0 := hG2.cell a0; have b1 := hG2.cell a1)
              have q0 : ∀ i, (gw w2 i).cell? ⟨g, 0, none⟩ = some (.int .i64 f) := fun i => (gw_gr w2 i).cell b0
              have q1 : ∀ i, (gw w2 i).cell? ⟨g, 1, none⟩ = some (.int .i64 t) := fun i => (gw_gr w2 i).cell b1
              have HG2 := Lib.hid (Gr.tr hG1 hG2)
              clear hG2 hG1 a0 a1
              refine wp_region_gw (by kernel_rfl) (by kernel_rfl) ?_
              repeat (first | go_big_quiet_step ((go_at_call 24; exact gw_call (refDigits11_int _ _ (by omega) (by omega)))) | quiet_step ((go_at_call 24; exact gw_call (refDigits11_int _ _ (by omega) (by omega)))))
              refine wpQuiet_nil ?_; intro wq hwq; obtain ⟨iq, rfl⟩ := hwq
              have HG3 := Lib.hid (Gr.tr HG2.out (gw_gr w2 iq))
              have s1 := q1 iq
              have s0 := q0 iq
              generalize gw w2 iq = w3 at *
              clear q0 q1
              go_wp2_with fail
              go_ret
              exact ⟨by rw [HE.out]; simp [headC], HG3.out⟩
end Go.Proofs.YtnmfmcmokdoieaaDoor
