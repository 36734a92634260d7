/- Layer 39: how a node may work, as the document says it. No conditions. -/
import Derived.Test.YtghopokdfjcjlaaDoorConf8
namespace Go.Proofs.YtghopokdfjcjlaaDoor
open Go.RowKit
def loAt (c : Cfg) : List Int := [4, 0, c.u, 1, 0, 0, 0, c.u, c.u, 1]
def hiAt (c : Cfg) : List Int := [1048576, 1099511627776, 1099511627776, 64, 100, 100, 1099511627776, 1125899906842624, c.bu, 1099511627776]
def okAt (c : Cfg) (j : Nat) : Bool := inB (c.nums.getD j 0) ((loAt c).getD j 0) ((hiAt c).getD j 0)
theorem right_yes {c : Cfg} (h : ∀ j, j < 10 → okAt c j = true) : c.right = powB c.u := by
  have h0 := h 0 (by omega); have h1 := h 1 (by omega); have h2 := h 2 (by omega); have h3 := h 3 (by omega); have h4 := h 4 (by omega)
  have h5 := h 5 (by omega); have h6 := h 6 (by omega); have h7 := h 7 (by omega); have h8 := h 8 (by omega); have h9 := h 9 (by omega)
  simp only [okAt, Cfg.nums, loAt, hiAt, List.getD_cons_zero, List.getD_cons_succ] at h0 h1 h2 h3 h4 h5 h6 h7 h8 h9
  unfold Cfg.right
  rw [h0, h1, h2, h3, h4, h5, h6, h7, h8, h9]; simp
theorem right_all {c : Cfg} (h : c.right = true) : ∀ j, j < 10 → okAt c j = true := by
  unfold Cfg.right at h
  simp only [Bool.and_eq_true] at h
  obtain ⟨⟨⟨⟨⟨⟨⟨⟨⟨⟨h0, hp⟩, h1⟩, h2⟩, h3⟩, h4⟩, h5⟩, h6⟩, h7⟩, h8⟩, h9⟩ := h
  intro j hj
  obtain rfl | rfl | rfl | rfl | rfl | rfl | rfl | rfl | rfl | rfl : j = 0 ∨ j = 1 ∨ j = 2 ∨ j = 3 ∨ j = 4 ∨ j = 5 ∨ j = 6 ∨ j = 7 ∨ j = 8 ∨ j = 9 := by omega
  all_goals (first | exact h0 | exact h1 | exact h2 | exact h3 | exact h4 | exact h5 | exact h6 | exact h7 | exact h8 | exact h9)
theorem right_no {c : Cfg} {j : Nat} (hj : j < 10) (h : okAt c j = false) : c.right = false := by
  cases hr : c.right with
  | false => rfl
  | true => rw [right_all hr j hj] at h; cases h
theorem inB_lo {n a b : Int} (h : n < a) : inB n a b = false := by unfold inB; rw [decide_eq_false (by omega)]; rfl
theorem inB_hi {n a b : Int} (h : b < n) : inB n a b = false := by unfold inB; rw [decide_eq_false (show ¬ n ≤ b by omega), Bool.and_false]
theorem inB_in {n a b : Int} (h1 : ¬ n < a) (h2 : ¬ b < n) : inB n a b = true := by unfold inB; rw [decide_eq_true (by omega), decide_eq_true (by omega)]; rfl
set_option maxHeartbeats 8000000 in
set_option maxRecDepth 100000 in
theorem refRight39_any (c : Cfg) (w : World) : Calls Tryd.prog 10 #[cfgV c] w fun e w' => e = .returned (.bool c.right) ∧ Gr w w' := by
  have HY := Lib.hid (right_yes (c := c))
  have HNo := Lib.hid (fun (j : Nat) (hj : j < 10) (h : okAt c j = false) => right_no hj h)
  unfold cfgV
  go_enter Tryd.func10, Tryd.ntmps10
  go_wp2_with (go_at_call 22; refine (refNumbers39_any c _).mono ?_; rintro e wN ⟨g3, rfl, hG, hg3, hb3⟩)
  have hGw : Gr w wN := Gr.tr (Gr.al (Gr.al (Gr.al (Gr.refl w) _) _) _) hG
  have hbx : Bk wN w.heap.size 23 #[.int .i64 c.u, .int .i64 c.wa, .int .i64 c.mo, .int .i64 c.sp, .int .i64 c.re, .int .i64 c.rt, .int .i64 c.li, .int .i64 c.bu, .int .i64 c.sh, .int .i64 c.ch] (0, 0) := (((Bk.new w _ _ _).al _).al _).gr hG
  have hlo : Bk wN (w.heap.size + 1) 2 #[.int .i64 4, .int .i64 0, .int .i64 c.u, .int .i64 1, .int .i64 0, .int .i64 0, .int .i64 0, .int .i64 c.u, .int .i64 c.u, .int .i64 1] (0, 0) := by
    have := ((Bk.new (w.alloc (Obj.cells #[.int .i64 c.u, .int .i64 c.wa, .int .i64 c.mo, .int .i64 c.sp, .int .i64 c.re, .int .i64 c.rt, .int .i64 c.li, .int .i64 c.bu, .int .i64 c.sh, .int .i64 c.ch] 23)) 2 #[.int .i64 4, .int .i64 0, .int .i64 c.u, .int .i64 1, .int .i64 0, .int .i64 0, .int .i64 0, .int .i64 c.u, .int .i64 c.u, .int .i64 1] (0, 0)).al (Obj.cells #[.int .i64 1048576, .int .i64 1099511627776, .int .i64 1099511627776, .int .i64 64, .int .i64 100, .int .i64 100, .int .i64 1099511627776, .int .i64 1125899906842624, .int .i64 c.bu, .int .i64 1099511627776] 2)).gr hG
    simpa only [World.size_alloc] using this
  have hhi : Bk wN (w.heap.size + 2) 2 #[.int .i64 1048576, .int .i64 1099511627776, .int .i64 1099511627776, .int .i64 64, .int .i64 100, .int .i64 100, .int .i64 1099511627776, .int .i64 1125899906842624, .int .i64 c.bu, .int .i64 1099511627776] (0, 0) := by
    have := (Bk.new ((w.alloc (Obj.cells #[.int .i64 c.u, .int .i64 c.wa, .int .i64 c.mo, .int .i64 c.sp, .int .i64 c.re, .int .i64 c.rt, .int .i64 c.li, .int .i64 c.bu, .int .i64 c.sh, .int .i64 c.ch] 23)).alloc (Obj.cells #[.int .i64 4, .int .i64 0, .int .i64 c.u, .int .i64 1, .int .i64 0, .int .i64 0, .int .i64 0, .int .i64 c.u, .int .i64 c.u, .int .i64 1] 2)) 2 #[.int .i64 1048576, .int .i64 1099511627776, .int .i64 1099511627776, .int .i64 64, .int .i64 100, .int .i64 100, .int .i64 1099511627776, .int .i64 1125899906842624, .int .i64 c.bu, .int .i64 1099511627776] (0, 0)).gr hG
    simpa only [World.size_alloc] using this
  have HGw := Lib.hid hGw
  clear hG hGw hg3
  have n0 : wN.cell? ⟨g3, 0, none⟩ = some (.int .i64 c.u) := hb3.cell 0
  have l0 : wN.cell? ⟨w.heap.size + 1, 0, none⟩ = some (.int .i64 4) := hlo.cell 0
  have m0 : wN.cell? ⟨w.heap.size + 2, 0, none⟩ = some (.int .i64 1048576) := hhi.cell 0
  have n1 : wN.cell? ⟨g3, 1, none⟩ = some (.int .i64 c.wa) := hb3.cell 1
  have l1 : wN.cell? ⟨w.heap.size + 1, 1, none⟩ = some (.int .i64 0) := hlo.cell 1
  have m1 : wN.cell? ⟨w.heap.size + 2, 1, none⟩ = some (.int .i64 1099511627776) := hhi.cell 1
  have n2 : wN.cell? ⟨g3, 2, none⟩ = some (.int .i64 c.mo) := hb3.cell 2
  have l2 : wN.cell? ⟨w.heap.size + 1, 2, none⟩ = some (.int .i64 c.u) := hlo.cell 2
  have m2 : wN.cell? ⟨w.heap.size + 2, 2, none⟩ = some (.int .i64 1099511627776) := hhi.cell 2
  have n3 : wN.cell? ⟨g3, 3, none⟩ = some (.int .i64 c.sp) := hb3.cell 3
  have l3 : wN.cell? ⟨w.heap.size + 1, 3, none⟩ = some (.int .i64 1) := hlo.cell 3
  have m3 : wN.cell? ⟨w.heap.size + 2, 3, none⟩ = some (.int .i64 64) := hhi.cell 3
  have n4 : wN.cell? ⟨g3, 4, none⟩ = some (.int .i64 c.re) := hb3.cell 4
  have l4 : wN.cell? ⟨w.heap.size + 1, 4, none⟩ = some (.int .i64 0) := hlo.cell 4
  have m4 : wN.cell? ⟨w.heap.size + 2, 4, none⟩ = some (.int .i64 100) := hhi.cell 4
  have n5 : wN.cell? ⟨g3, 5, none⟩ = some (.int .i64 c.rt) := hb3.cell 5
  have l5 : wN.cell? ⟨w.heap.size + 1, 5, none⟩ = some (.int .i64 0) := hlo.cell 5
  have m5 : wN.cell? ⟨w.heap.size + 2, 5, none⟩ = some (.int .i64 100) := hhi.cell 5
  have n6 : wN.cell? ⟨g3, 6, none⟩ = some (.int .i64 c.li) := hb3.cell 6
  have l6 : wN.cell? ⟨w.heap.size + 1, 6, none⟩ = some (.int .i64 0) := hlo.cell 6
  have m6 : wN.cell? ⟨w.heap.size + 2, 6, none⟩ = some (.int .i64 1099511627776) := hhi.cell 6
  have n7 : wN.cell? ⟨g3, 7, none⟩ = some (.int .i64 c.bu) := hb3.cell 7
  have l7 : wN.cell? ⟨w.heap.size + 1, 7, none⟩ = some (.int .i64 c.u) := hlo.cell 7
  have m7 : wN.cell? ⟨w.heap.size + 2, 7, none⟩ = some (.int .i64 1125899906842624) := hhi.cell 7
  have n8 : wN.cell? ⟨g3, 8, none⟩ = some (.int .i64 c.sh) := hb3.cell 8
  have l8 : wN.cell? ⟨w.heap.size + 1, 8, none⟩ = some (.int .i64 c.u) := hlo.cell 8
  have m8 : wN.cell? ⟨w.heap.size + 2, 8, none⟩ = some (.int .i64 c.bu) := hhi.cell 8
  have n9 : wN.cell? ⟨g3, 9, none⟩ = some (.int .i64 c.ch) := hb3.cell 9
  have l9 : wN.cell? ⟨w.heap.size + 1, 9, none⟩ = some (.int .i64 1) := hlo.cell 9
  have m9 : wN.cell? ⟨w.heap.size + 2, 9, none⟩ = some (.int .i64 1099511627776) := hhi.cell 9
  have b0 : wN.cell? ⟨w.heap.size, 0, none⟩ = some (.int .i64 c.u) := hbx.cell 0
  clear hb3 hlo hhi hbx
  go_loop [27] (fun i => ∃ k : Nat, k ≤ 10 ∧ i = .int .i64 k ∧ ∀ j, j < k → okAt c j = true) (fun i => 10 - (intOf i).toNat)
  case atStart => exact ⟨0, by omega, rfl, fun j hj => by omega⟩
  case round =>
    obtain ⟨k, hk, rfl, hok⟩ := hrel
    have HOK := Lib.hid hok
    clear hok
    by_cases hlt : k < 10
    · obtain rfl | rfl | rfl | rfl | rfl | rfl | rfl | rfl | rfl | rfl : k = 0 ∨ k = 1 ∨ k = 2 ∨ k = 3 ∨ k = 4 ∨ k = 5 ∨ k = 6 ∨ k = 7 ∨ k = 8 ∨ k = 9 := by omega
      · by_cases c1 : c.u < 4
        · have k1 : decide (c.u < 4) = true := decide_eq_true c1
          have HR := Lib.hid (HNo.out 0 (by omega) (inB_lo c1))
          clear c1
          go_wp2_with fail
          go_ret
          exact ⟨by rw [HR.out]; rfl, HGw.out⟩
        · have k1 : decide (c.u < 4) = false := decide_eq_false c1
          by_cases c2 : 1048576 < c.u
          · have k2 : decide (1048576 < c.u) = true := decide_eq_true c2
            have HR := Lib.hid (HNo.out 0 (by omega) (inB_hi c2))
            clear c1 c2
            go_wp2_with fail
            go_ret
            exact ⟨by rw [HR.out]; rfl, HGw.out⟩
          · have k2 : decide (1048576 < c.u) = false := decide_eq_false c2
            have HR := Lib.hid (show okAt c 0 = true from inB_in c1 c2)
            clear c1 c2
            go_wp2_with fail
            exact ⟨⟨1, by omega, rfl, fun j hj => by
              rcases Nat.lt_or_ge j 0 with h | h
              · exact HOK.out j h
              · obtain rfl : j = 0 := by omega
                exact HR.out⟩, by simp [intOf]⟩
      · by_cases c1 : c.wa < 0
        · have k1 : decide (c.wa < 0) = true := decide_eq_true c1
          have HR := Lib.hid (HNo.out 1 (by omega) (inB_lo c1))
          clear c1
          go_wp2_with fail
          go_ret
          exact ⟨by rw [HR.out]; rfl, HGw.out⟩
        · have k1 : decide (c.wa < 0) = false := decide_eq_false c1
          by_cases c2 : 1099511627776 < c.wa
          · have k2 : decide (1099511627776 < c.wa) = true := decide_eq_true c2
            have HR := Lib.hid (HNo.out 1 (by omega) (inB_hi c2))
            clear c1 c2
            go_wp2_with fail
            go_ret
            exact ⟨by rw [HR.out]; rfl, HGw.out⟩
          · have k2 : decide (1099511627776 < c.wa) = false := decide_eq_false c2
            have HR := Lib.hid (show okAt c 1 = true from inB_in c1 c2)
            clear c1 c2
            go_wp2_with fail
            exact ⟨⟨2, by omega, rfl, fun j hj => by
              rcases Nat.lt_or_ge j 1 with h | h
              · exact HOK.out j h
              · obtain rfl : j = 1 := by omega
                exact HR.out⟩, by simp [intOf]⟩
      · by_cases c1 : c.mo < c.u
        · have k1 : decide (c.mo < c.u) = true := decide_eq_true c1
          have HR := Lib.hid (HNo.out 2 (by omega) (inB_lo c1))
          clear c1
          go_wp2_with fail
          go_ret
          exact ⟨by rw [HR.out]; rfl, HGw.out⟩
        · have k1 : decide (c.mo < c.u) = false := decide_eq_false c1
          by_cases c2 : 1099511627776 < c.mo
          · have k2 : decide (1099511627776 < c.mo) = true := decide_eq_true c2
            have HR := Lib.hid (HNo.out 2 (by omega) (inB_hi c2))
            clear c1 c2
            go_wp2_with fail
            go_ret
            exact ⟨by rw [HR.out]; rfl, HGw.out⟩
          · have k2 : decide (1099511627776 < c.mo) = false := decide_eq_false c2
            have HR := Lib.hid (show okAt c 2 = true from inB_in c1 c2)
            clear c1 c2
            go_wp2_with fail
            exact ⟨⟨3, by omega, rfl, fun j hj => by
              rcases Nat.lt_or_ge j 2 with h | h
              · exact HOK.out j h
              · obtain rfl : j = 2 := by omega
                exact HR.out⟩, by simp [intOf]⟩
      · by_cases c1 : c.sp < 1
        · have k1 : decide (c.sp < 1) = true := decide_eq_true c1
          have HR := Lib.hid (HNo.out 3 (by omega) (inB_lo c1))
          clear c1
          go_wp2_with fail
          go_ret
          exact ⟨by rw [HR.out]; rfl, HGw.out⟩
        · have k1 : decide (c.sp < 1) = false := decide_eq_false c1
          by_cases c2 : 64 < c.sp
          · have k2 : decide (64 < c.sp) = true := decide_eq_true c2
            have HR := Lib.hid (HNo.out 3 (by omega) (inB_hi c2))
            clear c1 c2
            go_wp2_with fail
            go_ret
            exact ⟨by rw [HR.out]; rfl, HGw.out⟩
          · have k2 : decide (64 < c.sp) = false := decide_eq_false c2
            have HR := Lib.hid (show okAt c 3 = true from inB_in c1 c2)
            clear c1 c2
            go_wp2_with fail
            exact ⟨⟨4, by omega, rfl, fun j hj => by
              rcases Nat.lt_or_ge j 3 with h | h
              · exact HOK.out j h
              · obtain rfl : j = 3 := by omega
                exact HR.out⟩, by simp [intOf]⟩
      · by_cases c1 : c.re < 0
        · have k1 : decide (c.re < 0) = true := decide_eq_true c1
          have HR := Lib.hid (HNo.out 4 (by omega) (inB_lo c1))
          clear c1
          go_wp2_with fail
          go_ret
          exact ⟨by rw [HR.out]; rfl, HGw.out⟩
        · have k1 : decide (c.re < 0) = false := decide_eq_false c1
          by_cases c2 : 100 < c.re
          · have k2 : decide (100 < c.re) = true := decide_eq_true c2
            have HR := Lib.hid (HNo.out 4 (by omega) (inB_hi c2))
            clear c1 c2
            go_wp2_with fail
            go_ret
            exact ⟨by rw [HR.out]; rfl, HGw.out⟩
          · have k2 : decide (100 < c.re) = false := decide_eq_false c2
            have HR := Lib.hid (show okAt c 4 = true from inB_in c1 c2)
            clear c1 c2
            go_wp2_with fail
            exact ⟨⟨5, by omega, rfl, fun j hj => by
              rcases Nat.lt_or_ge j 4 with h | h
              · exact HOK.out j h
              · obtain rfl : j = 4 := by omega
                exact HR.out⟩, by simp [intOf]⟩
      · by_cases c1 : c.rt < 0
        · have k1 : decide (c.rt < 0) = true := decide_eq_true c1
          have HR := Lib.hid (HNo.out 5 (by omega) (inB_lo c1))
          clear c1
          go_wp2_with fail
          go_ret
          exact ⟨by rw [HR.out]; rfl, HGw.out⟩
        · have k1 : decide (c.rt < 0) = false := decide_eq_false c1
          by_cases c2 : 100 < c.rt
          · have k2 : decide (100 < c.rt) = true := decide_eq_true c2
            have HR := Lib.hid (HNo.out 5 (by omega) (inB_hi c2))
            clear c1 c2
            go_wp2_with fail
            go_ret
            exact ⟨by rw [HR.out]; rfl, HGw.out⟩
          · have k2 : decide (100 < c.rt) = false := decide_eq_false c2
            have HR := Lib.hid (show okAt c 5 = true from inB_in c1 c2)
            clear c1 c2
            go_wp2_with fail
            exact ⟨⟨6, by omega, rfl, fun j hj => by
              rcases Nat.lt_or_ge j 5 with h | h
              · exact HOK.out j h
              · obtain rfl : j = 5 := by omega
                exact HR.out⟩, by simp [intOf]⟩
      · by_cases c1 : c.li < 0
        · have k1 : decide (c.li < 0) = true := decide_eq_true c1
          have HR := Lib.hid (HNo.out 6 (by omega) (inB_lo c1))
          clear c1
          go_wp2_with fail
          go_ret
          exact ⟨by rw [HR.out]; rfl, HGw.out⟩
        · have k1 : decide (c.li < 0) = false := decide_eq_false c1
          by_cases c2 : 1099511627776 < c.li
          · have k2 : decide (1099511627776 < c.li) = true := decide_eq_true c2
            have HR := Lib.hid (HNo.out 6 (by omega) (inB_hi c2))
            clear c1 c2
            go_wp2_with fail
            go_ret
            exact ⟨by rw [HR.out]; rfl, HGw.out⟩
          · have k2 : decide (1099511627776 < c.li) = false := decide_eq_false c2
            have HR := Lib.hid (show okAt c 6 = true from inB_in c1 c2)
            clear c1 c2
            go_wp2_with fail
            exact ⟨⟨7, by omega, rfl, fun j hj => by
              rcases Nat.lt_or_ge j 6 with h | h
              · exact HOK.out j h
              · obtain rfl : j = 6 := by omega
                exact HR.out⟩, by simp [intOf]⟩
      · by_cases c1 : c.bu < c.u
        · have k1 : decide (c.bu < c.u) = true := decide_eq_true c1
          have HR := Lib.hid (HNo.out 7 (by omega) (inB_lo c1))
          clear c1
          go_wp2_with fail
          go_ret
          exact ⟨by rw [HR.out]; rfl, HGw.out⟩
        · have k1 : decide (c.bu < c.u) = false := decide_eq_false c1
          by_cases c2 : 1125899906842624 < c.bu
          · have k2 : decide (1125899906842624 < c.bu) = true := decide_eq_true c2
            have HR := Lib.hid (HNo.out 7 (by omega) (inB_hi c2))
            clear c1 c2
            go_wp2_with fail
            go_ret
            exact ⟨by rw [HR.out]; rfl, HGw.out⟩
          · have k2 : decide (1125899906842624 < c.bu) = false := decide_eq_false c2
            have HR := Lib.hid (show okAt c 7 = true from inB_in c1 c2)
            clear c1 c2
            go_wp2_with fail
            exact ⟨⟨8, by omega, rfl, fun j hj => by
              rcases Nat.lt_or_ge j 7 with h | h
              · exact HOK.out j h
              · obtain rfl : j = 7 := by omega
                exact HR.out⟩, by simp [intOf]⟩
      · by_cases c1 : c.sh < c.u
        · have k1 : decide (c.sh < c.u) = true := decide_eq_true c1
          have HR := Lib.hid (HNo.out 8 (by omega) (inB_lo c1))
          clear c1
          go_wp2_with fail
          go_ret
          exact ⟨by rw [HR.out]; rfl, HGw.out⟩
        · have k1 : decide (c.sh < c.u) = false := decide_eq_false c1
          by_cases c2 : c.bu < c.sh
          · have k2 : decide (c.bu < c.sh) = true := decide_eq_true c2
            have HR := Lib.hid (HNo.out 8 (by omega) (inB_hi c2))
            clear c1 c2
            go_wp2_with fail
            go_ret
            exact ⟨by rw [HR.out]; rfl, HGw.out⟩
          · have k2 : decide (c.bu < c.sh) = false := decide_eq_false c2
            have HR := Lib.hid (show okAt c 8 = true from inB_in c1 c2)
            clear c1 c2
            go_wp2_with fail
            exact ⟨⟨9, by omega, rfl, fun j hj => by
              rcases Nat.lt_or_ge j 8 with h | h
              · exact HOK.out j h
              · obtain rfl : j = 8 := by omega
                exact HR.out⟩, by simp [intOf]⟩
      · by_cases c1 : c.ch < 1
        · have k1 : decide (c.ch < 1) = true := decide_eq_true c1
          have HR := Lib.hid (HNo.out 9 (by omega) (inB_lo c1))
          clear c1
          go_wp2_with fail
          go_ret
          exact ⟨by rw [HR.out]; rfl, HGw.out⟩
        · have k1 : decide (c.ch < 1) = false := decide_eq_false c1
          by_cases c2 : 1099511627776 < c.ch
          · have k2 : decide (1099511627776 < c.ch) = true := decide_eq_true c2
            have HR := Lib.hid (HNo.out 9 (by omega) (inB_hi c2))
            clear c1 c2
            go_wp2_with fail
            go_ret
            exact ⟨by rw [HR.out]; rfl, HGw.out⟩
          · have k2 : decide (1099511627776 < c.ch) = false := decide_eq_false c2
            have HR := Lib.hid (show okAt c 9 = true from inB_in c1 c2)
            clear c1 c2
            go_wp2_with fail
            exact ⟨⟨10, by omega, rfl, fun j hj => by
              rcases Nat.lt_or_ge j 9 with h | h
              · exact HOK.out j h
              · obtain rfl : j = 9 := by omega
                exact HR.out⟩, by simp [intOf]⟩
    · obtain rfl : k = 10 := by omega
      have HR := Lib.hid (HY.out HOK.out)
      go_wp2_with (go_at_call 23; refine (refPower39_any _ _).mono ?_; rintro e w5 ⟨rfl, rfl⟩)
      go_ret
      exact ⟨by rw [HR.out]; rfl, HGw.out⟩
end Go.Proofs.YtghopokdfjcjlaaDoor
