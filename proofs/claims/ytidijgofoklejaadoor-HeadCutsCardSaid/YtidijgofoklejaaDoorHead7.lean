/- Objects' names, reasons; whether heads are one: contracts. -/
import Derived.Test.YtidijgofoklejaaDoorHead4
namespace Go.Proofs.YtidijgofoklejaaDoor
open Go.RowKit
set_option maxHeartbeats 1000000 in
theorem object_any (l : List UInt8) (w : World) (_hl : l.length ≤ 9223372036854775000) : Calls Tryd.prog 14 #[str l] w fun e w' => e = .returned (.bool (objB l)) ∧ Gr w w' := by
  by_cases h0 : l.length < 1
  · have hn : l = [] := List.eq_nil_of_length_eq_zero (by omega)
    subst hn
    go_enter Tryd.func14, Tryd.ntmps14
    go_wp2_with fail
    go_ret
    exact ⟨rfl, Gr.refl _⟩
  · have h0' : 0 < l.length := by omega
    have d0 : decide ((l.length : Int) < 1) = false := decide_eq_false (by omega)
    clear h0
    by_cases h2 : 200 < l.length
    · have HO := Lib.hid (objB_long h2)
      have d2 : decide (200 < (l.length : Int)) = true := decide_eq_true (by omega)
      go_enter Tryd.func14, Tryd.ntmps14
      go_wp2_with fail
      go_ret
      exact ⟨ret_bool HO.out.symm, Gr.refl _⟩
    · have d2 : decide (200 < (l.length : Int)) = false := decide_eq_false (by omega)
      by_cases h47 : (l[0].toNat : Int) = 47
      · have HO := Lib.hid (objB_rest h0' (by omega) h47)
        have hne : ((l[0].toNat : Int) != 47) = false := by simp [h47]
        clear h47
        go_enter Tryd.func14, Tryd.ntmps14
        go_wp2_with fail
        clear hne
        go_loop [19] (fun i => ∃ k : Nat, k ≤ l.length ∧ i = .int .i64 k ∧ (l.take k).all objC = true) (fun i => l.length - (intOf i).toNat)
        case atStart => exact ⟨0, Nat.zero_le _, rfl, rfl⟩
        case round =>
          obtain ⟨k, hk, rfl, hE⟩ := hrel
          have HE := Lib.hid hE; clear hE
          by_cases hlt : k < l.length
          · have hx : (l[k].toNat : Int) ≤ 255 := by have := l[k].toNat_lt; omega
            by_cases h33 : 33 ≤ (l[k].toNat : Int)
            · by_cases h126 : (l[k].toNat : Int) ≤ 126
              · have hc := Lib.hid (objC_yes l[k] ⟨h33, h126⟩)
                have ddlt33 : decide (((l[k].toNat : Nat) : Int) < 33) = false := decide_eq_false (by omega)
                have ddgt126 : decide (126 < ((l[k].toNat : Nat) : Int)) = false := decide_eq_false (by omega)
                go_wp2_with fail
                exact ⟨⟨k + 1, by omega, by go_num, all_take_succ _ l k hlt HE.out hc.out⟩, by simp [intOf]; omega⟩
              · have hc := Lib.hid (objC_no l[k] (fun h => h126 h.2))
                have ddlt33 : decide (((l[k].toNat : Nat) : Int) < 33) = false := decide_eq_false (by omega)
                have ddgt126 : decide (126 < ((l[k].toNat : Nat) : Int)) = true := decide_eq_true (by omega)
                go_wp2_with fail
                go_ret
                exact ⟨ret_bool (by rw [HO.out, all_no _ l k hlt hc.out]), Gr.refl _⟩
            · have hc := Lib.hid (objC_no l[k] (fun h => h33 h.1))
              have ddlt33 : decide (((l[k].toNat : Nat) : Int) < 33) = true := decide_eq_true (by omega)
              have ddgt126 : decide (126 < ((l[k].toNat : Nat) : Int)) = false := decide_eq_false (by omega)
              go_wp2_with fail
              go_ret
              exact ⟨ret_bool (by rw [HO.out, all_no _ l k hlt hc.out]), Gr.refl _⟩
          · go_wp2_with fail
            go_ret
            exact ⟨ret_bool (by rw [HO.out, all_end _ l k hlt HE.out]), Gr.refl _⟩
      · have HO := Lib.hid (objB_first h0' h47)
        have hne : ((l[0].toNat : Int) != 47) = true := by simpa using h47
        go_enter Tryd.func14, Tryd.ntmps14
        go_wp2_with fail
        go_ret
        exact ⟨ret_bool HO.out.symm, Gr.refl _⟩
set_option maxHeartbeats 1000000 in
theorem refObject_any (l : List UInt8) (w : World) (_hl : l.length ≤ 9223372036854775000) : Calls Tryd.prog 15 #[str l] w fun e w' => e = .returned (.bool (objB l)) ∧ Gr w w' := by
  by_cases h0 : l.length < 1
  · have hn : l = [] := List.eq_nil_of_length_eq_zero (by omega)
    subst hn
    go_enter Tryd.func15, Tryd.ntmps15
    go_wp2_with fail
    go_ret
    exact ⟨rfl, Gr.refl _⟩
  · have h0' : 0 < l.length := by omega
    have d0 : decide ((l.length : Int) < 1) = false := decide_eq_false (by omega)
    clear h0
    by_cases h2 : 200 < l.length
    · have HO := Lib.hid (objB_long h2)
      have d2 : decide (200 < (l.length : Int)) = true := decide_eq_true (by omega)
      go_enter Tryd.func15, Tryd.ntmps15
      go_wp2_with fail
      go_ret
      exact ⟨ret_bool HO.out.symm, Gr.refl _⟩
    · have d2 : decide (200 < (l.length : Int)) = false := decide_eq_false (by omega)
      by_cases h47 : (l[0].toNat : Int) = 47
      · have HO := Lib.hid (objB_rest h0' (by omega) h47)
        have hne : ((l[0].toNat : Int) != 47) = false := by simp [h47]
        clear h47
        go_enter Tryd.func15, Tryd.ntmps15
        go_wp2_with fail
        clear hne
        go_loop [3] (fun i => ∃ k : Nat, k ≤ l.length ∧ i = .int .i64 k ∧ (l.take k).all objC = true) (fun i => l.length - (intOf i).toNat)
        case atStart => exact ⟨0, Nat.zero_le _, rfl, rfl⟩
        case round =>
          obtain ⟨k, hk, rfl, hE⟩ := hrel
          have HE := Lib.hid hE; clear hE
          by_cases hlt : k < l.length
          · have hx : (l[k].toNat : Int) ≤ 255 := by have := l[k].toNat_lt; omega
            by_cases h33 : 33 ≤ (l[k].toNat : Int)
            · by_cases h126 : (l[k].toNat : Int) ≤ 126
              · have hc := Lib.hid (objC_yes l[k] ⟨h33, h126⟩)
                have ddle32 : decide (((l[k].toNat : Nat) : Int) ≤ 32) = false := decide_eq_false (by omega)
                have ddgt126 : decide (126 < ((l[k].toNat : Nat) : Int)) = false := decide_eq_false (by omega)
                go_wp2_with fail
                exact ⟨⟨k + 1, by omega, by go_num, all_take_succ _ l k hlt HE.out hc.out⟩, by simp [intOf]; omega⟩
              · have hc := Lib.hid (objC_no l[k] (fun h => h126 h.2))
                have ddle32 : decide (((l[k].toNat : Nat) : Int) ≤ 32) = false := decide_eq_false (by omega)
                have ddgt126 : decide (126 < ((l[k].toNat : Nat) : Int)) = true := decide_eq_true (by omega)
                go_wp2_with fail
                go_ret
                exact ⟨ret_bool (by rw [HO.out, all_no _ l k hlt hc.out]), Gr.refl _⟩
            · have hc := Lib.hid (objC_no l[k] (fun h => h33 h.1))
              have ddle32 : decide (((l[k].toNat : Nat) : Int) ≤ 32) = true := decide_eq_true (by omega)
              have ddgt126 : decide (126 < ((l[k].toNat : Nat) : Int)) = false := decide_eq_false (by omega)
              go_wp2_with fail
              go_ret
              exact ⟨ret_bool (by rw [HO.out, all_no _ l k hlt hc.out]), Gr.refl _⟩
          · go_wp2_with fail
            go_ret
            exact ⟨ret_bool (by rw [HO.out, all_end _ l k hlt HE.out]), Gr.refl _⟩
      · have HO := Lib.hid (objB_first h0' h47)
        have hne : ((l[0].toNat : Int) != 47) = true := by simpa using h47
        go_enter Tryd.func15, Tryd.ntmps15
        go_wp2_with fail
        go_ret
        exact ⟨ret_bool HO.out.symm, Gr.refl _⟩
set_option maxHeartbeats 1000000 in
theorem reason_any (n : Int) (w : World) : Calls Tryd.prog 16 #[.int .i64 n] w fun e w' => e = .returned (str (reason n)) ∧ Gr w w' := by
  go_enter Tryd.func16, Tryd.ntmps16
  go_wp2_with fail
  all_goals go_ret
  all_goals refine ⟨ret_str ?_, Gr.refl _⟩
  all_goals (unfold reason; simp_all)
set_option maxHeartbeats 1000000 in
theorem refReason_any (n : Int) (w : World) : Calls Tryd.prog 17 #[.int .i64 n] w fun e w' => e = .returned (str (reason n)) ∧ Gr w w' := by
  go_enter Tryd.func17, Tryd.ntmps17
  go_wp2_with fail
  all_goals go_ret
  all_goals refine ⟨ret_str ?_, Gr.refl _⟩
  all_goals (unfold reason; simp_all)
theorem lawRef_any (T : HeadT) (A : Option Addr) (c : Nat) (w : World) : Calls Tryd.prog 13 #[.agg #[str T.1, str T.2.1, .int .i64 T.2.2.1, .slice A T.2.2.2.length c]] w fun e w' => e = .returned (.agg #[str T.1, str T.2.1, .int .i64 T.2.2.1, .slice A T.2.2.2.length c]) ∧ Gr w w' := by
  go_enter Tryd.func13, Tryd.ntmps13
  go_wp2_with fail
  refine bodyPost_ret (v := .agg #[str T.1, str T.2.1, .int .i64 T.2.2.1, .slice A T.2.2.2.length c]) (by simp [results, Tryd.results13, go_sem]) rfl ⟨rfl, ?_⟩
  exact Gr.al (Gr.al (Gr.refl w) _) _
set_option maxHeartbeats 1000000 in
theorem refSame12_any (T : HeadT) (A B : Option Addr) (c d : Nat) (w : World) (hu : Flds w (.slice A T.2.2.2.length c) T.2.2.2) (hv : Flds w (.slice B T.2.2.2.length d) T.2.2.2) :
    Calls Tryd.prog 12 #[.agg #[str T.1, str T.2.1, .int .i64 T.2.2.1, .slice A T.2.2.2.length c], .agg #[str T.1, str T.2.1, .int .i64 T.2.2.1, .slice B T.2.2.2.length d]] w fun e w' => e = .returned (.bool true) ∧ Gr w w' := by
  obtain ⟨A', c', hv1, hc, hx, hA⟩ := hu.open
  injection hv1 with e1 _ e2
  subst e1 e2
  obtain ⟨B', d', hv2, hd, hy, hB⟩ := hv.open
  injection hv2 with e1 _ e2
  subst e1 e2
  have HA := Lib.hid hA; have HB := Lib.hid hB; clear hA hB hu hv
  have hqe := neq_fld
  have hqg := fun (w : World) (x y : Operand) (a b : Array Value) => run_eqGuard_agg (P := Tryd.prog) w .neq 55 x y a b (by kernel_rfl)
  generalize hxs : T.2.2.2 = xs at *
  have bne1 : (T.1 != T.1) = false := by simp
  have bne2 : (T.2.1 != T.2.1) = false := by simp
  have bne3 : (T.2.2.1 != T.2.2.1) = false := by simp
  have bne4 : ((xs.length : Int) != (xs.length : Int)) = false := by simp
  clear hxs
  go_enter Tryd.func12, Tryd.ntmps12
  go_upto_region 1 with fail
  have hb1 := Lib.hid (Bk.new w 30 #[str T.1, str T.2.1, .int .i64 T.2.2.1, .slice A xs.length c] (0, 0))
  have hG1 : Gr w (w.alloc (Obj.cells #[str T.1, str T.2.1, .int .i64 T.2.2.1, .slice A xs.length c] 30)) := Gr.al (Gr.refl w) _
  have hz1 : (w.alloc (Obj.cells #[str T.1, str T.2.1, .int .i64 T.2.2.1, .slice A xs.length c] 30)).heap.size = w.heap.size + 1 := by simp
  generalize hw1 : w.alloc (Obj.cells #[str T.1, str T.2.1, .int .i64 T.2.2.1, .slice A xs.length c] 30) = w1 at *
  have hb2 := Lib.hid (Bk.new w1 30 #[str T.1, str T.2.1, .int .i64 T.2.2.1, .slice B xs.length d] (0, 0))
  have hG2 : Gr w1 (w1.alloc (Obj.cells #[str T.1, str T.2.1, .int .i64 T.2.2.1, .slice B xs.length d] 30)) := Gr.al (Gr.refl w1) _
  generalize hw2 : w1.alloc (Obj.cells #[str T.1, str T.2.1, .int .i64 T.2.2.1, .slice B xs.length d] 30) = w2 at *
  have hbb1 := Lib.hid (hb1.out.gr hG2)
  have hG := Gr.tr hG1 hG2
  rw [hz1] at hb2
  clear hw1 hw2 hb1 hG1 hG2 hz1
  generalize w.heap.size = g at *
  obtain ⟨q0, q1, q2, q3⟩ := hbb1.out.cells4
  obtain ⟨y0, y1, y2, y3⟩ := hb2.out.cells4
  go_wp2_with fail
  clear q0 q1 q2 y0 y1 y2 bne1 bne2 bne3 bne4
  go_loopw [37] (fun i wr => ∃ k : Nat, k ≤ xs.length ∧ i = .int .i64 k ∧ Gr w2 wr) (fun i _ => xs.length - (intOf i).toNat)
  case atStart => exact ⟨0, Nat.zero_le _, rfl, Gr.refl _⟩
  case round =>
    obtain ⟨k, hk, rfl, hGr⟩ := hrel
    have hGw := Gr.tr hG hGr
    by_cases hlt : k < xs.length
    · obtain ⟨b1, o1, rfl, _, hc1, hc1'⟩ := HA.out k hlt
      obtain ⟨b2, o2, rfl, _, hc2, hc2'⟩ := HB.out k hlt
      have hfe : (xs[k] == xs[k]) = true := by simp
      clear HA HB
      go_wp2_with fail
      have hq1 := fun i => Gr.cell (gw_gr wr i) (Gr.cell hGw hc1)
      have hq2 := fun i => Gr.cell (gw_gr wr i) (Gr.cell hGw hc2)
      have hq1' := fun i => Gr.cell (gw_gr wr i) (Gr.cell hGw hc1')
      have hq2' := fun i => Gr.cell (gw_gr wr i) (Gr.cell hGw hc2')
      have hq3 := fun i => Gr.cell (gw_gr wr i) (Gr.cell hGr q3)
      have hq4 := fun i => Gr.cell (gw_gr wr i) (Gr.cell hGr y3)
      refine wp_region_gw (by kernel_rfl) (by kernel_rfl) ?_
      repeat (first | go_big_quiet_step (fail) | quiet_step (fail))
      refine wpQuiet_nil ?_; intro wq hwq; obtain ⟨iq, rfl⟩ := hwq
      have hG1 := Gr.tr hGr (gw_gr wr iq)
      generalize gw wr iq = w3 at *
      clear iq hq1 hq2 hq1' hq2' hq3 hq4
      go_wp2_with fail
      exact ⟨⟨k + 1, by omega, by go_num, hG1⟩, by simp [intOf]; omega⟩
    · go_wp2_with fail
      go_ret
      exact ⟨rfl, hGw⟩
end Go.Proofs.YtidijgofoklejaaDoor
