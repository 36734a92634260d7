/- Lists of texts and of fields: alike, or too many. Contracts; texts shorter than 2 to the 47th. -/
import Derived.Test.YtfpojgcnfclphaaDoorField3
import Derived.Test.YtfpojgcnfclphaaDoorOwn
import Derived.Test.YtfpojgcnfclphaaDoorFieldLaw2
namespace Go.Proofs.YtfpojgcnfclphaaDoor
open Go.RowKit
set_option maxHeartbeats 1000000 in
theorem texts_any (u v : Value) (xs ys : List (List UInt8)) (w : World) (hu : Strs w u xs) (hv : Strs w v ys) :
    Calls Tryd.prog 14 #[u, v] w fun e w' => e = .returned (.bool (xs == ys)) ∧ Gr w w' := by
  obtain ⟨A, c, rfl, hc, hx, hA⟩ := hu.open
  obtain ⟨B, d, rfl, hd, hy, hB⟩ := hv.open
  have HA := Lib.hid hA; have HB := Lib.hid hB; clear hA hB hu hv
  by_cases hl : xs.length = ys.length
  · have HL := Lib.hid hl
    have hne : ((xs.length : Int) != (ys.length : Int)) = false := by simp [hl]
    have hle : xs.length ≤ ys.length := by omega
    clear hl
    go_enter Tryd.func14, Tryd.ntmps14
    go_wp2_with fail
    go_loopw [4, 5, 13] (fun r x i wr => ∃ k : Nat, k ≤ xs.length ∧ i = .int .i64 k ∧ Gr w wr ∧ xs.take k = ys.take k) (fun _ _ i _ => xs.length - (intOf i).toNat)
    case atStart => exact ⟨0, Nat.zero_le _, rfl, Gr.refl _, rfl⟩
    case round =>
      obtain ⟨k, hk, rfl, hG, hE⟩ := hrel
      have HE := Lib.hid hE; clear hE
      by_cases hlt : k < xs.length
      · have hlb : k < ys.length := by omega
        obtain ⟨b1, o1, rfl, hb1, hc1⟩ := HA.out k hlt
        obtain ⟨b2, o2, rfl, hb2, hc2⟩ := HB.out k hlb
        clear HA HB
        go_wp2_with fail
        have hq1 := fun i => Gr.cell (gw_gr wr i) (Gr.cell hG hc1)
        have hq2 := fun i => Gr.cell (gw_gr wr i) (Gr.cell hG hc2)
        refine wp_region_gw (by kernel_rfl) (by kernel_rfl) ?_
        repeat (first | go_big_quiet_step (fail) | quiet_step (fail))
        refine wpQuiet_nil ?_; intro wq hwq; obtain ⟨iq, rfl⟩ := hwq
        have hG1 := Gr.tr hG (gw_gr wr iq)
        generalize gw wr iq = w1 at *
        clear iq hG hq1 hq2
        go_wp2_with fail
        · go_ret
          exact ⟨ret_bool (eq_ne hlt hlb (by assumption)).symm, hG1⟩
        · exact ⟨⟨k + 1, by omega, by go_num, hG1, eq_step hlt hlb (by assumption) HE.out⟩, by simp [intOf]; omega⟩
      · go_wp2_with fail
        go_ret
        exact ⟨ret_bool (eq_end hlt HL.out HE.out).symm, hG⟩
  · have hne : ((xs.length : Int) != (ys.length : Int)) = true := by simp; omega
    go_enter Tryd.func14, Tryd.ntmps14
    go_wp2_with fail
    go_ret
    exact ⟨ret_bool (eq_len hl).symm, Gr.refl _⟩
theorem two_of_map {α β : Type} {φ : α → β} {l : List α} {x y : β} (h : l.map φ = [x, y]) : ∃ f g, l = [f, g] ∧ φ f = x ∧ φ g = y := by
  rcases l with _ | ⟨f, _ | ⟨g, _ | ⟨i, l⟩⟩⟩
  · simp at h
  · simp at h
  · simp at h; exact ⟨f, g, rfl, h.1, h.2⟩
  · simp at h
theorem neq_fld (w : World) (a b c d : List UInt8) : (binOp .neq 33 (.agg #[str a, str b]) (.agg #[str c, str d])).run Tryd.prog w = .ok (.bool (!((a, b) == (c, d)))) w := by
  rw [run_neq_struct, show (10000 : Nat) = 9998 + 1 + 1 from rfl, run_equalIn_agg _ _ _ _ _ (by kernel_rfl) (by kernel_rfl)]
  have hf : (Tryd.prog.fieldsOf 33).toList.map (fun f => (f.name, f.type, f.offset)) = [("Name", 9, 0), ("Value", 9, 1)] := by kernel_rfl
  generalize (Tryd.prog.fieldsOf 33).toList = fs at hf
  obtain ⟨f, g, rfl, hf1, hf2⟩ := two_of_map hf
  · simp only [Prod.mk.injEq] at hf1 hf2
    obtain ⟨n1, t1, o1⟩ := hf1
    obtain ⟨n2, t2, o2⟩ := hf2
    have e : ((a, b) == (c, d)) = (a == c && b == d) := rfl
    rw [e]
    simp only [Op.eqFields, n1, t1, o1, n2, t2, o2]
    cases h1 : (a == c) <;> cases h2 : (b == d) <;> simp [go_sem, h1, h2]
set_option maxHeartbeats 1000000 in
theorem same_any (u v : Value) (xs ys : List Fld) (w : World) (hu : Flds w u xs) (hv : Flds w v ys) :
    Calls Tryd.prog 22 #[u, v] w fun e w' => e = .returned (.bool (xs == ys)) ∧ Gr w w' := by
  obtain ⟨A, c, rfl, hc, hx, hA⟩ := hu.open
  obtain ⟨B, d, rfl, hd, hy, hB⟩ := hv.open
  have HA := Lib.hid hA; have HB := Lib.hid hB; clear hA hB hu hv
  have hqe := neq_fld
  have hqg := fun (w : World) (x y : Operand) (a b : Array Value) => run_eqGuard_agg (P := Tryd.prog) w .neq 33 x y a b (by kernel_rfl)
  by_cases hl : xs.length = ys.length
  · have HL := Lib.hid hl
    have hne : ((xs.length : Int) != (ys.length : Int)) = false := by simp [hl]
    have hle : xs.length ≤ ys.length := by omega
    clear hl
    go_enter Tryd.func22, Tryd.ntmps22
    go_wp2_with fail
    go_loopw [4, 5, 13] (fun r x i wr => ∃ k : Nat, k ≤ xs.length ∧ i = .int .i64 k ∧ Gr w wr ∧ xs.take k = ys.take k) (fun _ _ i _ => xs.length - (intOf i).toNat)
    case atStart => exact ⟨0, Nat.zero_le _, rfl, Gr.refl _, rfl⟩
    case round =>
      obtain ⟨k, hk, rfl, hG, hE⟩ := hrel
      have HE := Lib.hid hE; clear hE
      by_cases hlt : k < xs.length
      · have hlb : k < ys.length := by omega
        obtain ⟨b1, o1, rfl, hb1, hc1, hc1'⟩ := HA.out k hlt
        obtain ⟨b2, o2, rfl, hb2, hc2, hc2'⟩ := HB.out k hlb
        clear HA HB
        go_wp2_with fail
        have hq1 := fun i => Gr.cell (gw_gr wr i) (Gr.cell hG hc1)
        have hq2 := fun i => Gr.cell (gw_gr wr i) (Gr.cell hG hc2)
        have hq1' := fun i => Gr.cell (gw_gr wr i) (Gr.cell hG hc1')
        have hq2' := fun i => Gr.cell (gw_gr wr i) (Gr.cell hG hc2')
        refine wp_region_gw (by kernel_rfl) (by kernel_rfl) ?_
        repeat (first | go_big_quiet_step (fail) | quiet_step (fail))
        refine wpQuiet_nil ?_; intro wq hwq; obtain ⟨iq, rfl⟩ := hwq
        have hG1 := Gr.tr hG (gw_gr wr iq)
        generalize gw wr iq = w1 at *
        clear iq hG hq1 hq2
        go_wp2_with fail
        · go_ret
          exact ⟨ret_bool (eq_ne hlt hlb (by assumption)).symm, hG1⟩
        · exact ⟨⟨k + 1, by omega, by go_num, hG1, eq_step hlt hlb (by assumption) HE.out⟩, by simp [intOf]; omega⟩
      · go_wp2_with fail
        go_ret
        exact ⟨ret_bool (eq_end hlt HL.out HE.out).symm, hG⟩
  · have hne : ((xs.length : Int) != (ys.length : Int)) = true := by simp; omega
    go_enter Tryd.func22, Tryd.ntmps22
    go_wp2_with fail
    go_ret
    exact ⟨ret_bool (eq_len hl).symm, Gr.refl _⟩
set_option maxHeartbeats 1000000 in
theorem great2_any (u : Value) (xs : List Fld) (w : World) (hu : Flds w u xs) (hs : Short2 xs) :
    Calls Tryd.prog 23 #[u] w fun e w' => e = .returned (.bool (great2 xs)) ∧ Gr w w' := by
  obtain ⟨A, c, rfl, hc, hx, hA⟩ := hu.open
  have HA := Lib.hid hA; have HS := Lib.hid hs; clear hA hu hs
  by_cases hl : xs.length ≤ 130
  · have hd : decide (130 < (xs.length : Int)) = false := decide_eq_false (by omega)
    go_enter Tryd.func23, Tryd.ntmps23
    go_wp2_with fail
    go_loopw [3, 5, 8] (fun s x i wr => ∃ k : Nat, k ≤ xs.length ∧ i = .int .i64 k ∧ Gr w wr ∧ s = .int .i64 (bulk2 (xs.take k))) (fun _ _ i _ => xs.length - (intOf i).toNat)
    case atStart => exact ⟨0, Nat.zero_le _, rfl, Gr.refl _, rfl⟩
    case round =>
      obtain ⟨k, hk, rfl, hG, rfl⟩ := hrel
      by_cases hlt : k < xs.length
      · obtain ⟨b1, o1, rfl, hb1, hc1, hc1'⟩ := HA.out k hlt
        have hs := Lib.hid (bulk2_succ xs k hlt)
        have hB : bulk2 (xs.take k) ≤ 130 * (2 * 140737488355328) := by
          refine Nat.le_trans (bulk2_le _ 140737488355328 (fun f hf => HS.out f (List.mem_of_mem_take hf))) (Nat.mul_le_mul ?_ (Nat.le_refl _))
          rw [List.length_take]; omega
        obtain ⟨hB1, hB2⟩ := HS.out.at k hlt
        have hc2 := Gr.cell hG hc1
        have hc2' := Gr.cell hG hc1'
        clear HA HS
        go_wp2_with fail
        exact ⟨⟨k + 1, by omega, by go_num, by first | exact Gr.al hG _ | exact Gr.dr (Gr.al hG _), by rw [hs.out]; go_num⟩, by simp [intOf]; omega⟩
      · have hs := Lib.hid (bulk2_all xs k hlt)
        go_wp2_with fail
        go_ret
        exact ⟨ret_bool (by rw [hs.out]; exact great2_small hl), hG⟩
  · have hd : decide (130 < (xs.length : Int)) = true := decide_eq_true (by omega)
    go_enter Tryd.func23, Tryd.ntmps23
    go_wp2_with fail
    go_loopw [3, 5, 8] (fun s x i wr => ∃ (k : Nat) (m : Int), k ≤ xs.length ∧ i = .int .i64 k ∧ Gr w wr ∧ s = .int .i64 m) (fun _ _ i _ => xs.length - (intOf i).toNat)
    case atStart => exact ⟨0, 0, Nat.zero_le _, rfl, Gr.refl _, rfl⟩
    case round =>
      obtain ⟨k, m, hk, rfl, hG, rfl⟩ := hrel
      by_cases hlt : k < xs.length
      · obtain ⟨b1, o1, rfl, hb1, hc1, hc1'⟩ := HA.out k hlt
        have hc2 := Gr.cell hG hc1
        have hc2' := Gr.cell hG hc1'
        clear HA HS
        go_wp2_with fail
        exact ⟨⟨k + 1, _, by omega, by go_num, by first | exact Gr.al hG _ | exact Gr.dr (Gr.al hG _), rfl⟩, by simp [intOf]; omega⟩
      · go_wp2_with fail
        go_ret
        exact ⟨ret_bool (great2_big (by omega)).symm, hG⟩
set_option maxHeartbeats 1000000 in
theorem great1_any (u : Value) (xs : List (List UInt8)) (w : World) (hu : Strs w u xs) (hs : Short xs) :
    Calls Tryd.prog 12 #[u] w fun e w' => e = .returned (.bool (great1 xs)) ∧ Gr w w' := by
  obtain ⟨A, c, rfl, hc, hx, hA⟩ := hu.open
  have HA := Lib.hid hA; have HS := Lib.hid hs; clear hA hu hs
  by_cases hl : xs.length ≤ 60
  · have hd : decide (60 < (xs.length : Int)) = false := decide_eq_false (by omega)
    go_enter Tryd.func12, Tryd.ntmps12
    go_wp2_with fail
    go_loopw [3, 5, 8] (fun s x i wr => ∃ k : Nat, k ≤ xs.length ∧ i = .int .i64 k ∧ Gr w wr ∧ s = .int .i64 (bulk1 (xs.take k))) (fun _ _ i _ => xs.length - (intOf i).toNat)
    case atStart => exact ⟨0, Nat.zero_le _, rfl, Gr.refl _, rfl⟩
    case round =>
      obtain ⟨k, hk, rfl, hG, rfl⟩ := hrel
      by_cases hlt : k < xs.length
      · obtain ⟨b1, o1, rfl, hb1, hc1⟩ := HA.out k hlt
        have hs := Lib.hid (bulk1_succ xs k hlt)
        have hB : bulk1 (xs.take k) ≤ 60 * 140737488355328 := by
          refine Nat.le_trans (bulk1_le _ 140737488355328 (fun f hf => HS.out f (List.mem_of_mem_take hf))) (Nat.mul_le_mul ?_ (Nat.le_refl _))
          rw [List.length_take]; omega
        have hB1 := HS.out.at k hlt
        have hc2 := Gr.cell hG hc1
        clear HA HS
        go_wp2_with fail
        exact ⟨⟨k + 1, by omega, by go_num, hG, by rw [hs.out]; go_num⟩, by simp [intOf]; omega⟩
      · have hs := Lib.hid (bulk1_all xs k hlt)
        cases hd2 : decide (10000 < ((bulk1 (xs.take k) : Nat) : Int))
        all_goals
          go_wp2_with fail
          go_ret
          exact ⟨ret_bool (by rw [hs.out] at hd2; rw [← great1_small hl, hd2]), hG⟩
  · have hd : decide (60 < (xs.length : Int)) = true := decide_eq_true (by omega)
    go_enter Tryd.func12, Tryd.ntmps12
    go_wp2_with fail
    go_loopw [3, 5, 8] (fun s x i wr => ∃ (k : Nat) (m : Int), k ≤ xs.length ∧ i = .int .i64 k ∧ Gr w wr ∧ s = .int .i64 m) (fun _ _ i _ => xs.length - (intOf i).toNat)
    case atStart => exact ⟨0, 0, Nat.zero_le _, rfl, Gr.refl _, rfl⟩
    case round =>
      obtain ⟨k, m, hk, rfl, hG, rfl⟩ := hrel
      by_cases hlt : k < xs.length
      · obtain ⟨b1, o1, rfl, hb1, hc1⟩ := HA.out k hlt
        have hc2 := Gr.cell hG hc1
        clear HA HS
        go_wp2_with fail
        exact ⟨⟨k + 1, _, by omega, by go_num, hG, rfl⟩, by simp [intOf]; omega⟩
      · cases hd2 : decide (10000 < m)
        all_goals
          go_wp2_with fail
          go_ret
          exact ⟨ret_bool (great1_big (by omega)).symm, hG⟩
end Go.Proofs.YtfpojgcnfclphaaDoor
