/- Layer 39: configurations compared. No conditions. -/
import Derived.Test.YtghopokdfjcjlaaDoorConf13
namespace Go.Proofs.YtghopokdfjcjlaaDoor
open Go.RowKit
set_option maxHeartbeats 4000000 in
set_option maxRecDepth 100000 in
theorem refSame39_eq (l : List Cfg) (v1 v2 : Value) (w : World) (h1 : Sl w v1 l.length (flatC l)) (h2 : Sl w v2 l.length (flatC l)) : Calls Tryd.prog 20 #[v1, v2] w fun e w' => e = .returned (.bool true) ∧ Gr w w' := by
  obtain ⟨A1, c1, rfl, hc1, hm1, ho1⟩ := h1.open
  obtain ⟨A2, c2, rfl, hc2, hm2, ho2⟩ := h2.open
  have HO1 := Lib.hid ho1
  have HO2 := Lib.hid ho2
  clear h1 h2 ho1 ho2
  have e0 : ((l.length : Int) != (l.length : Int)) = false := by simp
  go_enter Tryd.func20, Tryd.ntmps20
  go_wp2_with fail
  go_loopw [13] (fun i wr => ∃ k : Nat, k ≤ l.length ∧ i = .int .i64 k ∧ Gr w wr) (fun i _ => l.length - (intOf i).toNat)
  case atStart => exact ⟨0, Nat.zero_le _, rfl, Gr.refl _⟩
  case round =>
    obtain ⟨k, hk, rfl, hG⟩ := hrel
    by_cases hlt : k < l.length
    · obtain ⟨b1, o1, rfl, hb1, hcell1⟩ := HO1.out _ _ (flatC_at (j := 0) hlt (by omega))
      obtain ⟨b2, o2, rfl, hb2, hcell2⟩ := HO2.out _ _ (flatC_at (j := 0) hlt (by omega))
      have HC1 := Lib.hid (fun (j : Nat) (u : Value) (hj : j < 10) (h : (l[k].nums.map (Value.int .i64))[j]? = some u) => hcell1 (k * 10 + j) u ((flatC_at hlt hj).trans h))
      have HC2 := Lib.hid (fun (j : Nat) (u : Value) (hj : j < 10) (h : (l[k].nums.map (Value.int .i64))[j]? = some u) => hcell2 (k * 10 + j) u ((flatC_at hlt hj).trans h))
      clear hcell1 hcell2 hb1 hb2
      generalize l[k] = c at *
      go_upto_region 6 with fail
      have p10 : ∀ i, (gw wr i).cell? ⟨b1, o1 + k * 10, none⟩ = some (.int .i64 c.u) := fun i => by have := (gw_gr wr i).cell (hG.cell (HC1.out 0 _ (by omega) rfl)); rw [← Nat.add_assoc] at this; exact this
      have p11 : ∀ i, (gw wr i).cell? ⟨b1, o1 + k * 10 + 1, none⟩ = some (.int .i64 c.wa) := fun i => by have := (gw_gr wr i).cell (hG.cell (HC1.out 1 _ (by omega) rfl)); rw [← Nat.add_assoc] at this; exact this
      have p12 : ∀ i, (gw wr i).cell? ⟨b1, o1 + k * 10 + 2, none⟩ = some (.int .i64 c.mo) := fun i => by have := (gw_gr wr i).cell (hG.cell (HC1.out 2 _ (by omega) rfl)); rw [← Nat.add_assoc] at this; exact this
      have p13 : ∀ i, (gw wr i).cell? ⟨b1, o1 + k * 10 + 3, none⟩ = some (.int .i64 c.sp) := fun i => by have := (gw_gr wr i).cell (hG.cell (HC1.out 3 _ (by omega) rfl)); rw [← Nat.add_assoc] at this; exact this
      have p14 : ∀ i, (gw wr i).cell? ⟨b1, o1 + k * 10 + 4, none⟩ = some (.int .i64 c.re) := fun i => by have := (gw_gr wr i).cell (hG.cell (HC1.out 4 _ (by omega) rfl)); rw [← Nat.add_assoc] at this; exact this
      have p15 : ∀ i, (gw wr i).cell? ⟨b1, o1 + k * 10 + 5, none⟩ = some (.int .i64 c.rt) := fun i => by have := (gw_gr wr i).cell (hG.cell (HC1.out 5 _ (by omega) rfl)); rw [← Nat.add_assoc] at this; exact this
      have p16 : ∀ i, (gw wr i).cell? ⟨b1, o1 + k * 10 + 6, none⟩ = some (.int .i64 c.li) := fun i => by have := (gw_gr wr i).cell (hG.cell (HC1.out 6 _ (by omega) rfl)); rw [← Nat.add_assoc] at this; exact this
      have p17 : ∀ i, (gw wr i).cell? ⟨b1, o1 + k * 10 + 7, none⟩ = some (.int .i64 c.bu) := fun i => by have := (gw_gr wr i).cell (hG.cell (HC1.out 7 _ (by omega) rfl)); rw [← Nat.add_assoc] at this; exact this
      have p18 : ∀ i, (gw wr i).cell? ⟨b1, o1 + k * 10 + 8, none⟩ = some (.int .i64 c.sh) := fun i => by have := (gw_gr wr i).cell (hG.cell (HC1.out 8 _ (by omega) rfl)); rw [← Nat.add_assoc] at this; exact this
      have p19 : ∀ i, (gw wr i).cell? ⟨b1, o1 + k * 10 + 9, none⟩ = some (.int .i64 c.ch) := fun i => by have := (gw_gr wr i).cell (hG.cell (HC1.out 9 _ (by omega) rfl)); rw [← Nat.add_assoc] at this; exact this
      have p20 : ∀ i, (gw wr i).cell? ⟨b2, o2 + k * 10, none⟩ = some (.int .i64 c.u) := fun i => by have := (gw_gr wr i).cell (hG.cell (HC2.out 0 _ (by omega) rfl)); rw [← Nat.add_assoc] at this; exact this
      have p21 : ∀ i, (gw wr i).cell? ⟨b2, o2 + k * 10 + 1, none⟩ = some (.int .i64 c.wa) := fun i => by have := (gw_gr wr i).cell (hG.cell (HC2.out 1 _ (by omega) rfl)); rw [← Nat.add_assoc] at this; exact this
      have p22 : ∀ i, (gw wr i).cell? ⟨b2, o2 + k * 10 + 2, none⟩ = some (.int .i64 c.mo) := fun i => by have := (gw_gr wr i).cell (hG.cell (HC2.out 2 _ (by omega) rfl)); rw [← Nat.add_assoc] at this; exact this
      have p23 : ∀ i, (gw wr i).cell? ⟨b2, o2 + k * 10 + 3, none⟩ = some (.int .i64 c.sp) := fun i => by have := (gw_gr wr i).cell (hG.cell (HC2.out 3 _ (by omega) rfl)); rw [← Nat.add_assoc] at this; exact this
      have p24 : ∀ i, (gw wr i).cell? ⟨b2, o2 + k * 10 + 4, none⟩ = some (.int .i64 c.re) := fun i => by have := (gw_gr wr i).cell (hG.cell (HC2.out 4 _ (by omega) rfl)); rw [← Nat.add_assoc] at this; exact this
      have p25 : ∀ i, (gw wr i).cell? ⟨b2, o2 + k * 10 + 5, none⟩ = some (.int .i64 c.rt) := fun i => by have := (gw_gr wr i).cell (hG.cell (HC2.out 5 _ (by omega) rfl)); rw [← Nat.add_assoc] at this; exact this
      have p26 : ∀ i, (gw wr i).cell? ⟨b2, o2 + k * 10 + 6, none⟩ = some (.int .i64 c.li) := fun i => by have := (gw_gr wr i).cell (hG.cell (HC2.out 6 _ (by omega) rfl)); rw [← Nat.add_assoc] at this; exact this
      have p27 : ∀ i, (gw wr i).cell? ⟨b2, o2 + k * 10 + 7, none⟩ = some (.int .i64 c.bu) := fun i => by have := (gw_gr wr i).cell (hG.cell (HC2.out 7 _ (by omega) rfl)); rw [← Nat.add_assoc] at this; exact this
      have p28 : ∀ i, (gw wr i).cell? ⟨b2, o2 + k * 10 + 8, none⟩ = some (.int .i64 c.sh) := fun i => by have := (gw_gr wr i).cell (hG.cell (HC2.out 8 _ (by omega) rfl)); rw [← Nat.add_assoc] at this; exact this
      have p29 : ∀ i, (gw wr i).cell? ⟨b2, o2 + k * 10 + 9, none⟩ = some (.int .i64 c.ch) := fun i => by have := (gw_gr wr i).cell (hG.cell (HC2.out 9 _ (by omega) rfl)); rw [← Nat.add_assoc] at this; exact this
      refine wp_region_gw (by kernel_rfl) (by kernel_rfl) ?_
      repeat (first | go_big_quiet_step (fail) | quiet_step (fail))
      refine wpQuiet_nil ?_; intro wq hwq; obtain ⟨iq, rfl⟩ := hwq
      have hGq := Gr.tr hG (gw_gr wr iq)
      generalize gw wr iq = wx at *
      go_wp2_with fail
      exact ⟨⟨k + 1, by omega, by go_num, hGq⟩, by simp [intOf]; omega⟩
    · go_wp2_with fail
      go_ret
      exact ⟨rfl, hG⟩
end Go.Proofs.YtghopokdfjcjlaaDoor
