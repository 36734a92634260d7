/- Layer 16's law: lists of spans, and of bytes, compared by the document. Contracts; both hold the same. -/
import Derived.Test.YtdmhjabnjbpliaaGreatDoorJClB
set_option linter.unusedVariables false
set_option linter.unusedSimpArgs false
namespace Go.Proofs.YtdmhjabnjbpliaaGreatDoor
open Go.RowKit
set_option maxHeartbeats 8000000 in
set_option maxRecDepth 100000 in
theorem spans_same (u v : Value) (l : List (Int × Int)) (w : World) (hu : Spans w u l) (hv : Spans w v l) :
    Calls Tryz.prog 16 #[u, v] w fun e w' => e = .returned (.bool true) ∧ Gr w w' := by
  obtain ⟨A, c, rfl, hc, hm, ho⟩ := hu.open
  obtain ⟨A', c', rfl, hc', _, ho'⟩ := hv.open
  have HO := Lib.hid ho; have HO' := Lib.hid ho'
  clear ho ho' hu hv
  go_enter Tryz.func16, Tryz.ntmps16
  go_wp2_with fail
  go_loopw [5, 13] (fun x5 i wr => ∃ k : Nat, k ≤ l.length ∧ i = .int .i64 k ∧ Gr w wr) (fun _ i _ => l.length - (intOf i).toNat)
  case atStart => exact ⟨0, Nat.zero_le _, rfl, Gr.refl _⟩
  case round =>
    obtain ⟨k, hk, rfl, hG⟩ := hrel
    by_cases hlt : k < l.length
    · obtain ⟨b1, o1, rfl, -, c1, c2⟩ := HO.out k hlt
      obtain ⟨b2, o2, rfl, -, d1, d2⟩ := HO'.out k hlt
      have c1 := Gr.cell hG c1
      have c2 := Gr.cell hG c2
      have d1 := Gr.cell hG d1
      have d2 := Gr.cell hG d2
      have gc1 := fun i => (gw_gr wr i).cell c1
      have gc2 := fun i => (gw_gr wr i).cell c2
      have gd1 := fun i => (gw_gr wr i).cell d1
      have gd2 := fun i => (gw_gr wr i).cell d2
      generalize l[k] = p at *
      obtain ⟨pf, pt⟩ := p
      simp only at *
      have HG := Lib.hid hG
      clear hG HO HO'
      go_upto_region 6 with fail
      refine wp_region_gw (by kernel_rfl) (by kernel_rfl) ?_
      repeat (first | go_big_quiet_step (fail) | quiet_step (fail))
      refine wpQuiet_nil ?_; intro wq hwq; obtain ⟨iq, rfl⟩ := hwq
      have hGq := gw_gr wr iq
      generalize gw wr iq = wx at *
      go_wp2_with fail
      exact ⟨⟨k + 1, by omega, by go_num, Gr.tr HG.out hGq⟩, by simp [intOf]; omega⟩
    · have hk : k = l.length := by omega
      subst hk
      go_wp2_with fail
      go_ret
      exact ⟨rfl, hG⟩
set_option maxHeartbeats 8000000 in
set_option maxRecDepth 100000 in
theorem bodies_same (u v : Value) (l : List (List UInt8)) (w : World) (hu : Bods w u l) (hv : Bods w v l) :
    Calls Tryz.prog 17 #[u, v] w fun e w' => e = .returned (.bool true) ∧ Gr w w' := by
  obtain ⟨A, c, rfl, hc, hm, ho⟩ := hu.open
  obtain ⟨A', c', rfl, hc', _, ho'⟩ := hv.open
  have HO := Lib.hid ho; have HO' := Lib.hid ho'
  clear ho ho' hu hv
  go_enter Tryz.func17, Tryz.ntmps17
  go_wp2_with fail
  go_loopw [5, 13] (fun x5 i wr => ∃ k : Nat, k ≤ l.length ∧ i = .int .i64 k ∧ Gr w wr) (fun _ i _ => l.length - (intOf i).toNat)
  case atStart => exact ⟨0, Nat.zero_le _, rfl, Gr.refl _⟩
  case round =>
    obtain ⟨k, hk, rfl, hG⟩ := hrel
    by_cases hlt : k < l.length
    · obtain ⟨b1, o1, u1, rfl, c1, hy⟩ := HO.out k hlt
      obtain ⟨b2, o2, u2, rfl, d1, hy'⟩ := HO'.out k hlt
      have t1 := fun i => (hy.gr (Gr.tr hG (gw_gr wr i))).toStr
      have t2 := fun i => (hy'.gr (Gr.tr hG (gw_gr wr i))).toStr
      obtain ⟨A3, n3, rfl, _, _, _⟩ := hy.open
      obtain ⟨A4, n4, rfl, _, _, _⟩ := hy'.open
      clear hy hy'
      have c1 := Gr.cell hG c1
      have d1 := Gr.cell hG d1
      have gc1 := fun i => (gw_gr wr i).cell c1
      have gd1 := fun i => (gw_gr wr i).cell d1
      generalize l[k] = p at *
      have HG := Lib.hid hG
      clear hG HO HO'
      go_upto_region 6 with fail
      refine wp_region_gw (by kernel_rfl) (by kernel_rfl) ?_
      repeat (first | go_big_quiet_step (fail) | quiet_step (fail))
      refine wpQuiet_nil ?_; intro wq hwq; obtain ⟨iq, rfl⟩ := hwq
      have hGq := gw_gr wr iq
      generalize gw wr iq = wx at *
      go_wp2_with fail
      exact ⟨⟨k + 1, by omega, by go_num, Gr.tr HG.out hGq⟩, by simp [intOf]; omega⟩
    · have hk : k = l.length := by omega
      subst hk
      go_wp2_with fail
      go_ret
      exact ⟨rfl, hG⟩
end Go.Proofs.YtdmhjabnjbpliaaGreatDoor
