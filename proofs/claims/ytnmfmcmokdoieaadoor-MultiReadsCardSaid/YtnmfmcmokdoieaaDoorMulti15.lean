/- Layer 11's law on ranges: pieces of both sides compared: a contract; both hold the same. -/
import Derived.Test.YtnmfmcmokdoieaaDoorMulti13
set_option linter.unusedVariables false
set_option linter.unusedSimpArgs false
namespace Go.Proofs.YtnmfmcmokdoieaaDoor
open Go.RowKit
theorem flatQ_cons (x : PieceT × Value) (L : List (PieceT × Value)) : flatQ (x :: L) = .int .i64 x.1.1.1 :: .int .i64 x.1.1.2.1 :: .int .i64 x.1.1.2.2 :: x.2 :: flatQ L := rfl
theorem flatQ_at (L : List (PieceT × Value)) (k : Nat) (h : k < L.length) : (flatQ L)[k * 4]? = some (.int .i64 L[k].1.1.1) ∧ (flatQ L)[k * 4 + 1]? = some (.int .i64 L[k].1.1.2.1) ∧ (flatQ L)[k * 4 + 2]? = some (.int .i64 L[k].1.1.2.2) ∧ (flatQ L)[k * 4 + 3]? = some L[k].2 := by
  induction L generalizing k with
  | nil => simp at h
  | cons f fs ih =>
    rw [flatQ_cons]
    cases k with
    | zero => simp
    | succ k =>
      have := ih k (by simpa using h)
      rw [show (k + 1) * 4 = k * 4 + 1 + 1 + 1 + 1 from by omega]
      simpa using this
theorem Pieces.open {w : World} {v : Value} {ps : List PieceT} (h : Pieces w v ps) : ∃ A c, v = .slice A ps.length c ∧ ps.length ≤ c ∧ ps.length ≤ 9223372036854775807 ∧ ∀ (k : Nat) (hk : k < ps.length), ∃ b o u, A = some ⟨b, o, none⟩ ∧ w.cell? ⟨b, o + k * 4, none⟩ = some (.int .i64 ps[k].1.1) ∧ w.cell? ⟨b, o + k * 4 + 1, none⟩ = some (.int .i64 ps[k].1.2.1) ∧ w.cell? ⟨b, o + k * 4 + 2, none⟩ = some (.int .i64 ps[k].1.2.2) ∧ w.cell? ⟨b, o + k * 4 + 3, none⟩ = some u ∧ Byts w u ps[k].2 := by
  obtain ⟨L, hL, hs, hb⟩ := h
  obtain ⟨A, c, hv, hc, hm, ho⟩ := Sl.open hs
  subst hL
  refine ⟨A, c, by rw [List.length_map]; exact hv, by rw [List.length_map]; exact hc, by rw [List.length_map]; exact hm, fun k hk => ?_⟩
  have hk' : k < L.length := by simpa using hk
  obtain ⟨e1, e2, e3, e4⟩ := flatQ_at L k hk'
  obtain ⟨b, o, hA, hb', hj⟩ := ho _ _ e1
  simp only [List.getElem_map]
  exact ⟨b, o, L[k].2, hA, hj _ _ e1, by rw [Nat.add_assoc]; exact hj _ _ e2, by rw [Nat.add_assoc]; exact hj _ _ e3, by rw [Nat.add_assoc]; exact hj _ _ e4, hb _ (List.getElem_mem hk')⟩
set_option maxHeartbeats 8000000 in
set_option maxRecDepth 100000 in
theorem pieces_same (u v : Value) (ps : List PieceT) (w : World) (hu : Pieces w u ps) (hv : Pieces w v ps) :
    Calls Tryd.prog 14 #[u, v] w fun e w' => e = .returned (.bool true) ∧ Gr w w' := by
  obtain ⟨A, c, rfl, hc, hm, ho⟩ := hu.open
  obtain ⟨A', c', rfl, hc', _, ho'⟩ := hv.open
  have HO := Lib.hid ho; have HO' := Lib.hid ho'
  clear ho ho' hu hv
  go_enter Tryd.func14, Tryd.ntmps14
  go_wp2_with fail
  go_loopw [4, 5, 13] (fun x4 x5 i wr => ∃ k : Nat, k ≤ ps.length ∧ i = .int .i64 k ∧ Gr w wr) (fun _ _ i _ => ps.length - (intOf i).toNat)
  case atStart => exact ⟨0, Nat.zero_le _, rfl, Gr.refl _⟩
  case round =>
    obtain ⟨k, hk, rfl, hG⟩ := hrel
    by_cases hlt : k < ps.length
    · obtain ⟨b1, o1, u1, rfl, c1, c2, c3, c4, hy⟩ := HO.out k hlt
      obtain ⟨b2, o2, u2, rfl, d1, d2, d3, d4, hy'⟩ := HO'.out k hlt
      have t1 := fun i => (hy.gr (Gr.tr hG (gw_gr wr i))).toStr
      have t2 := fun i => (hy'.gr (Gr.tr hG (gw_gr wr i))).toStr
      obtain ⟨A3, n3, rfl, _, _, _⟩ := hy.open
      obtain ⟨A4, n4, rfl, _, _, _⟩ := hy'.open
      clear hy hy'
      have c1 := Gr.cell hG c1
      have c2 := Gr.cell hG c2
      have c3 := Gr.cell hG c3
      have c4 := Gr.cell hG c4
      have d1 := Gr.cell hG d1
      have d2 := Gr.cell hG d2
      have d3 := Gr.cell hG d3
      have d4 := Gr.cell hG d4
      have gc1 := fun i => (gw_gr wr i).cell c1
      have gc2 := fun i => (gw_gr wr i).cell c2
      have gc3 := fun i => (gw_gr wr i).cell c3
      have gc4 := fun i => (gw_gr wr i).cell c4
      have gd1 := fun i => (gw_gr wr i).cell d1
      have gd2 := fun i => (gw_gr wr i).cell d2
      have gd3 := fun i => (gw_gr wr i).cell d3
      have gd4 := fun i => (gw_gr wr i).cell d4
      generalize ps[k] = p at *
      obtain ⟨⟨pf, pt, pn⟩, pb⟩ := p
      simp only at *
      have HG := Lib.hid hG
      clear hG HO HO'
      go_upto_region 6 with fail
      refine wp_region_gw (by kernel_rfl) (by kernel_rfl) ?_
      repeat (first | go_big_quiet_step (fail) | quiet_step (fail))
      refine wpQuiet_nil ?_; intro wq hwq; obtain ⟨iq, rfl⟩ := hwq
      have hGq := gw_gr wr iq
      generalize gw wr iq = wx at *
      go_wp2_with fail
      exact ⟨⟨k + 1, by omega, by go_num, Gr.tr HG.out hGq⟩, by simp [intOf]; omega⟩
    · have hk : k = ps.length := by omega
      subst hk
      go_wp2_with fail
      go_ret
      exact ⟨rfl, hG⟩
end Go.Proofs.YtnmfmcmokdoieaaDoor
