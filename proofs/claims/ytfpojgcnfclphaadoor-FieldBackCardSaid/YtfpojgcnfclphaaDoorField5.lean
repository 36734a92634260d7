/- The values of a name; the fields with, without it. Contracts; at most a million fields. -/
import Derived.Test.YtfpojgcnfclphaaDoorField4
namespace Go.Proofs.YtfpojgcnfclphaaDoor
open Go.RowKit
theorem elemStr : ElemOk Tryd.prog 22 9 (str []) 1 16 := ⟨Tryd.underlying22, by kernel_rfl, rfl, by omega⟩
theorem elemFld : ElemOk Tryd.prog 35 33 (.agg #[str [], str []]) 2 32 := ⟨Tryd.underlying35, by kernel_rfl, rfl, by omega⟩
theorem one_str (l : List UInt8) : ∀ u ∈ [str l], u.oneCell' = true := by intro u hu; simp at hu; subst hu; rfl
theorem one_str2 (l m : List UInt8) : ∀ u ∈ [str l, str m], u.oneCell' = true := by intro u hu; simp at hu; rcases hu with rfl | rfl <;> rfl
theorem own_fld {W0 w : World} {v : Value} {xs : List Fld} {n : Nat} {cs : List Value} (h : Own W0 w 33 2 v n cs) (hn : n = xs.length) (hc : cs = flat2 xs) : Flds w v xs := by
  subst hn hc; exact h.sl (by omega)
theorem own_str {W0 w : World} {v : Value} {xs : List (List UInt8)} {n : Nat} {cs : List Value} (h : Own W0 w 9 1 v n cs) (hn : n = xs.length) (hc : cs = xs.map str) : Strs w v xs := by
  subst hn hc; exact h.sl (by omega)
set_option maxHeartbeats 1000000 in
theorem of_any (u : Value) (xs : List Fld) (n : List UInt8) (w : World) (hu : Flds w u xs) (hs : Short2 xs) (_hn : n.length ≤ 140737488355328) (_hx : xs.length ≤ 1000000) :
    Calls Tryd.prog 26 #[u, str n] w fun e w' => ∃ v, e = .returned v ∧ Strs w' v (ofN xs n) ∧ Gr w w' := by
  obtain ⟨A, c, rfl, hc, hx, hA⟩ := hu.open
  have HA := Lib.hid hA; have HS := Lib.hid hs; clear hA hu hs
  go_enter Tryd.func26, Tryd.ntmps26
  go_wp2_with fail
  go_loopw [5, 7, 10] (fun v x i wr => ∃ (k : Nat), k ≤ xs.length ∧ i = .int .i64 k ∧ Gr w wr ∧ Own w wr 9 1 v (ofN (xs.take k) n).length ((ofN (xs.take k) n).map str)) (fun _ _ i _ => xs.length - (intOf i).toNat)
  case atStart => exact ⟨0, Nat.zero_le _, rfl, Gr.refl _, Own.nil _ _ _ _⟩
  case round =>
    obtain ⟨k, hk, rfl, hG, hown⟩ := hrel
    have HO := Lib.hid hown; clear hown
    by_cases hlt : k < xs.length
    · obtain ⟨b1, o1, rfl, hb1, hc1, hc1'⟩ := HA.out k hlt
      obtain ⟨hB1, hB2⟩ := HS.out.at k hlt
      have hc2 := Gr.cell hG hc1
      have hc2' := Gr.cell hG hc1'
      have hs := Lib.hid (ofN_succ xs n k hlt)
      have hle : (ofN (xs.take k) n).length ≤ 1000000 := by have := ofN_len (xs.take k) n; rw [List.length_take] at this; omega
      clear HA HS
      go_upto_region 5 with fail
      obtain ⟨hGb, cf0, cf1⟩ := box2 wr (str xs[k].1) (str xs[k].2) 33
      have HO := Lib.hid (HO.out.gr hGb)
      have hG := Gr.tr hG hGb
      generalize wr.alloc (Obj.cells #[str xs[k].1, str xs[k].2] 33) = wb at *
      clear hGb hc2 hc2'
      cases ha : alike xs[k].1 n with
      | true =>
        go_wp2_with (first
          | (go_at_call 47; refine (alike_any _ _ _ (by omega) (by omega)).mono ?_; rintro e w1 ⟨rfl, hG1⟩; have cf1 := Gr.cell hG1 cf1)
          | (at_builtin; refine wpList_app1 elemStr rfl _ _ rfl rfl rfl (Gr.tr hG hG1) (HO.out.gr hG1) rfl (one_str _) (by omega) (by omega) ?_; intro v' w' hown' hG'))
        exact ⟨⟨k + 1, by omega, by go_num, hG', by rw [hs.out, ha]; simpa using hown'⟩, by simp [intOf]; omega⟩
      | false =>
        go_wp2_with (go_at_call 47; refine (alike_any _ _ _ (by omega) (by omega)).mono ?_; rintro e w1 ⟨rfl, hG1⟩)
        exact ⟨⟨k + 1, by omega, by go_num, Gr.tr hG hG1, by rw [hs.out, ha]; simpa using HO.out.gr hG1⟩, by simp [intOf]; omega⟩
    · go_wp2_with fail
      go_ret
      exact ⟨_, rfl, own_str HO.out (by rw [List.take_of_length_le (by omega)]) (by rw [List.take_of_length_le (by omega)]), hG⟩
set_option maxHeartbeats 1000000 in
theorem without_any (u : Value) (xs : List Fld) (n : List UInt8) (w : World) (hu : Flds w u xs) (hs : Short2 xs) (_hn : n.length ≤ 140737488355328) (_hx : xs.length ≤ 1000000) :
    Calls Tryd.prog 32 #[u, str n] w fun e w' => ∃ v, e = .returned v ∧ Flds w' v (without xs n) ∧ Gr w w' := by
  obtain ⟨A, c, rfl, hc, hx, hA⟩ := hu.open
  have HA := Lib.hid hA; have HS := Lib.hid hs; clear hA hu hs
  go_enter Tryd.func32, Tryd.ntmps32
  go_wp2_with fail
  go_loopw [5, 7, 10] (fun v x i wr => ∃ (k : Nat), k ≤ xs.length ∧ i = .int .i64 k ∧ Gr w wr ∧ Own w wr 33 2 v (without (xs.take k) n).length (flat2 (without (xs.take k) n))) (fun _ _ i _ => xs.length - (intOf i).toNat)
  case atStart => exact ⟨0, Nat.zero_le _, rfl, Gr.refl _, Own.nil _ _ _ _⟩
  case round =>
    obtain ⟨k, hk, rfl, hG, hown⟩ := hrel
    have HO := Lib.hid hown; clear hown
    by_cases hlt : k < xs.length
    · obtain ⟨b1, o1, rfl, hb1, hc1, hc1'⟩ := HA.out k hlt
      obtain ⟨hB1, hB2⟩ := HS.out.at k hlt
      have hc2 := Gr.cell hG hc1
      have hc2' := Gr.cell hG hc1'
      have hs := Lib.hid (without_succ xs n k hlt)
      have hle : (without (xs.take k) n).length ≤ 1000000 := by have := without_len (xs.take k) n; rw [List.length_take] at this; omega
      clear HA HS
      go_upto_region 5 with fail
      obtain ⟨hGb, cf0, cf1⟩ := box2 wr (str xs[k].1) (str xs[k].2) 33
      have HO := Lib.hid (HO.out.gr hGb)
      have hG := Gr.tr hG hGb
      generalize wr.alloc (Obj.cells #[str xs[k].1, str xs[k].2] 33) = wb at *
      clear hGb hc2 hc2'
      cases ha : alike xs[k].1 n with
      | false =>
        go_wp2_with (first
          | (go_at_call 47; refine (alike_any _ _ _ (by omega) (by omega)).mono ?_; rintro e w1 ⟨rfl, hG1⟩; have cf0 := Gr.cell hG1 cf0; have cf1 := Gr.cell hG1 cf1)
          | (at_builtin; refine wpList_app1 elemFld rfl _ _ rfl rfl rfl (Gr.tr hG hG1) (HO.out.gr hG1) rfl (one_str2 _ _) (by omega) (by omega) ?_; intro v' w' hown' hG'))
        exact ⟨⟨k + 1, by omega, by go_num, hG', by rw [hs.out, ha]; simpa [flat2_append, flat2] using hown'⟩, by simp [intOf]; omega⟩
      | true =>
        go_wp2_with (go_at_call 47; refine (alike_any _ _ _ (by omega) (by omega)).mono ?_; rintro e w1 ⟨rfl, hG1⟩)
        exact ⟨⟨k + 1, by omega, by go_num, Gr.tr hG hG1, by rw [hs.out, ha]; simpa using HO.out.gr hG1⟩, by simp [intOf]; omega⟩
    · go_wp2_with fail
      go_ret
      exact ⟨_, rfl, own_fld HO.out (by rw [List.take_of_length_le (by omega)]) (by rw [List.take_of_length_le (by omega)]), hG⟩
set_option maxHeartbeats 1000000 in
theorem set_any (u : Value) (xs : List Fld) (n val : List UInt8) (w : World) (hu : Flds w u xs) (hs : Short2 xs) (_hn : n.length ≤ 140737488355328) (_hx : xs.length ≤ 1000000) :
    Calls Tryd.prog 30 #[u, str n, str val] w fun e w' => ∃ v, e = .returned v ∧ Flds w' v (setN xs n val) ∧ Gr w w' := by
  obtain ⟨A, c, rfl, hc, hx, hA⟩ := hu.open
  have HA := Lib.hid hA; have HS := Lib.hid hs; clear hA hu hs
  go_enter Tryd.func30, Tryd.ntmps30
  go_wp2_with fail
  go_loopw [7, 8, 10, 13] (fun v s x i wr => ∃ (k : Nat), k ≤ xs.length ∧ i = .int .i64 k ∧ s = .bool (setGo n val (xs.take k)).2 ∧ Gr w wr ∧ Own w wr 33 2 v (setGo n val (xs.take k)).1.length (flat2 (setGo n val (xs.take k)).1)) (fun _ _ _ i _ => xs.length - (intOf i).toNat)
  case atStart => exact ⟨0, Nat.zero_le _, rfl, rfl, Gr.refl _, Own.nil _ _ _ _⟩
  case round =>
    obtain ⟨k, hk, rfl, rfl, hG, hown⟩ := hrel
    have HO := Lib.hid hown; clear hown
    have hle : (setGo n val (xs.take k)).1.length ≤ 1000000 := by have := setGo_len n val (xs.take k); rw [List.length_take] at this; omega
    by_cases hlt : k < xs.length
    · obtain ⟨b1, o1, rfl, hb1, hc1, hc1'⟩ := HA.out k hlt
      obtain ⟨hB1, hB2⟩ := HS.out.at k hlt
      have hc2 := Gr.cell hG hc1
      have hc2' := Gr.cell hG hc1'
      have hs := Lib.hid (setGo_succ n val xs k hlt)
      clear HA HS
      go_upto_region 6 with fail
      obtain ⟨hGb, cf0, cf1⟩ := box2 wr (str xs[k].1) (str xs[k].2) 33
      have HO := Lib.hid (HO.out.gr hGb)
      have hG := Gr.tr hG hGb
      generalize wr.alloc (Obj.cells #[str xs[k].1, str xs[k].2] 33) = wb at *
      clear hGb hc2 hc2'
      cases ha : alike xs[k].1 n with
      | false =>
        go_wp2_with (first
          | (go_at_call 47; refine (alike_any _ _ _ (by omega) (by omega)).mono ?_; rintro e w1 ⟨rfl, hG1⟩; have cf0 := Gr.cell hG1 cf0; have cf1 := Gr.cell hG1 cf1)
          | (at_builtin; refine wpList_app1 elemFld rfl _ _ rfl rfl rfl (Gr.tr hG hG1) (HO.out.gr hG1) rfl (one_str2 _ _) (by omega) (by omega) ?_; intro v' w' hown' hG'))
        exact ⟨⟨k + 1, by omega, by go_num, by rw [hs.out, ha]; rfl, hG', by rw [hs.out, ha]; simpa [flat2_append, flat2] using hown'⟩, by simp [intOf]; omega⟩
      | true =>
        cases ht : (setGo n val (xs.take k)).2 with
        | true =>
          go_wp2_with (go_at_call 47; refine (alike_any _ _ _ (by omega) (by omega)).mono ?_; rintro e w1 ⟨rfl, hG1⟩)
          exact ⟨⟨k + 1, by omega, by go_num, by rw [hs.out, ha, ht]; simp [ht], Gr.tr hG hG1, by rw [hs.out, ha, ht]; simpa using HO.out.gr hG1⟩, by simp [intOf]; omega⟩
        | false =>
          go_wp2_with (first
            | (go_at_call 47; refine (alike_any _ _ _ (by omega) (by omega)).mono ?_; rintro e w1 ⟨rfl, hG1⟩)
            | (at_builtin; refine wpList_app1 elemFld rfl _ _ rfl rfl rfl (Gr.tr hG hG1) (HO.out.gr hG1) rfl (one_str2 _ _) (by omega) (by omega) ?_; intro v' w' hown' hG'))
          exact ⟨⟨k + 1, by omega, by go_num, by rw [hs.out, ha, ht]; rfl, hG', by rw [hs.out, ha, ht]; simpa [flat2_append, flat2] using hown'⟩, by simp [intOf]; omega⟩
    · have hs := Lib.hid (show xs.take k = xs from List.take_of_length_le (by omega))
      clear HA HS
      cases ht : (setGo n val (xs.take k)).2 with
      | true =>
        go_wp2_with fail
        go_ret
        exact ⟨_, rfl, own_fld HO.out (by rw [hs.out] at ht ⊢; unfold setN; rw [ht]; rfl) (by rw [hs.out] at ht ⊢; unfold setN; rw [ht]; rfl), hG⟩
      | false =>
        go_wp2_with (at_builtin; refine wpList_app1 elemFld rfl _ _ rfl rfl rfl hG HO.out rfl (one_str2 _ _) (by omega) (by omega) ?_; intro v' w' hown' hG')
        go_ret
        exact ⟨_, rfl, own_fld hown' (by rw [hs.out] at ht ⊢; unfold setN; rw [ht]; simp) (by rw [hs.out] at ht ⊢; unfold setN; rw [ht]; simp [flat2]), hG'⟩
set_option maxHeartbeats 1000000 in
theorem refOf_any (u : Value) (xs : List Fld) (n : List UInt8) (w : World) (hu : Flds w u xs) (hs : Short2 xs) (_hn : n.length ≤ 140737488355328) (_hx : xs.length ≤ 1000000) :
    Calls Tryd.prog 27 #[u, str n] w fun e w' => ∃ v, e = .returned v ∧ Strs w' v (ofN xs n) ∧ Gr w w' := by
  obtain ⟨A, c, rfl, hc, hx, hA⟩ := hu.open
  have HA := Lib.hid hA; have HS := Lib.hid hs; clear hA hu hs
  go_enter Tryd.func27, Tryd.ntmps27
  go_wp2_with fail
  go_loopw [5, 7, 10] (fun v x i wr => ∃ (k : Nat), k ≤ xs.length ∧ i = .int .i64 k ∧ Gr w wr ∧ Own w wr 9 1 v (ofN (xs.take k) n).length ((ofN (xs.take k) n).map str)) (fun _ _ i _ => xs.length - (intOf i).toNat)
  case atStart => exact ⟨0, Nat.zero_le _, rfl, Gr.refl _, Own.nil _ _ _ _⟩
  case round =>
    obtain ⟨k, hk, rfl, hG, hown⟩ := hrel
    have HO := Lib.hid hown; clear hown
    by_cases hlt : k < xs.length
    · obtain ⟨b1, o1, rfl, hb1, hc1, hc1'⟩ := HA.out k hlt
      obtain ⟨hB1, hB2⟩ := HS.out.at k hlt
      have hc2 := Gr.cell hG hc1
      have hc2' := Gr.cell hG hc1'
      have hs := Lib.hid (ofN_succ xs n k hlt)
      have hle : (ofN (xs.take k) n).length ≤ 1000000 := by have := ofN_len (xs.take k) n; rw [List.length_take] at this; omega
      clear HA HS
      go_upto_region 5 with fail
      obtain ⟨hGb, cf0, cf1⟩ := box2 wr (str xs[k].1) (str xs[k].2) 33
      have HO := Lib.hid (HO.out.gr hGb)
      have hG := Gr.tr hG hGb
      generalize wr.alloc (Obj.cells #[str xs[k].1, str xs[k].2] 33) = wb at *
      clear hGb hc2 hc2'
      cases ha : alike xs[k].1 n with
      | true =>
        go_wp2_with (first
          | (go_at_call 48; refine (refAlike_any _ _ _ (by omega) (by omega)).mono ?_; rintro e w1 ⟨rfl, hG1⟩; have cf1 := Gr.cell hG1 cf1)
          | (at_builtin; refine wpList_app1 elemStr rfl _ _ rfl rfl rfl (Gr.tr hG hG1) (HO.out.gr hG1) rfl (one_str _) (by omega) (by omega) ?_; intro v' w' hown' hG'))
        exact ⟨⟨k + 1, by omega, by go_num, hG', by rw [hs.out, ha]; simpa using hown'⟩, by simp [intOf]; omega⟩
      | false =>
        go_wp2_with (go_at_call 48; refine (refAlike_any _ _ _ (by omega) (by omega)).mono ?_; rintro e w1 ⟨rfl, hG1⟩)
        exact ⟨⟨k + 1, by omega, by go_num, Gr.tr hG hG1, by rw [hs.out, ha]; simpa using HO.out.gr hG1⟩, by simp [intOf]; omega⟩
    · go_wp2_with fail
      go_ret
      exact ⟨_, rfl, own_str HO.out (by rw [List.take_of_length_le (by omega)]) (by rw [List.take_of_length_le (by omega)]), hG⟩
set_option maxHeartbeats 1000000 in
theorem refWithout_any (u : Value) (xs : List Fld) (n : List UInt8) (w : World) (hu : Flds w u xs) (hs : Short2 xs) (_hn : n.length ≤ 140737488355328) (_hx : xs.length ≤ 1000000) :
    Calls Tryd.prog 33 #[u, str n] w fun e w' => ∃ v, e = .returned v ∧ Flds w' v (without xs n) ∧ Gr w w' := by
  obtain ⟨A, c, rfl, hc, hx, hA⟩ := hu.open
  have HA := Lib.hid hA; have HS := Lib.hid hs; clear hA hu hs
  go_enter Tryd.func33, Tryd.ntmps33
  go_wp2_with fail
  go_loopw [5, 7, 10] (fun v x i wr => ∃ (k : Nat), k ≤ xs.length ∧ i = .int .i64 k ∧ Gr w wr ∧ Own w wr 33 2 v (without (xs.take k) n).length (flat2 (without (xs.take k) n))) (fun _ _ i _ => xs.length - (intOf i).toNat)
  case atStart => exact ⟨0, Nat.zero_le _, rfl, Gr.refl _, Own.nil _ _ _ _⟩
  case round =>
    obtain ⟨k, hk, rfl, hG, hown⟩ := hrel
    have HO := Lib.hid hown; clear hown
    by_cases hlt : k < xs.length
    · obtain ⟨b1, o1, rfl, hb1, hc1, hc1'⟩ := HA.out k hlt
      obtain ⟨hB1, hB2⟩ := HS.out.at k hlt
      have hc2 := Gr.cell hG hc1
      have hc2' := Gr.cell hG hc1'
      have hs := Lib.hid (without_succ xs n k hlt)
      have hle : (without (xs.take k) n).length ≤ 1000000 := by have := without_len (xs.take k) n; rw [List.length_take] at this; omega
      clear HA HS
      go_upto_region 5 with fail
      obtain ⟨hGb, cf0, cf1⟩ := box2 wr (str xs[k].1) (str xs[k].2) 33
      have HO := Lib.hid (HO.out.gr hGb)
      have hG := Gr.tr hG hGb
      generalize wr.alloc (Obj.cells #[str xs[k].1, str xs[k].2] 33) = wb at *
      clear hGb hc2 hc2'
      cases ha : alike xs[k].1 n with
      | false =>
        go_wp2_with (first
          | (go_at_call 48; refine (refAlike_any _ _ _ (by omega) (by omega)).mono ?_; rintro e w1 ⟨rfl, hG1⟩; have cf0 := Gr.cell hG1 cf0; have cf1 := Gr.cell hG1 cf1)
          | (at_builtin; refine wpList_app1 elemFld rfl _ _ rfl rfl rfl (Gr.tr hG hG1) (HO.out.gr hG1) rfl (one_str2 _ _) (by omega) (by omega) ?_; intro v' w' hown' hG'))
        exact ⟨⟨k + 1, by omega, by go_num, hG', by rw [hs.out, ha]; simpa [flat2_append, flat2] using hown'⟩, by simp [intOf]; omega⟩
      | true =>
        go_wp2_with (go_at_call 48; refine (refAlike_any _ _ _ (by omega) (by omega)).mono ?_; rintro e w1 ⟨rfl, hG1⟩)
        exact ⟨⟨k + 1, by omega, by go_num, Gr.tr hG hG1, by rw [hs.out, ha]; simpa using HO.out.gr hG1⟩, by simp [intOf]; omega⟩
    · go_wp2_with fail
      go_ret
      exact ⟨_, rfl, own_fld HO.out (by rw [List.take_of_length_le (by omega)]) (by rw [List.take_of_length_le (by omega)]), hG⟩
set_option maxHeartbeats 1000000 in
theorem refSet_any (u : Value) (xs : List Fld) (n val : List UInt8) (w : World) (hu : Flds w u xs) (hs : Short2 xs) (_hn : n.length ≤ 140737488355328) (_hx : xs.length ≤ 1000000) :
    Calls Tryd.prog 31 #[u, str n, str val] w fun e w' => ∃ v, e = .returned v ∧ Flds w' v (setN xs n val) ∧ Gr w w' := by
  obtain ⟨A, c, rfl, hc, hx, hA⟩ := hu.open
  have HA := Lib.hid hA; have HS := Lib.hid hs; clear hA hu hs
  go_enter Tryd.func31, Tryd.ntmps31
  go_wp2_with fail
  go_loopw [7, 8, 10, 13] (fun v s x i wr => ∃ (k : Nat), k ≤ xs.length ∧ i = .int .i64 k ∧ s = .bool (setGo n val (xs.take k)).2 ∧ Gr w wr ∧ Own w wr 33 2 v (setGo n val (xs.take k)).1.length (flat2 (setGo n val (xs.take k)).1)) (fun _ _ _ i _ => xs.length - (intOf i).toNat)
  case atStart => exact ⟨0, Nat.zero_le _, rfl, rfl, Gr.refl _, Own.nil _ _ _ _⟩
  case round =>
    obtain ⟨k, hk, rfl, rfl, hG, hown⟩ := hrel
    have HO := Lib.hid hown; clear hown
    have hle : (setGo n val (xs.take k)).1.length ≤ 1000000 := by have := setGo_len n val (xs.take k); rw [List.length_take] at this; omega
    by_cases hlt : k < xs.length
    · obtain ⟨b1, o1, rfl, hb1, hc1, hc1'⟩ := HA.out k hlt
      obtain ⟨hB1, hB2⟩ := HS.out.at k hlt
      have hc2 := Gr.cell hG hc1
      have hc2' := Gr.cell hG hc1'
      have hs := Lib.hid (setGo_succ n val xs k hlt)
      clear HA HS
      go_upto_region 6 with fail
      obtain ⟨hGb, cf0, cf1⟩ := box2 wr (str xs[k].1) (str xs[k].2) 33
      have HO := Lib.hid (HO.out.gr hGb)
      have hG := Gr.tr hG hGb
      generalize wr.alloc (Obj.cells #[str xs[k].1, str xs[k].2] 33) = wb at *
      clear hGb hc2 hc2'
      cases ha : alike xs[k].1 n with
      | false =>
        go_wp2_with (first
          | (go_at_call 48; refine (refAlike_any _ _ _ (by omega) (by omega)).mono ?_; rintro e w1 ⟨rfl, hG1⟩; have cf0 := Gr.cell hG1 cf0; have cf1 := Gr.cell hG1 cf1)
          | (at_builtin; refine wpList_app1 elemFld rfl _ _ rfl rfl rfl (Gr.tr hG hG1) (HO.out.gr hG1) rfl (one_str2 _ _) (by omega) (by omega) ?_; intro v' w' hown' hG'))
        exact ⟨⟨k + 1, by omega, by go_num, by rw [hs.out, ha]; rfl, hG', by rw [hs.out, ha]; simpa [flat2_append, flat2] using hown'⟩, by simp [intOf]; omega⟩
      | true =>
        cases ht : (setGo n val (xs.take k)).2 with
        | true =>
          go_wp2_with (go_at_call 48; refine (refAlike_any _ _ _ (by omega) (by omega)).mono ?_; rintro e w1 ⟨rfl, hG1⟩)
          exact ⟨⟨k + 1, by omega, by go_num, by rw [hs.out, ha, ht]; simp [ht], Gr.tr hG hG1, by rw [hs.out, ha, ht]; simpa using HO.out.gr hG1⟩, by simp [intOf]; omega⟩
        | false =>
          go_wp2_with (first
            | (go_at_call 48; refine (refAlike_any _ _ _ (by omega) (by omega)).mono ?_; rintro e w1 ⟨rfl, hG1⟩)
            | (at_builtin; refine wpList_app1 elemFld rfl _ _ rfl rfl rfl (Gr.tr hG hG1) (HO.out.gr hG1) rfl (one_str2 _ _) (by omega) (by omega) ?_; intro v' w' hown' hG'))
          exact ⟨⟨k + 1, by omega, by go_num, by rw [hs.out, ha, ht]; rfl, hG', by rw [hs.out, ha, ht]; simpa [flat2_append, flat2] using hown'⟩, by simp [intOf]; omega⟩
    · have hs := Lib.hid (show xs.take k = xs from List.take_of_length_le (by omega))
      clear HA HS
      cases ht : (setGo n val (xs.take k)).2 with
      | true =>
        go_wp2_with fail
        go_ret
        exact ⟨_, rfl, own_fld HO.out (by rw [hs.out] at ht ⊢; unfold setN; rw [ht]; rfl) (by rw [hs.out] at ht ⊢; unfold setN; rw [ht]; rfl), hG⟩
      | false =>
        go_wp2_with (at_builtin; refine wpList_app1 elemFld rfl _ _ rfl rfl rfl hG HO.out rfl (one_str2 _ _) (by omega) (by omega) ?_; intro v' w' hown' hG')
        go_ret
        exact ⟨_, rfl, own_fld hown' (by rw [hs.out] at ht ⊢; unfold setN; rw [ht]; simp) (by rw [hs.out] at ht ⊢; unfold setN; rw [ht]; simp [flat2]), hG'⟩
theorem ofN_nil_step (l : List Fld) (n : List UInt8) (k : Nat) (h : k < l.length) (h0 : ofN (l.take k) n = []) (ha : alike l[k].1 n = false) : ofN (l.take (k + 1)) n = [] := by
  rw [ofN_succ l n k h, h0, ha]; rfl
theorem getN_hit (l : List Fld) (n : List UInt8) (k : Nat) (h : k < l.length) (h0 : ofN (l.take k) n = []) (ha : alike l[k].1 n = true) : getN l n = (l[k].2, true) := by
  unfold getN
  have e : ofN l n = l[k].2 :: ofN (l.drop (k + 1)) n := by
    have hl : l = l.take k ++ l[k] :: l.drop (k + 1) := by
      rw [← List.drop_eq_getElem_cons h, List.take_append_drop]
    conv => lhs; rw [hl]
    unfold ofN at *
    rw [List.filter_append, List.map_append, h0, List.filter_cons, ha]
    rfl
  rw [e]
theorem getN_none (l : List Fld) (n : List UInt8) (k : Nat) (h : ¬ k < l.length) (h0 : ofN (l.take k) n = []) : getN l n = ([], false) := by
  rw [List.take_of_length_le (by omega)] at h0
  unfold getN; rw [h0]
set_option maxHeartbeats 1000000 in
theorem get_any (u : Value) (xs : List Fld) (n : List UInt8) (w : World) (hu : Flds w u xs) (hs : Short2 xs) (_hn : n.length ≤ 140737488355328) :
    Calls Tryd.prog 24 #[u, str n] w fun e w' => e = .returned (.tuple #[str (getN xs n).1, .bool (getN xs n).2]) ∧ Gr w w' := by
  obtain ⟨A, c, rfl, hc, hx, hA⟩ := hu.open
  have HA := Lib.hid hA; have HS := Lib.hid hs; clear hA hu hs
  go_enter Tryd.func24, Tryd.ntmps24
  go_wp2_with fail
  go_loopw [4, 5, 7, 10] (fun r s x i wr => ∃ (k : Nat), k ≤ xs.length ∧ i = .int .i64 k ∧ Gr w wr ∧ ofN (xs.take k) n = []) (fun _ _ _ i _ => xs.length - (intOf i).toNat)
  case atStart => exact ⟨0, Nat.zero_le _, rfl, Gr.refl _, rfl⟩
  case round =>
    obtain ⟨k, hk, rfl, hG, hE⟩ := hrel
    have HE := Lib.hid hE; clear hE
    by_cases hlt : k < xs.length
    · obtain ⟨b1, o1, rfl, hb1, hc1, hc1'⟩ := HA.out k hlt
      obtain ⟨hB1, hB2⟩ := HS.out.at k hlt
      have hc2 := Gr.cell hG hc1
      have hc2' := Gr.cell hG hc1'
      clear HA HS
      go_upto_region 4 with fail
      obtain ⟨hGb, cf0, cf1⟩ := box2 wr (str xs[k].1) (str xs[k].2) 33
      have hG := Gr.tr hG hGb
      generalize wr.alloc (Obj.cells #[str xs[k].1, str xs[k].2] 33) = wb at *
      clear hGb hc2 hc2'
      cases ha : alike xs[k].1 n with
      | true =>
        have hg := Lib.hid (getN_hit xs n k hlt HE.out ha)
        go_wp2_with (go_at_call 47; refine (alike_any _ _ _ (by omega) (by omega)).mono ?_; rintro e w1 ⟨rfl, hG1⟩; have cf1 := Gr.cell hG1 cf1)
        go_ret2
        exact ⟨by rw [hg.out]; rfl, Gr.tr hG hG1⟩
      | false =>
        go_wp2_with (go_at_call 47; refine (alike_any _ _ _ (by omega) (by omega)).mono ?_; rintro e w1 ⟨rfl, hG1⟩)
        exact ⟨⟨k + 1, by omega, by go_num, Gr.tr hG hG1, ofN_nil_step xs n k hlt HE.out ha⟩, by simp [intOf]; omega⟩
    · have hg := Lib.hid (getN_none xs n k hlt HE.out)
      go_wp2_with fail
      go_ret2
      exact ⟨by rw [hg.out]; rfl, hG⟩
set_option maxHeartbeats 1000000 in
theorem refGet_any (u : Value) (xs : List Fld) (n : List UInt8) (w : World) (hu : Flds w u xs) (hs : Short2 xs) (_hn : n.length ≤ 140737488355328) (_hx : xs.length ≤ 1000000) :
    Calls Tryd.prog 25 #[u, str n] w fun e w' => e = .returned (.tuple #[str (getN xs n).1, .bool (getN xs n).2]) ∧ Gr w w' := by
  have HC := Lib.hid (refOf_any u xs n w hu hs _hn _hx)
  clear hu hs
  go_enter Tryd.func25, Tryd.ntmps25
  go_wp2_with fail
  refine HC.out.mono ?_
  rintro e w1 ⟨v, rfl, hv, hG1⟩
  obtain ⟨A, c, rfl, hc, hx, hA⟩ := hv.open
  have HA := Lib.hid hA; clear hA hv HC
  cases ho : ofN xs n with
  | nil =>
    have hg : getN xs n = ([], false) := by unfold getN; rw [ho]
    have HG := Lib.hid hg; clear hg
    go_wp2_with fail
    go_ret2
    exact ⟨by rw [HG.out]; rfl, hG1⟩
  | cons v0 r =>
    have hg : getN xs n = (v0, true) := by unfold getN; rw [ho]
    have HG := Lib.hid hg; clear hg
    rw [ho] at HA
    obtain ⟨b, o, rfl, hb, hc0⟩ := HA.out 0 (by simp)
    simp only [Nat.add_zero, List.getElem_cons_zero] at hc0
    have h0 : (((r.length : Int) + 1) == 0) = false := by rw [beq_eq_false_iff_ne]; omega
    have h1 : (0 : Int) < (r.length : Int) + 1 := by omega
    clear HA ho
    go_wp2_with fail
    go_ret2
    exact ⟨by rw [HG.out]; rfl, hG1⟩
end Go.Proofs.YtfpojgcnfclphaaDoor
