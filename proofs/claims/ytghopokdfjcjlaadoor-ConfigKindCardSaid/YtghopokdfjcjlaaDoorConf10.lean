/- Layer 39: sizes, as the document writes and reads them; configurations compared. No conditions. -/
import Derived.Test.YtghopokdfjcjlaaDoorConf7
import Derived.Test.YtghopokdfjcjlaaDoorConf8
namespace Go.Proofs.YtghopokdfjcjlaaDoor
open Go.RowKit
theorem refDigits39_int (x : Int) (w : World) (h0 : 0 ≤ x) (h1 : x ≤ 9223372036854775807) : Calls Tryd.prog 25 #[.int .i64 x] w fun e w' => e = .returned (str (Lib.itoa x)) ∧ Gr w w' := by
  obtain ⟨m, rfl⟩ : ∃ m : Nat, x = m := ⟨x.toNat, by omega⟩
  rw [itoa_nat]
  exact refDigits39_any m w (by omega)
theorem itoa_zero : Lib.itoa 0 = [48] := by
  rw [show (0 : Int) = ((0 : Nat) : Int) from rfl, itoa_nat, Lib.decDigits, dif_pos (by omega)]; rfl
set_option maxHeartbeats 4000000 in
theorem refSized39_any (n : Int) (w : World) (h1 : n ≤ 9223372036854775807) : Calls Tryd.prog 14 #[.int .i64 n] w fun e w' => e = .returned (str (sizedL n)) ∧ Gr w w' := by
  by_cases hn : n < 0
  · have k1 : decide (n < 0) = true := decide_eq_true hn
    have HS := Lib.hid (sized_neg hn)
    go_enter Tryd.func14, Tryd.ntmps14
    go_wp2_with fail
    go_ret
    exact ⟨by rw [HS.out]; rfl, Gr.refl _⟩
  · have k1 : decide (n < 0) = false := decide_eq_false hn
    obtain ⟨m, rfl⟩ : ∃ m : Nat, n = m := ⟨n.toNat, by omega⟩
    have l1 : (Lib.itoa ((m : Int) / 1073741824)).length ≤ 19 := itoa_div (m := m) (k := 1073741824) (by omega) (by omega)
    have l2 : (Lib.itoa ((m : Int) / 1048576)).length ≤ 19 := itoa_div (m := m) (k := 1048576) (by omega) (by omega)
    have l3 : (Lib.itoa ((m : Int) / 1024)).length ≤ 19 := itoa_div (m := m) (k := 1024) (by omega) (by omega)
    clear hn
    go_enter Tryd.func14, Tryd.ntmps14
    go_wp2_with fail
    have hGw : Gr w (w.alloc (Obj.cells #[.int .i64 1073741824, .int .i64 1048576, .int .i64 1024] 2)) := Gr.al (Gr.refl w) _
    have hb := Bk.new w 2 #[.int .i64 1073741824, .int .i64 1048576, .int .i64 1024] (0, 0)
    generalize w.alloc (Obj.cells #[.int .i64 1073741824, .int .i64 1048576, .int .i64 1024] 2) = w1 at *
    generalize w.heap.size = g at *
    have b0 : w1.cell? ⟨g, 0, none⟩ = some (.int .i64 1073741824) := hb.cell 0
    have b1 : w1.cell? ⟨g, 1, none⟩ = some (.int .i64 1048576) := hb.cell 1
    have b2 : w1.cell? ⟨g, 2, none⟩ = some (.int .i64 1024) := hb.cell 2
    have HGw := Lib.hid hGw
    clear hGw hb
    by_cases hz : m = 0
    · subst hz
      go_loop [9] (fun i => ∃ k : Nat, k ≤ 3 ∧ i = .int .i64 k) (fun i => 3 - (intOf i).toNat)
      case atStart => exact ⟨0, by omega, rfl⟩
      case round =>
        obtain ⟨k, hk, rfl⟩ := hrel
        obtain rfl | rfl | rfl | rfl : k = 0 ∨ k = 1 ∨ k = 2 ∨ k = 3 := by omega
        · go_wp2_with fail
          exact ⟨⟨1, by omega, rfl⟩, by simp [intOf]⟩
        · go_wp2_with fail
          exact ⟨⟨2, by omega, rfl⟩, by simp [intOf]⟩
        · go_wp2_with fail
          exact ⟨⟨3, by omega, rfl⟩, by simp [intOf]⟩
        · go_wp2_with (go_at_call 25; refine (refDigits39_int 0 _ (by omega) (by omega)).mono ?_; rintro e w2 ⟨rfl, hG⟩)
          go_ret
          exact ⟨by show Ending.returned (str (Lib.itoa 0)) = _; rw [itoa_zero]; rfl, Gr.tr HGw.out hG⟩
    · have hm : 0 < m := by omega
      have k2 : decide (0 < (m : Int)) = true := decide_eq_true (by omega)
      clear hz
      go_loop [9] (fun i => ∃ k : Nat, k ≤ 3 ∧ i = .int .i64 k ∧ (0 < k → ¬ (m : Int) % 1073741824 = 0) ∧ (1 < k → ¬ (m : Int) % 1048576 = 0) ∧ (2 < k → ¬ (m : Int) % 1024 = 0)) (fun i => 3 - (intOf i).toNat)
      case atStart => exact ⟨0, by omega, rfl, by omega, by omega, by omega⟩
      case round =>
        obtain ⟨k, hk, rfl, r1, r2, r3⟩ := hrel
        have R1 := Lib.hid r1
        have R2 := Lib.hid r2
        have R3 := Lib.hid r3
        clear r1 r2 r3
        obtain rfl | rfl | rfl | rfl : k = 0 ∨ k = 1 ∨ k = 2 ∨ k = 3 := by omega
        · by_cases g1 : (m : Int) % 1073741824 = 0
          · have HS := Lib.hid (sized_g hm g1)
            have e1 : ((m : Int) % 1073741824 == 0) = true := by simpa using g1
            clear g1
            go_upto_region 7 with fail
            refine wp_region_gw (by kernel_rfl) (by kernel_rfl) ?_
            repeat (first | go_big_quiet_step ((go_at_call 25; exact gw_call (refDigits39_int _ _ (by omega) (by omega)))) | quiet_step ((go_at_call 25; exact gw_call (refDigits39_int _ _ (by omega) (by omega)))))
            refine wpQuiet_nil ?_; intro wq hwq; obtain ⟨iq, rfl⟩ := hwq
            go_wp2_with fail
            go_ret
            exact ⟨by rw [HS.out]; rfl, Gr.tr HGw.out (gw_gr _ _)⟩
          · have e1 : ((m : Int) % 1073741824 == 0) = false := by simpa using g1
            go_wp2_with fail
            exact ⟨⟨1, by omega, rfl, fun _ => g1, fun h => by omega, fun h => by omega⟩, by simp [intOf]⟩
        · by_cases g1 : (m : Int) % 1048576 = 0
          · have HS := Lib.hid (sized_m hm (R1.out (by omega)) g1)
            have e1 : ((m : Int) % 1048576 == 0) = true := by simpa using g1
            clear g1
            go_upto_region 7 with fail
            refine wp_region_gw (by kernel_rfl) (by kernel_rfl) ?_
            repeat (first | go_big_quiet_step ((go_at_call 25; exact gw_call (refDigits39_int _ _ (by omega) (by omega)))) | quiet_step ((go_at_call 25; exact gw_call (refDigits39_int _ _ (by omega) (by omega)))))
            refine wpQuiet_nil ?_; intro wq hwq; obtain ⟨iq, rfl⟩ := hwq
            go_wp2_with fail
            go_ret
            exact ⟨by rw [HS.out]; rfl, Gr.tr HGw.out (gw_gr _ _)⟩
          · have e1 : ((m : Int) % 1048576 == 0) = false := by simpa using g1
            go_wp2_with fail
            exact ⟨⟨2, by omega, rfl, fun _ => R1.out (by omega), fun _ => g1, fun h => by omega⟩, by simp [intOf]⟩
        · by_cases g1 : (m : Int) % 1024 = 0
          · have HS := Lib.hid (sized_k hm (R1.out (by omega)) (R2.out (by omega)) g1)
            have e1 : ((m : Int) % 1024 == 0) = true := by simpa using g1
            clear g1
            go_upto_region 7 with fail
            refine wp_region_gw (by kernel_rfl) (by kernel_rfl) ?_
            repeat (first | go_big_quiet_step ((go_at_call 25; exact gw_call (refDigits39_int _ _ (by omega) (by omega)))) | quiet_step ((go_at_call 25; exact gw_call (refDigits39_int _ _ (by omega) (by omega)))))
            refine wpQuiet_nil ?_; intro wq hwq; obtain ⟨iq, rfl⟩ := hwq
            go_wp2_with fail
            go_ret
            exact ⟨by rw [HS.out]; rfl, Gr.tr HGw.out (gw_gr _ _)⟩
          · have e1 : ((m : Int) % 1024 == 0) = false := by simpa using g1
            go_wp2_with fail
            exact ⟨⟨3, by omega, rfl, fun _ => R1.out (by omega), fun _ => R2.out (by omega), fun _ => g1⟩, by simp [intOf]⟩
        · have HS := Lib.hid (sized_n hm (R1.out (by omega)) (R2.out (by omega)) (R3.out (by omega)))
          go_wp2_with (go_at_call 25; refine (refDigits39_int _ _ (by omega) (by omega)).mono ?_; rintro e w2 ⟨rfl, hG⟩)
          go_ret
          exact ⟨by rw [HS.out]; rfl, Gr.tr HGw.out hG⟩
set_option maxHeartbeats 4000000 in
theorem refNumber39_any (s : List UInt8) (w : World) (hs : s.length ≤ 9223372036854775807) : Calls Tryd.prog 41 #[str s] w fun e w' => e = .returned (optV (numberL s)) ∧ w' = w := by
  go_enter Tryd.func41, Tryd.ntmps41
  go_wp2_with fail
  go_loop [4, 5] (fun n i => ∃ k : Nat, k ≤ s.length ∧ k ≤ 18 ∧ i = .int .i64 k ∧ n = .int .i64 (numB (s.take k) : Nat) ∧ (s.take k).all digC = true) (fun _ i => s.length - (intOf i).toNat)
  case atStart => exact ⟨0, Nat.zero_le _, by omega, rfl, rfl, rfl⟩
  case round =>
    obtain ⟨k, hk, hk18, rfl, rfl, hE⟩ := hrel
    have HE := Lib.hid hE
    by_cases hlt : k < s.length
    · have hx : s[k].toNat ≤ 255 := by have := s[k].toNat_lt; omega
      by_cases c1 : s[k].toNat < 48
      · have HN := Lib.hid (numberL_no hlt (digC_no s[k] (by omega)))
        clear hE
        have ddlt48 : decide (((s[k].toNat : Nat) : Int) < 48) = true := decide_eq_true (by omega)
        have ddgt57 : decide (57 < ((s[k].toNat : Nat) : Int)) = false := decide_eq_false (by omega)
        go_wp2_with fail
        go_ret2
        exact ⟨by rw [HN.out]; rfl, rfl⟩
      · by_cases c2 : 57 < s[k].toNat
        · have HN := Lib.hid (numberL_no hlt (digC_no s[k] (by omega)))
          clear hE
          have ddlt48 : decide (((s[k].toNat : Nat) : Int) < 48) = false := decide_eq_false (by omega)
          have ddgt57 : decide (57 < ((s[k].toNat : Nat) : Int)) = true := decide_eq_true (by omega)
          go_wp2_with fail
          go_ret2
          exact ⟨by rw [HN.out]; rfl, rfl⟩
        · by_cases c3 : k = 18
          · have HN := Lib.hid (show numberL s = none from by unfold numberL; rw [if_neg (by omega)])
            have k3 : decide (18 ≤ (k : Int)) = true := decide_eq_true (by omega)
            clear hE c3
            have ddlt48 : decide (((s[k].toNat : Nat) : Int) < 48) = false := decide_eq_false (by omega)
            have ddgt57 : decide (57 < ((s[k].toNat : Nat) : Int)) = false := decide_eq_false (by omega)
            go_wp2_with fail
            go_ret2
            exact ⟨by rw [HN.out]; rfl, rfl⟩
          · have k3 : decide (18 ≤ (k : Int)) = false := decide_eq_false (by omega)
            have hb := numB_lt (s.take k) hE
            rw [List.length_take, Nat.min_eq_left hk] at hb
            have hp := pow18 k (by omega)
            have HS := Lib.hid (numB_succ s k hlt)
            have HD := Lib.hid (digC_yes s[k] (by omega))
            clear hE
            have ddlt48 : decide (((s[k].toNat : Nat) : Int) < 48) = false := decide_eq_false (by omega)
            have ddgt57 : decide (57 < ((s[k].toNat : Nat) : Int)) = false := decide_eq_false (by omega)
            generalize numB (s.take k) = N at *
            have e1 : IntKind.i64.wrap ((N : Int) * 10) = (N : Int) * 10 := IntWalk.i64_in _ (by omega)
            have e2 : IntKind.u8.wrap ((s[k].toNat : Int) - 48) = (s[k].toNat : Int) - 48 := by rw [IntKind.wrap_u8]; omega
            have e3 : IntKind.i64.wrap ((N : Int) * 10 + ((s[k].toNat : Int) - 48)) = (N : Int) * 10 + ((s[k].toNat : Int) - 48) := IntWalk.i64_in _ (by omega)
            go_wp2_with fail
            exact ⟨⟨k + 1, by omega, by omega, by go_num, by rw [HS.out]; go_num, all_take_succ _ s k hlt HE.out HD.out⟩, by simp [intOf]; omega⟩
    · obtain rfl : k = s.length := by omega
      rw [List.take_length] at hE HE ⊢
      by_cases h0 : s.length = 0
      · obtain rfl := List.eq_nil_of_length_eq_zero h0
        go_wp2_with fail
        go_ret2
        exact ⟨rfl, rfl⟩
      · have HN := Lib.hid (show numberL s = some (numB s) from by unfold numberL; rw [if_pos ⟨by omega, by omega, hE⟩])
        have k4 : decide (0 < (s.length : Int)) = true := decide_eq_true (by omega)
        have k5 : decide (0 < s.length) = true := decide_eq_true (by omega)
        clear hE
        go_wp2_with fail
        go_ret2
        exact ⟨by rw [HN.out]; rfl, rfl⟩
theorem rnum_none {s : List UInt8} (h : numberL s = none) (w : World) (hs : s.length ≤ 9223372036854775807) : Calls Tryd.prog 41 #[str s] w fun e w' => e = .returned (.tuple #[.int .i64 0, .bool false]) ∧ w' = w :=
  (refNumber39_any s w hs).mono fun e w' ⟨h1, h2⟩ => ⟨by rw [h1, h]; rfl, h2⟩
theorem rnum_some {s : List UInt8} {n : Nat} (h : numberL s = some n) (w : World) (hs : s.length ≤ 9223372036854775807) : Calls Tryd.prog 41 #[str s] w fun e w' => e = .returned (.tuple #[.int .i64 n, .bool true]) ∧ w' = w :=
  (refNumber39_any s w hs).mono fun e w' ⟨h1, h2⟩ => ⟨by rw [h1, h]; rfl, h2⟩
theorem drop_snoc (t : List UInt8) (c : UInt8) : (t ++ [c]).drop t.length = [c] := by simp
theorem takeL_snoc (t : List UInt8) (c : UInt8) : (t ++ [c]).take t.length = t := by simp
set_option maxHeartbeats 8000000 in
set_option maxRecDepth 100000 in
theorem refKind39_any (s : List UInt8) (w : World) (hs : s.length ≤ 9223372036854775806) : Calls Tryd.prog 27 #[str s] w fun e w' => e = .returned (optV (kindL s)) ∧ Gr w w' := by
  rcases nil_or_snoc s with rfl | ⟨t, c, rfl⟩
  · go_enter Tryd.func27, Tryd.ntmps27
    go_wp2_with (go_at_call 41; refine (rnum_none rfl _ (by simp)).mono ?_; rintro e w1 ⟨rfl, rfl⟩)
    go_ret2
    exact ⟨rfl, Gr.refl _⟩
  · simp only [List.length_append, List.length_cons, List.length_nil] at hs
    have hdr := drop_snoc t c
    have htk := takeL_snoc t c
    have hdr1 : (t ++ [c]).drop ((t ++ [c]).length - 1) = [c] := by simp
    by_cases c1 : c = 107
    · subst c1
      have hu : unitL (t ++ [107]) = 1024 := by unfold unitL; rw [List.getLast?_concat]; simp
      have hsub : (if unitL (t ++ [107]) = 1 then t ++ [107] else (t ++ [107]).dropLast) = t := by rw [hu]; simp
      have HKN := Lib.hid (fun h => kind_none (s := t ++ [107]) (by rw [hsub]; exact h))
      have HKS := Lib.hid (fun (n : Nat) h => kind_some (s := t ++ [107]) (n := n) (by rw [hsub]; exact h))
      rw [hu] at HKS
      clear hu hsub
      go_enter Tryd.func27, Tryd.ntmps27
      go_wp2_with fail
      have hGw : Gr w (w.alloc (Obj.cells #[.int .i64 1024, .int .i64 1048576, .int .i64 1073741824] 2)) := Gr.al (Gr.refl w) _
      have hb := Bk.new w 2 #[.int .i64 1024, .int .i64 1048576, .int .i64 1073741824] (0, 0)
      generalize w.alloc (Obj.cells #[.int .i64 1024, .int .i64 1048576, .int .i64 1073741824] 2) = w1 at *
      generalize w.heap.size = g at *
      have HGw := Lib.hid hGw
      have HB := Lib.hid hb
      clear hGw hb
      go_loopw [4, 14] (fun u i wr => ∃ k : Nat, k ≤ 3 ∧ i = .int .i64 k ∧ u = .int .i64 (if 0 < k then 1024 else 1) ∧ Gr w1 wr) (fun _ i _ => 3 - (intOf i).toNat)
      case atStart => exact ⟨0, by omega, rfl, rfl, Gr.refl _⟩
      case round =>
        obtain ⟨k, hk, rfl, rfl, hG⟩ := hrel
        have hb := HB.out.gr hG
        have b0 : wr.cell? ⟨g, 0, none⟩ = some (.int .i64 1024) := hb.cell 0
        have b1 : wr.cell? ⟨g, 1, none⟩ = some (.int .i64 1048576) := hb.cell 1
        have b2 : wr.cell? ⟨g, 2, none⟩ = some (.int .i64 1073741824) := hb.cell 2
        have HG := Lib.hid hG
        clear hb hG
        obtain rfl | rfl | rfl | rfl : k = 0 ∨ k = 1 ∨ k = 2 ∨ k = 3 := by omega
        · go_upto_region 6 with fail
          refine wp_region_gw (by kernel_rfl) (by kernel_rfl) ?_
          repeat (first | go_big_quiet_step (fail) | quiet_step (fail))
          refine wpQuiet_nil ?_; intro wq hwq; obtain ⟨iq, rfl⟩ := hwq
          have hGq := gw_gr wr iq
          generalize gw wr iq = wx at *
          go_wp2_with fail
          exact ⟨⟨1, by omega, rfl, rfl, Gr.tr HG.out hGq⟩, by simp [intOf]⟩
        · go_upto_region 6 with fail
          refine wp_region_gw (by kernel_rfl) (by kernel_rfl) ?_
          repeat (first | go_big_quiet_step (fail) | quiet_step (fail))
          refine wpQuiet_nil ?_; intro wq hwq; obtain ⟨iq, rfl⟩ := hwq
          have hGq := gw_gr wr iq
          generalize gw wr iq = wx at *
          go_wp2_with fail
          exact ⟨⟨2, by omega, rfl, rfl, Gr.tr HG.out hGq⟩, by simp [intOf]⟩
        · go_upto_region 6 with fail
          refine wp_region_gw (by kernel_rfl) (by kernel_rfl) ?_
          repeat (first | go_big_quiet_step (fail) | quiet_step (fail))
          refine wpQuiet_nil ?_; intro wq hwq; obtain ⟨iq, rfl⟩ := hwq
          have hGq := gw_gr wr iq
          generalize gw wr iq = wx at *
          go_wp2_with fail
          exact ⟨⟨3, by omega, rfl, rfl, Gr.tr HG.out hGq⟩, by simp [intOf]⟩
        · cases hn : numberL (t) with
          | none =>
            have HN := Lib.hid (fun (w : World) => rnum_none hn w (by first | omega | (simp; omega)))
            have HK := Lib.hid (HKN.out hn)
            clear hn
            go_wp2_with (go_at_call 41; refine (HN.out _).mono ?_; rintro e w2 ⟨rfl, rfl⟩)
            go_ret2
            exact ⟨by rw [HK.out]; rfl, Gr.tr HGw.out HG.out⟩
          | some n =>
            have HN := Lib.hid (fun (w : World) => rnum_some hn w (by first | omega | (simp; omega)))
            have HK := Lib.hid (HKS.out n hn)
            have hnl := number_lt hn
            clear hn
            by_cases hb : n ≤ 1099511627776
            · have kb : decide (1099511627776 < (n : Int)) = false := decide_eq_false (by omega)
              go_wp2_with (go_at_call 41; refine (HN.out _).mono ?_; rintro e w2 ⟨rfl, rfl⟩)
              go_ret2
              exact ⟨by rw [HK.out, if_pos (by omega)]; simp [optV], Gr.tr HGw.out HG.out⟩
            · have kb : decide (1099511627776 < (n : Int)) = true := decide_eq_true (by omega)
              go_wp2_with (go_at_call 41; refine (HN.out _).mono ?_; rintro e w2 ⟨rfl, rfl⟩)
              go_ret2
              exact ⟨by rw [HK.out, if_neg (by omega)]; rfl, Gr.tr HGw.out HG.out⟩
    · by_cases c2 : c = 109
      · subst c2
        have hu : unitL (t ++ [109]) = 1048576 := by unfold unitL; rw [List.getLast?_concat]; simp
        have hsub : (if unitL (t ++ [109]) = 1 then t ++ [109] else (t ++ [109]).dropLast) = t := by rw [hu]; simp
        have HKN := Lib.hid (fun h => kind_none (s := t ++ [109]) (by rw [hsub]; exact h))
        have HKS := Lib.hid (fun (n : Nat) h => kind_some (s := t ++ [109]) (n := n) (by rw [hsub]; exact h))
        rw [hu] at HKS
        clear hu hsub
        go_enter Tryd.func27, Tryd.ntmps27
        go_wp2_with fail
        have hGw : Gr w (w.alloc (Obj.cells #[.int .i64 1024, .int .i64 1048576, .int .i64 1073741824] 2)) := Gr.al (Gr.refl w) _
        have hb := Bk.new w 2 #[.int .i64 1024, .int .i64 1048576, .int .i64 1073741824] (0, 0)
        generalize w.alloc (Obj.cells #[.int .i64 1024, .int .i64 1048576, .int .i64 1073741824] 2) = w1 at *
        generalize w.heap.size = g at *
        have HGw := Lib.hid hGw
        have HB := Lib.hid hb
        clear hGw hb
        go_loopw [4, 14] (fun u i wr => ∃ k : Nat, k ≤ 3 ∧ i = .int .i64 k ∧ u = .int .i64 (if 1 < k then 1048576 else 1) ∧ Gr w1 wr) (fun _ i _ => 3 - (intOf i).toNat)
        case atStart => exact ⟨0, by omega, rfl, rfl, Gr.refl _⟩
        case round =>
          obtain ⟨k, hk, rfl, rfl, hG⟩ := hrel
          have hb := HB.out.gr hG
          have b0 : wr.cell? ⟨g, 0, none⟩ = some (.int .i64 1024) := hb.cell 0
          have b1 : wr.cell? ⟨g, 1, none⟩ = some (.int .i64 1048576) := hb.cell 1
          have b2 : wr.cell? ⟨g, 2, none⟩ = some (.int .i64 1073741824) := hb.cell 2
          have HG := Lib.hid hG
          clear hb hG
          obtain rfl | rfl | rfl | rfl : k = 0 ∨ k = 1 ∨ k = 2 ∨ k = 3 := by omega
          · go_upto_region 6 with fail
            refine wp_region_gw (by kernel_rfl) (by kernel_rfl) ?_
            repeat (first | go_big_quiet_step (fail) | quiet_step (fail))
            refine wpQuiet_nil ?_; intro wq hwq; obtain ⟨iq, rfl⟩ := hwq
            have hGq := gw_gr wr iq
            generalize gw wr iq = wx at *
            go_wp2_with fail
            exact ⟨⟨1, by omega, rfl, rfl, Gr.tr HG.out hGq⟩, by simp [intOf]⟩
          · go_upto_region 6 with fail
            refine wp_region_gw (by kernel_rfl) (by kernel_rfl) ?_
            repeat (first | go_big_quiet_step (fail) | quiet_step (fail))
            refine wpQuiet_nil ?_; intro wq hwq; obtain ⟨iq, rfl⟩ := hwq
            have hGq := gw_gr wr iq
            generalize gw wr iq = wx at *
            go_wp2_with fail
            exact ⟨⟨2, by omega, rfl, rfl, Gr.tr HG.out hGq⟩, by simp [intOf]⟩
          · go_upto_region 6 with fail
            refine wp_region_gw (by kernel_rfl) (by kernel_rfl) ?_
            repeat (first | go_big_quiet_step (fail) | quiet_step (fail))
            refine wpQuiet_nil ?_; intro wq hwq; obtain ⟨iq, rfl⟩ := hwq
            have hGq := gw_gr wr iq
            generalize gw wr iq = wx at *
            go_wp2_with fail
            exact ⟨⟨3, by omega, rfl, rfl, Gr.tr HG.out hGq⟩, by simp [intOf]⟩
          · cases hn : numberL (t) with
            | none =>
              have HN := Lib.hid (fun (w : World) => rnum_none hn w (by first | omega | (simp; omega)))
              have HK := Lib.hid (HKN.out hn)
              clear hn
              go_wp2_with (go_at_call 41; refine (HN.out _).mono ?_; rintro e w2 ⟨rfl, rfl⟩)
              go_ret2
              exact ⟨by rw [HK.out]; rfl, Gr.tr HGw.out HG.out⟩
            | some n =>
              have HN := Lib.hid (fun (w : World) => rnum_some hn w (by first | omega | (simp; omega)))
              have HK := Lib.hid (HKS.out n hn)
              have hnl := number_lt hn
              clear hn
              by_cases hb : n ≤ 1073741824
              · have kb : decide (1073741824 < (n : Int)) = false := decide_eq_false (by omega)
                go_wp2_with (go_at_call 41; refine (HN.out _).mono ?_; rintro e w2 ⟨rfl, rfl⟩)
                go_ret2
                exact ⟨by rw [HK.out, if_pos (by omega)]; simp [optV], Gr.tr HGw.out HG.out⟩
              · have kb : decide (1073741824 < (n : Int)) = true := decide_eq_true (by omega)
                go_wp2_with (go_at_call 41; refine (HN.out _).mono ?_; rintro e w2 ⟨rfl, rfl⟩)
                go_ret2
                exact ⟨by rw [HK.out, if_neg (by omega)]; rfl, Gr.tr HGw.out HG.out⟩
      · by_cases c3 : c = 103
        · subst c3
          have hu : unitL (t ++ [103]) = 1073741824 := by unfold unitL; rw [List.getLast?_concat]; simp
          have hsub : (if unitL (t ++ [103]) = 1 then t ++ [103] else (t ++ [103]).dropLast) = t := by rw [hu]; simp
          have HKN := Lib.hid (fun h => kind_none (s := t ++ [103]) (by rw [hsub]; exact h))
          have HKS := Lib.hid (fun (n : Nat) h => kind_some (s := t ++ [103]) (n := n) (by rw [hsub]; exact h))
          rw [hu] at HKS
          clear hu hsub
          go_enter Tryd.func27, Tryd.ntmps27
          go_wp2_with fail
          have hGw : Gr w (w.alloc (Obj.cells #[.int .i64 1024, .int .i64 1048576, .int .i64 1073741824] 2)) := Gr.al (Gr.refl w) _
          have hb := Bk.new w 2 #[.int .i64 1024, .int .i64 1048576, .int .i64 1073741824] (0, 0)
          generalize w.alloc (Obj.cells #[.int .i64 1024, .int .i64 1048576, .int .i64 1073741824] 2) = w1 at *
          generalize w.heap.size = g at *
          have HGw := Lib.hid hGw
          have HB := Lib.hid hb
          clear hGw hb
          go_loopw [4, 14] (fun u i wr => ∃ k : Nat, k ≤ 3 ∧ i = .int .i64 k ∧ u = .int .i64 (if 2 < k then 1073741824 else 1) ∧ Gr w1 wr) (fun _ i _ => 3 - (intOf i).toNat)
          case atStart => exact ⟨0, by omega, rfl, rfl, Gr.refl _⟩
          case round =>
            obtain ⟨k, hk, rfl, rfl, hG⟩ := hrel
            have hb := HB.out.gr hG
            have b0 : wr.cell? ⟨g, 0, none⟩ = some (.int .i64 1024) := hb.cell 0
            have b1 : wr.cell? ⟨g, 1, none⟩ = some (.int .i64 1048576) := hb.cell 1
            have b2 : wr.cell? ⟨g, 2, none⟩ = some (.int .i64 1073741824) := hb.cell 2
            have HG := Lib.hid hG
            clear hb hG
            obtain rfl | rfl | rfl | rfl : k = 0 ∨ k = 1 ∨ k = 2 ∨ k = 3 := by omega
            · go_upto_region 6 with fail
              refine wp_region_gw (by kernel_rfl) (by kernel_rfl) ?_
              repeat (first | go_big_quiet_step (fail) | quiet_step (fail))
              refine wpQuiet_nil ?_; intro wq hwq; obtain ⟨iq, rfl⟩ := hwq
              have hGq := gw_gr wr iq
              generalize gw wr iq = wx at *
              go_wp2_with fail
              exact ⟨⟨1, by omega, rfl, rfl, Gr.tr HG.out hGq⟩, by simp [intOf]⟩
            · go_upto_region 6 with fail
              refine wp_region_gw (by kernel_rfl) (by kernel_rfl) ?_
              repeat (first | go_big_quiet_step (fail) | quiet_step (fail))
              refine wpQuiet_nil ?_; intro wq hwq; obtain ⟨iq, rfl⟩ := hwq
              have hGq := gw_gr wr iq
              generalize gw wr iq = wx at *
              go_wp2_with fail
              exact ⟨⟨2, by omega, rfl, rfl, Gr.tr HG.out hGq⟩, by simp [intOf]⟩
            · go_upto_region 6 with fail
              refine wp_region_gw (by kernel_rfl) (by kernel_rfl) ?_
              repeat (first | go_big_quiet_step (fail) | quiet_step (fail))
              refine wpQuiet_nil ?_; intro wq hwq; obtain ⟨iq, rfl⟩ := hwq
              have hGq := gw_gr wr iq
              generalize gw wr iq = wx at *
              go_wp2_with fail
              exact ⟨⟨3, by omega, rfl, rfl, Gr.tr HG.out hGq⟩, by simp [intOf]⟩
            · cases hn : numberL (t) with
              | none =>
                have HN := Lib.hid (fun (w : World) => rnum_none hn w (by first | omega | (simp; omega)))
                have HK := Lib.hid (HKN.out hn)
                clear hn
                go_wp2_with (go_at_call 41; refine (HN.out _).mono ?_; rintro e w2 ⟨rfl, rfl⟩)
                go_ret2
                exact ⟨by rw [HK.out]; rfl, Gr.tr HGw.out HG.out⟩
              | some n =>
                have HN := Lib.hid (fun (w : World) => rnum_some hn w (by first | omega | (simp; omega)))
                have HK := Lib.hid (HKS.out n hn)
                have hnl := number_lt hn
                clear hn
                by_cases hb : n ≤ 1048576
                · have kb : decide (1048576 < (n : Int)) = false := decide_eq_false (by omega)
                  go_wp2_with (go_at_call 41; refine (HN.out _).mono ?_; rintro e w2 ⟨rfl, rfl⟩)
                  go_ret2
                  exact ⟨by rw [HK.out, if_pos (by omega)]; simp [optV], Gr.tr HGw.out HG.out⟩
                · have kb : decide (1048576 < (n : Int)) = true := decide_eq_true (by omega)
                  go_wp2_with (go_at_call 41; refine (HN.out _).mono ?_; rintro e w2 ⟨rfl, rfl⟩)
                  go_ret2
                  exact ⟨by rw [HK.out, if_neg (by omega)]; rfl, Gr.tr HGw.out HG.out⟩
        · have d1 : (c == 107) = false := by simpa using c1
          have d2 : (c == 109) = false := by simpa using c2
          have d3 : (c == 103) = false := by simpa using c3
          have hu : unitL (t ++ [c]) = 1 := by unfold unitL; rw [List.getLast?_concat]; simp [c1, c2, c3]
          have hsub : (if unitL (t ++ [c]) = 1 then t ++ [c] else (t ++ [c]).dropLast) = t ++ [c] := by rw [hu]; simp
          have HKN := Lib.hid (fun h => kind_none (s := t ++ [c]) (by rw [hsub]; exact h))
          have HKS := Lib.hid (fun (n : Nat) h => kind_some (s := t ++ [c]) (n := n) (by rw [hsub]; exact h))
          rw [hu] at HKS
          clear hu hsub
          go_enter Tryd.func27, Tryd.ntmps27
          go_wp2_with fail
          have hGw : Gr w (w.alloc (Obj.cells #[.int .i64 1024, .int .i64 1048576, .int .i64 1073741824] 2)) := Gr.al (Gr.refl w) _
          have hb := Bk.new w 2 #[.int .i64 1024, .int .i64 1048576, .int .i64 1073741824] (0, 0)
          generalize w.alloc (Obj.cells #[.int .i64 1024, .int .i64 1048576, .int .i64 1073741824] 2) = w1 at *
          generalize w.heap.size = g at *
          have HGw := Lib.hid hGw
          have HB := Lib.hid hb
          clear hGw hb
          go_loopw [4, 14] (fun u i wr => ∃ k : Nat, k ≤ 3 ∧ i = .int .i64 k ∧ u = .int .i64 1 ∧ Gr w1 wr) (fun _ i _ => 3 - (intOf i).toNat)
          case atStart => exact ⟨0, by omega, rfl, rfl, Gr.refl _⟩
          case round =>
            obtain ⟨k, hk, rfl, rfl, hG⟩ := hrel
            have hb := HB.out.gr hG
            have b0 : wr.cell? ⟨g, 0, none⟩ = some (.int .i64 1024) := hb.cell 0
            have b1 : wr.cell? ⟨g, 1, none⟩ = some (.int .i64 1048576) := hb.cell 1
            have b2 : wr.cell? ⟨g, 2, none⟩ = some (.int .i64 1073741824) := hb.cell 2
            have HG := Lib.hid hG
            clear hb hG
            obtain rfl | rfl | rfl | rfl : k = 0 ∨ k = 1 ∨ k = 2 ∨ k = 3 := by omega
            · go_upto_region 6 with fail
              refine wp_region_gw (by kernel_rfl) (by kernel_rfl) ?_
              repeat (first | go_big_quiet_step (fail) | quiet_step (fail))
              refine wpQuiet_nil ?_; intro wq hwq; obtain ⟨iq, rfl⟩ := hwq
              have hGq := gw_gr wr iq
              generalize gw wr iq = wx at *
              go_wp2_with fail
              exact ⟨⟨1, by omega, rfl, rfl, Gr.tr HG.out hGq⟩, by simp [intOf]⟩
            · go_upto_region 6 with fail
              refine wp_region_gw (by kernel_rfl) (by kernel_rfl) ?_
              repeat (first | go_big_quiet_step (fail) | quiet_step (fail))
              refine wpQuiet_nil ?_; intro wq hwq; obtain ⟨iq, rfl⟩ := hwq
              have hGq := gw_gr wr iq
              generalize gw wr iq = wx at *
              go_wp2_with fail
              exact ⟨⟨2, by omega, rfl, rfl, Gr.tr HG.out hGq⟩, by simp [intOf]⟩
            · go_upto_region 6 with fail
              refine wp_region_gw (by kernel_rfl) (by kernel_rfl) ?_
              repeat (first | go_big_quiet_step (fail) | quiet_step (fail))
              refine wpQuiet_nil ?_; intro wq hwq; obtain ⟨iq, rfl⟩ := hwq
              have hGq := gw_gr wr iq
              generalize gw wr iq = wx at *
              go_wp2_with fail
              exact ⟨⟨3, by omega, rfl, rfl, Gr.tr HG.out hGq⟩, by simp [intOf]⟩
            · cases hn : numberL (t ++ [c]) with
              | none =>
                have HN := Lib.hid (fun (w : World) => rnum_none hn w (by first | omega | (simp; omega)))
                have HK := Lib.hid (HKN.out hn)
                clear hn
                go_wp2_with (go_at_call 41; refine (HN.out _).mono ?_; rintro e w2 ⟨rfl, rfl⟩)
                go_ret2
                exact ⟨by rw [HK.out]; rfl, Gr.tr HGw.out HG.out⟩
              | some n =>
                have HN := Lib.hid (fun (w : World) => rnum_some hn w (by first | omega | (simp; omega)))
                have HK := Lib.hid (HKS.out n hn)
                have hnl := number_lt hn
                clear hn
                by_cases hb : n ≤ 1125899906842624
                · have kb : decide (1125899906842624 < (n : Int)) = false := decide_eq_false (by omega)
                  go_wp2_with (go_at_call 41; refine (HN.out _).mono ?_; rintro e w2 ⟨rfl, rfl⟩)
                  go_ret2
                  exact ⟨by rw [HK.out, if_pos (by omega)]; simp [optV], Gr.tr HGw.out HG.out⟩
                · have kb : decide (1125899906842624 < (n : Int)) = true := decide_eq_true (by omega)
                  go_wp2_with (go_at_call 41; refine (HN.out _).mono ?_; rintro e w2 ⟨rfl, rfl⟩)
                  go_ret2
                  exact ⟨by rw [HK.out, if_neg (by omega)]; rfl, Gr.tr HGw.out HG.out⟩
end Go.Proofs.YtghopokdfjcjlaaDoor
