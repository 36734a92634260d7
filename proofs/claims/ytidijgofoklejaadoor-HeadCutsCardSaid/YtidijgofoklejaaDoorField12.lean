/- The block of fields, or why there is none: contracts; at most 130 fields of at most 12000 bytes. -/
import Derived.Test.YtidijgofoklejaaDoorField10
import Derived.Test.YtidijgofoklejaaDoorFieldLaw6
import Derived.Test.YtidijgofoklejaaDoorBuilder
namespace Go.Proofs.YtidijgofoklejaaDoor
open Go.RowKit
theorem small_of {l : List Fld} (h : great2 l = false) : l.length ≤ 130 ∧ bulk2 l ≤ 12000 := by
  unfold great2 at h
  simp only [Bool.or_eq_false_iff, decide_eq_false_iff_not] at h
  omega
set_option maxHeartbeats 2000000 in
set_option maxRecDepth 100000 in
theorem refPut_any (u : Value) (xs : List Fld) (w : World) (hu : Flds w u xs) (hs : Short2 xs) (_h1 : xs.length ≤ 130) (_h2 : bulk2 xs ≤ 12000) :
    Calls Tryd.prog 35 #[u] w fun e w' => e = .returned (.tuple #[str (put xs).1, .int .i64 (put xs).2]) ∧ Gr w w' := by
  obtain ⟨A, c, rfl, hc, hx, hA⟩ := hu.open
  have HA := Lib.hid hA; have HS := Lib.hid hs; clear hA hu hs
  go_enter Tryd.func35, Tryd.ntmps35
  go_wp2_with fail
  go_loopw [2, 3, 4, 6, 9] (fun x2 x3 out x6 i wr => ∃ (k : Nat), k ≤ xs.length ∧ i = .int .i64 k ∧ Gr w wr ∧ out = str (lines (xs.take k)) ∧ (xs.take k).all right = true) (fun _ _ _ _ i _ => xs.length - (intOf i).toNat)
  case atStart => exact ⟨0, Nat.zero_le _, rfl, Gr.refl _, rfl, rfl⟩
  case round =>
    obtain ⟨k, hk, rfl, hG, rfl, hE⟩ := hrel
    have HE := Lib.hid hE; clear hE
    by_cases hlt : k < xs.length
    · obtain ⟨b1, o1, rfl, hb1, hc1, hc1'⟩ := HA.out k hlt
      obtain ⟨hB1, hB2⟩ := HS.out.at k hlt
      have hc2 := Gr.cell hG hc1
      have hc2' := Gr.cell hG hc1'
      have hls := Lib.hid (lines_succ xs k hlt)
      have hln : (lines (xs.take k)).length ≤ 20000 := by have := lines_take_len xs k (by omega); omega
      clear HA HS
      go_upto_region 5 with fail
      obtain ⟨hGb, cf0, cf1⟩ := box2 wr (str xs[k].1) (str xs[k].2) 55
      have hG := Gr.tr hG hGb
      generalize wr.alloc (Obj.cells #[str xs[k].1, str xs[k].2] 55) = wb at *
      clear hGb hc2 hc2'
      cases hr : right (xs[k].1, xs[k].2) with
      | false =>
        have hp := Lib.hid (put_bad xs k hlt hr)
        go_wp2_with (go_at_call 47; refine (refRight_any _ _ _ (by omega) (by omega)).mono ?_; rintro e w1 ⟨rfl, hG1⟩)
        go_ret2
        exact ⟨by rw [hp.out]; rfl, Gr.tr hG hG1⟩
      | true =>
        go_wp2_with (go_at_call 47; refine (refRight_any _ _ _ (by omega) (by omega)).mono ?_; rintro e w1 ⟨rfl, hG1⟩; have cf0 := Gr.cell hG1 cf0; have cf1 := Gr.cell hG1 cf1)
        exact ⟨⟨k + 1, by omega, by go_num, Gr.tr hG hG1, by rw [hls.out]; simp, all_take_succ right xs k hlt HE.out hr⟩, by simp [intOf]; omega⟩
    · have hp := put_all xs k hlt HE.out
      have htk : xs.take k = xs := List.take_of_length_le (by omega)
      rw [htk]
      have hbl := block_len xs
      have hll := lines_len xs
      by_cases hc1 : 100 < xs.length
      · rw [if_pos (.inl hc1)] at hp
        have hp := Lib.hid hp
        have hd : decide (100 < (xs.length : Int)) = true := decide_eq_true (by omega)
        have hlq : (lines xs).length ≤ 20000 := by omega
        clear hbl hll htk
        go_wp2_with fail
        go_ret2
        exact ⟨by rw [hp.out]; rfl, hG⟩
      · have hd : decide (100 < (xs.length : Int)) = false := decide_eq_false (by omega)
        by_cases hc2 : 65536 < (block xs).length
        · rw [if_pos (.inr hc2)] at hp
          have hp := Lib.hid hp
          exfalso; omega
        · rw [if_neg (by omega)] at hp
          have hp := Lib.hid hp
          have hd2 : decide (65536 < ((lines xs).length : Int) + 2) = false := decide_eq_false (by omega)
          have hlq : (lines xs).length ≤ 20000 := by omega
          clear hc2 hbl hll htk
          go_wp2_with fail
          go_ret2
          exact ⟨by rw [hp.out]; rfl, hG⟩
theorem fldNe : (55 : Nat) ≠ 5 := by decide
set_option maxHeartbeats 2000000 in
set_option maxRecDepth 100000 in
theorem put_any (u : Value) (xs : List Fld) (w : World) (hu : Flds w u xs) (hs : Short2 xs) (_h1 : xs.length ≤ 130) (_h2 : bulk2 xs ≤ 12000) :
    Calls Tryd.prog 34 #[u] w fun e w' => e = .returned (.tuple #[str (put xs).1, .int .i64 (put xs).2]) ∧ Gr w w' := by
  obtain ⟨A, c, rfl, hc, hx, hA⟩ := hu.open
  have HA := Lib.hid hA; have HS := Lib.hid hs; clear hA hu hs
  go_enter Tryd.func34, Tryd.ntmps34
  go_wp2_with fail
  go_loopw [2, 3, 4, 6, 12] (fun x2 x3 sm x6 i wr => ∃ (k : Nat), k ≤ xs.length ∧ i = .int .i64 k ∧ Gr w wr ∧ sm = .int .i64 ((lines (xs.take k)).length + 2) ∧ (xs.take k).all right = true) (fun _ _ _ _ i _ => xs.length - (intOf i).toNat)
  case atStart => exact ⟨0, Nat.zero_le _, rfl, Gr.refl _, rfl, rfl⟩
  case round =>
    obtain ⟨k, hk, rfl, hG, rfl, hE⟩ := hrel
    have HE := Lib.hid hE; clear hE
    have hln : (lines (xs.take k)).length ≤ 20000 := by have := lines_take_len xs k (by omega); omega
    by_cases hlt : k < xs.length
    · obtain ⟨b1, o1, rfl, hb1, hc1, hc1'⟩ := HA.out k hlt
      obtain ⟨hB1, hB2⟩ := HS.out.at k hlt
      have hc2 := Gr.cell hG hc1
      have hc2' := Gr.cell hG hc1'
      have hls := Lib.hid (congrArg List.length (lines_succ xs k hlt))
      clear HA HS
      go_upto_region 5 with fail
      obtain ⟨hGb, cf0, cf1⟩ := box2 wr (str xs[k].1) (str xs[k].2) 55
      have hG := Gr.tr hG hGb
      generalize wr.alloc (Obj.cells #[str xs[k].1, str xs[k].2] 55) = wb at *
      clear hGb hc2 hc2'
      cases hr : right (xs[k].1, xs[k].2) with
      | false =>
        have hp := Lib.hid (put_bad xs k hlt hr)
        go_wp2_with (go_at_call 44; refine (right_any _ _ _ (by omega) (by omega)).mono ?_; rintro e w1 ⟨rfl, hG1⟩)
        go_ret2
        exact ⟨by rw [hp.out]; rfl, Gr.tr hG hG1⟩
      | true =>
        go_wp2_with (go_at_call 44; refine (right_any _ _ _ (by omega) (by omega)).mono ?_; rintro e w1 ⟨rfl, hG1⟩; have cf0 := Gr.cell hG1 cf0; have cf1 := Gr.cell hG1 cf1)
        exact ⟨⟨k + 1, by omega, by go_num, Gr.tr hG hG1, by rw [hls.out]; simp only [List.length_append, List.length_cons, List.length_nil]; go_num, all_take_succ right xs k hlt HE.out hr⟩, by simp [intOf]; omega⟩
    · have hp := put_all xs k hlt HE.out
      have htk : xs.take k = xs := List.take_of_length_le (by omega)
      rw [htk] at hln ⊢
      have hbl := block_len xs
      by_cases hc1 : 100 < xs.length
      · rw [if_pos (.inl hc1)] at hp
        have hp := Lib.hid hp
        have hd : decide (100 < (xs.length : Int)) = true := decide_eq_true (by omega)
        clear hbl htk
        go_wp2_with fail
        go_ret2
        exact ⟨by rw [hp.out]; rfl, hG⟩
      · have hd : decide (100 < (xs.length : Int)) = false := decide_eq_false (by omega)
        rw [if_neg (by omega)] at hp
        have hp := Lib.hid hp
        have hd2 : decide (65536 < ((lines xs).length : Int) + 2) = false := decide_eq_false (by omega)
        clear hbl htk
        obtain ⟨wo, hwo⟩ : ∃ wo : World, wo = wr := ⟨_, rfl⟩
        subst hwo
        go_upto_region 12 with fail
        have hB0 := Lib.hid (bld_new w wo hG)
        generalize hwb : wo.alloc (.cells #[.pointer none, .slice none 0 0] 69) = wb at *
        clear hwb
        have hbg : w.heap.size ≤ wo.heap.size := hG.size
        generalize wo.heap.size = bb at *
        clear hG HE
        go_wp2_with fail
        go_loopw [9, 40] (fun x9 i wr => ∃ (k : Nat), k ≤ xs.length ∧ i = .int .i64 k ∧ Bld w wr bb (lines (xs.take k))) (fun _ i _ => xs.length - (intOf i).toNat)
        case atStart => exact ⟨0, Nat.zero_le _, rfl, hB0.out⟩
        case round =>
          clear hB0 hln hk hlt
          obtain ⟨k, hk, rfl, hB⟩ := hrel
          have HB := Lib.hid hB; clear hB
          have hG := HB.out.2.1
          have hln : (lines (xs.take k)).length ≤ 20000 := by have := lines_take_len xs k (by omega); omega
          by_cases hlt : k < xs.length
          · obtain ⟨b1, o1, rfl, hb1, hc1, hc1'⟩ := HA.out k hlt
            have hq : xs[k].1.length + xs[k].2.length ≤ 12000 := by have h1 := bulk2_succ xs k hlt; have h2 := bulk2_take_le xs (k + 1); omega
            have hc2 := Gr.cell hG hc1
            have hc2' := Gr.cell hG hc1'
            have hls := Lib.hid (lines_succ xs k hlt)
            have hgb : bb ≠ wr.heap.size := by
              obtain ⟨_, _, _, _, _, hb, _⟩ := HB.out
              have := hb.lt; omega
            clear HA HS
            go_upto_region 15 with fail
            have hbf := Bk.new wr 55 #[str xs[k].1, str xs[k].2] (0, 0)
            have HB := Lib.hid (HB.out.gr (Gr.al (Gr.refl wr) (.cells #[str xs[k].1, str xs[k].2] 55)))
            generalize wr.alloc (Obj.cells #[str xs[k].1, str xs[k].2] 55) = wf at *
            clear hc2 hc2' hG
            generalize wr.heap.size = gf at *
            have cf0 : wf.cell? ⟨gf, 0, none⟩ = some (str xs[k].1) := hbf.cell 0
            go_wp2_with fail
            refine (writeString_any w _ bb _ _ HB.out (by omega)).mono ?_
            rintro e w1 ⟨rfl, hB1', hO1⟩
            go_wp2_with fail
            refine (writeString_any w _ bb _ [58, 32] hB1' (by simp; omega)).mono ?_
            rintro e w2 ⟨rfl, hB2', hO2⟩
            have hbf2 := (hO1.tr hO2) gf _ _ _ (Ne.symm hgb) fldNe hbf
            have cf1 : w2.cell? ⟨gf, 1, none⟩ = some (str xs[k].2) := hbf2.cell 1
            have HB2 := Lib.hid hB2'
            clear hB1' hB2' hO1 hO2 hbf hbf2 cf0
            go_wp2_with fail
            refine (writeString_any w _ bb _ _ HB2.out (by simp; omega)).mono ?_
            rintro e w3 ⟨rfl, hB3, _⟩
            have HB3 := Lib.hid hB3; clear hB3
            go_wp2_with fail
            refine (writeString_any w _ bb _ [13, 10] HB3.out (by simp; omega)).mono ?_
            rintro e w4 ⟨rfl, hB4, _⟩
            have HB4 := Lib.hid hB4; clear hB4
            go_wp2_with fail
            exact ⟨⟨k + 1, by omega, by go_num, by rw [hls.out]; exact HB4.out⟩, by simp [intOf]; omega⟩
          · rw [show xs.take k = xs from List.take_of_length_le (by omega)] at HB
            go_wp2_with fail
            refine (writeString_any w _ bb _ [13, 10] HB.out (by rw [show xs.take k = xs from List.take_of_length_le (by omega)] at hln; simp; omega)).mono ?_
            rintro e w1 ⟨rfl, hB1, _⟩
            have HB1 := Lib.hid hB1; clear hB1
            go_wp2_with fail
            refine (string_any w _ bb _ HB1.out).mono ?_
            rintro e w2 ⟨rfl, hG2⟩
            go_wp2_with fail
            go_ret2
            exact ⟨by rw [hp.out]; rfl, hG2⟩
end Go.Proofs.YtidijgofoklejaaDoor
