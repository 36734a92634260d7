/- Layer 16's law on an answer of one span: the walk. Conditions: the library's own variables hold what their types allow. -/
import Derived.Test.YtdmhjabnjbpliaaGreatDoorClient13
import Derived.Test.YtdmhjabnjbpliaaGreatDoorClient16
set_option linter.unusedVariables false
set_option linter.unusedSimpArgs false
namespace Go.Proofs.YtdmhjabnjbpliaaGreatDoor.lkone
open Go.RowKit
/-- the answer, by the document's text -/
def oneB (f : Int) (l : List UInt8) (ch : Bool) : List UInt8 := (putH ([], [], 206, headF 206 (oneF f (f + l.length) (-1)) (if ch then -1 else (l.length : Int)))).1 ++ (gBody (if ch then -1 else (l.length : Int)) l ++ gEnd (if ch then -1 else (l.length : Int)) true)
def preB (f : Int) (n : Nat) : List UInt8 := [72, 84, 84, 80, 47, 49, 46, 49, 32, 50, 48, 54, 32, 80, 97, 114, 116, 105, 97, 108, 32, 67, 111, 110, 116, 101, 110, 116, 13, 10, 67, 111, 110, 116, 101, 110, 116, 45, 82, 97, 110, 103, 101, 58, 32, 98, 121, 116, 101, 115, 32] ++ Lib.itoa f ++ [45] ++ Lib.itoa (f + n - 1) ++ [47, 42, 13, 10]
theorem one_chunk {f : Int} {l : List UInt8} (h : contB f (f + l.length) (-1) = true) (hl : l ≠ []) : preB f l.length ++ ([84, 114, 97, 110, 115, 102, 101, 114, 45, 69, 110, 99, 111, 100, 105, 110, 103, 58, 32, 99, 104, 117, 110, 107, 101, 100, 13, 10, 13, 10] ++ hexT l.length ++ [13, 10] ++ l ++ [13, 10, 48, 13, 10, 13, 10]) = oneB f l true := by
  unfold oneB preB
  simp only [if_true]
  rw [put_text h (by omega) (by omega)]
  unfold headC sizeF gBody gEnd chunkL lastL
  simp [hl, l206, crN, codingN, chunkedN]
theorem one_len {f : Int} {l : List UInt8} (h : contB f (f + l.length) (-1) = true) (hl : l.length ≤ 200) : preB f l.length ++ ([67, 111, 110, 116, 101, 110, 116, 45, 76, 101, 110, 103, 116, 104, 58, 32] ++ Lib.itoa l.length ++ [13, 10, 13, 10] ++ l) = oneB f l false := by
  unfold oneB preB
  simp only [Bool.false_eq_true, if_false]
  rw [put_text h (by omega) (by omega)]
  have hn : ¬ ((l.length : Int) = -1) := by omega
  unfold headC sizeF gBody gEnd
  rw [if_neg hn, if_neg hn, if_neg (show ¬ ((l.length : Int) = -1 ∧ true = true) from fun hh => hn hh.1)]
  simp [l206, crN, lengthN]
theorem pre_le {f : Int} {n : Nat} (h0 : 0 ≤ f) (h1 : f ≤ 1099511627776) (hn : 1 ≤ n) (h2 : n ≤ 200) : (preB f n).length ≤ 200 := by
  have a := itoa_len_int (x := f) h0 (by omega)
  have b := itoa_len_int (x := f + n - 1) (by omega) (by omega)
  unfold preB
  simp only [List.length_append, List.length_cons, List.length_nil]
  omega
theorem oneB_le {f : Int} {l : List UInt8} (ch : Bool) (h0 : 0 ≤ f) (h1 : f ≤ 1099511627776) (hb : 1 ≤ l.length) (h2 : l.length ≤ 200) : (oneB f l ch).length ≤ 1000 := by
  have a := pre_le h0 h1 hb h2
  have hc := contB_one h0 h1 hb h2
  cases ch with
  | true =>
    rw [← one_chunk hc (by intro e; rw [e] at hb; simp at hb)]
    have := (hexT_le l.length (by omega)).2
    simp only [List.length_append, List.length_cons, List.length_nil]
    omega
  | false =>
    rw [← one_len hc h2]
    have := itoa_len_int (x := (l.length : Int)) (by omega) (by omega)
    simp only [List.length_append, List.length_cons, List.length_nil]
    omega
set_option maxHeartbeats 16000000 in
set_option maxRecDepth 100000 in
theorem walk (f : Int) (l : List UInt8) (u : Value) (ch : Bool) (w : World) (hv : Vars w) (hy : Byts w u l) (hf : -9223372036854775808 ≤ f ∧ f ≤ 9223372036854775807) :
    Calls Tryz.prog 5 #[.int .i64 f, u, .bool ch] w fun e w' => e = .returned (.bool true) ∧ Gr w w' := by
  obtain ⟨A, c, rfl, hc, hm, -⟩ := id hy.open
  have HAW := Lib.hid (fun (x : World) (g : Gr w x) => awake16_any x (hv.gr g))
  by_cases k1 : 200 < l.length
  · have d1 : decide (200 < (l.length : Int)) = true := decide_eq_true (by omega)
    clear hy
    go_enter Tryz.func5, Tryz.ntmps5
    go_wp2_with (go_at_call 11; refine (HAW.out _ (Gr.refl w)).mono ?_; rintro e w2 ⟨rfl, hg2⟩)
    go_ret
    exact ⟨rfl, hg2⟩
  have d1 : decide (200 < (l.length : Int)) = false := decide_eq_false (by omega)
  by_cases k2 : l.length = 0
  · have d2 : ((l.length : Int) == 0) = true := by rw [beq_iff_eq]; omega
    clear hy
    go_enter Tryz.func5, Tryz.ntmps5
    go_wp2_with (go_at_call 11; refine (HAW.out _ (Gr.refl w)).mono ?_; rintro e w2 ⟨rfl, hg2⟩)
    go_ret
    exact ⟨rfl, hg2⟩
  have d2 : ((l.length : Int) == 0) = false := by rw [beq_eq_false_iff_ne]; omega
  by_cases k3 : f < 0
  · have d3 : decide (f < 0) = true := decide_eq_true k3
    clear hy
    go_enter Tryz.func5, Tryz.ntmps5
    go_wp2_with (go_at_call 11; refine (HAW.out _ (Gr.refl w)).mono ?_; rintro e w2 ⟨rfl, hg2⟩)
    go_ret
    exact ⟨rfl, hg2⟩
  have d3 : decide (f < 0) = false := decide_eq_false k3
  by_cases k4 : 1099511627776 < f
  · have d4 : decide (1099511627776 < f) = true := decide_eq_true k4
    clear hy
    go_enter Tryz.func5, Tryz.ntmps5
    go_wp2_with (go_at_call 11; refine (HAW.out _ (Gr.refl w)).mono ?_; rintro e w2 ⟨rfl, hg2⟩)
    go_ret
    exact ⟨rfl, hg2⟩
  have d4 : decide (1099511627776 < f) = false := decide_eq_false k4
  have hb1 : 1 ≤ l.length := by omega
  have hb2 : l.length ≤ 200 := by omega
  have h0 : 0 ≤ f := by omega
  have h1 : f ≤ 1099511627776 := by omega
  have e1 : IntKind.i64.wrap (f + (l.length : Int)) = f + l.length := IntWalk.i64_in _ (by omega)
  have e2 : IntKind.i64.wrap (f + (l.length : Int) - 1) = f + l.length - 1 := IntWalk.i64_in _ (by omega)
  have hcB := contB_one h0 h1 hb1 hb2
  have hln : l ≠ [] := by intro e; rw [e] at hb1; simp at hb1
  have HLEN := Lib.hid (oneB_le ch h0 h1 hb1 hb2)
  have HPRE := Lib.hid (pre_le h0 h1 hb1 hb2)
  obtain ⟨H, fr, hn, hen, hby⟩ := one_law (f := f) (b := l) (sz := if ch then -1 else (l.length : Int)) h0 h1 hb1 hb2 (by cases ch; exact .inr rfl; exact .inl rfl)
  have HNW := Lib.hid (show nowL getB (oneB f l ch) = .body H fr l from hn)
  have HEN := Lib.hid hen
  have HBY := Lib.hid hby
  have HDG1 := Lib.hid (fun (x : World) => refDigits4_int f x h0 (by omega))
  have HDG2 := Lib.hid (fun (x : World) => refDigits4_int (f + l.length - 1) x (by omega) (by omega))
  have HDG3 := Lib.hid (fun (x : World) => refDigits4_int (l.length : Int) x (by omega) (by omega))
  have HHEX := Lib.hid (fun (x : World) => hex16_any l.length x (by omega))
  have HT := Lib.hid (show (if ch then preB f l.length ++ ([84, 114, 97, 110, 115, 102, 101, 114, 45, 69, 110, 99, 111, 100, 105, 110, 103, 58, 32, 99, 104, 117, 110, 107, 101, 100, 13, 10, 13, 10] ++ hexT l.length ++ [13, 10] ++ l ++ [13, 10, 48, 13, 10, 13, 10]) else preB f l.length ++ ([67, 111, 110, 116, 101, 110, 116, 45, 76, 101, 110, 103, 116, 104, 58, 32] ++ Lib.itoa l.length ++ [13, 10, 13, 10] ++ l)) = oneB f l ch from by
    cases ch with
    | true => exact one_chunk hcB hln
    | false => exact one_len hcB hb2)
  have t1 := fun (x : World) (g : Gr w x) => (hy.gr g).toStr
  have HY := Lib.hid (fun (x : World) (g : Gr w x) => hy.gr g)
  have HV := Lib.hid hv
  have il1 := itoa_len_int (x := f) h0 (by omega)
  have il2 := itoa_len_int (x := f + l.length - 1) (by omega) (by omega)
  have il3 := itoa_len_int (x := (l.length : Int)) (by omega) (by omega)
  have il4 := (hexT_le l.length (by omega)).2
  generalize oneB f l ch = B at *
  clear hy hv hn hen hby hcB hln k1 k2 k3 k4
  go_enter Tryz.func5, Tryz.ntmps5
  go_upto_region 5 with (first
    | (go_at_call 22; (with_reducible refine (HDG1.out _).mono ?_); rintro e w1 ⟨rfl, hg1⟩)
    | (go_at_call 22; (with_reducible refine (HDG2.out _).mono ?_); rintro e w2 ⟨rfl, hg2⟩))
  have hg12 := Gr.tr hg1 hg2
  clear hg1 hg2
  have t2 := fun i => t1 _ (Gr.tr hg12 (gw_gr w2 i))
  cases ch with
  | true =>
    have HT2 := Lib.hid (show preB f l.length ++ ([84, 114, 97, 110, 115, 102, 101, 114, 45, 69, 110, 99, 111, 100, 105, 110, 103, 58, 32, 99, 104, 117, 110, 107, 101, 100, 13, 10, 13, 10] ++ hexT l.length ++ [13, 10] ++ l ++ [13, 10, 48, 13, 10, 13, 10]) = B from HT.out)
    clear HT
    go_upto_region 6 with fail
    go_cut [8] (fun s8 wx => s8 = str B ∧ Gr w wx)
    case first =>
      refine wp_region_gw (by kernel_rfl) (by kernel_rfl) ?_
      repeat (first | go_big_quiet_step ((go_at_call 23; exact gw_call (HHEX.out _))) | quiet_step ((go_at_call 23; exact gw_call (HHEX.out _))))
      refine wpQuiet_nil ?_; intro wq hwq; obtain ⟨iq, rfl⟩ := hwq
      have hGq := gw_gr w2 iq
      generalize gw w2 iq = wx at *
      go_wp2_with fail
      go_meet
      exact ⟨by rw [← HT2.out]; simp [preB, str], Gr.tr hg12 hGq⟩
    case rest =>
      obtain ⟨rfl, hgc⟩ := hcut
      clear HT2 hg12 t1 t2 HDG1 HDG2 HDG3 HHEX il1 il2 il3 il4
      go_upto_region 9 with (first | (go_at_call 24; refine (plain16_any _).mono ?_; rintro e w3 ⟨rfl, hg3⟩; unfold reqV plainQ; simp only) | (go_at_call 12; refine (newPlain_any w _ (Gr.tr hgc hg3)).mono ?_; rintro e w4 ⟨hg4, g, rfl, hR4, hgl⟩))
      have hG4 := Gr.tr (Gr.tr hgc hg3) hg4
      obtain ⟨A5, c5, w5, hts, hM5, hg5⟩ := toBytsM_run w4 B (by have := HLEN.out; omega)
      have HTK := Lib.hid (take_own hR4 hG4 HV.out hM5 hg5 (by have := HLEN.out; simp [ClS.sz]; omega))
      rw [show B.foldl (clByte getB) (.head []) = .body H fr l from HNW.out] at HTK
      have HG5 := Lib.hid (Gr.tr hG4 hg5)
      have HLO := Lib.hid hR4.lo
      have HEZ := Lib.hid (show (ClS.body H fr l).ends = 0 from HEN.out)
      have HCM := Lib.hid (show (ClS.body H fr l).came = [((f, f + (l.length : Int)), l)] from HBY.out)
      clear hR4 hM5 hg3 hg4 hgl hgc hG4
      go_upto_region 11 with (first
        | (go_at_call 13; refine HTK.out.mono ?_; rintro e w6 ⟨he6, S6, hR6, hP6⟩; have he6 : e = .returned (.int .i64 0) := he6; subst he6; have HG6 := Lib.hid (hP6.old HG5.out HLO.out); have HEC := Lib.hid (end_any w w6 g S6 getB _ hR6 HG6.out HV.out (by show l.length ≤ 60000; omega)); have HLO6 := Lib.hid hR6.lo; clear hR6 hP6)
        | (go_at_call 14; refine HEC.out.mono ?_; rintro e w7 ⟨he7, hR7, hP7⟩; rw [HEZ.out] at he7 hR7; have he7 : e = .returned (.int .i64 0) := he7; subst he7; have HWH := Lib.hid (show Calls Tryz.prog 18 #[.pointer (some ⟨g, 0, none⟩)] w7 (fun e w' => e = .returned (.bool true) ∧ Gr w7 w') from whole_any hR7); have HG7 := Lib.hid (hP7.old HG6.out HLO6.out); have HR7 := Lib.hid hR7; clear hR7 hP7)
        | (go_at_call 18; refine HWH.out.mono ?_; rintro e w8 ⟨rfl, hg8⟩))
      have HG8 := Lib.hid (Gr.tr HG7.out hg8)
      have HBC := Lib.hid (show Calls Tryz.prog 15 #[.pointer (some ⟨g, 0, none⟩)] w8 (BytesC w8 [((f, f + (l.length : Int)), l)]) from by
        have h := bytes_any (HR7.out.gr hg8) (HV.out.gr HG8.out) (by show l.length ≤ 60000; omega)
        rw [HCM.out] at h
        exact h)
      clear hts hg5 hg8 HTK HEC HWH HR7
      go_upto_region 12 with (go_at_call 15; refine HBC.out.mono ?_; rintro e w9 ⟨hg9, v1, v2, rfl, hs1, hs2⟩)
      have hs1 : Spans w9 v1 [(f, f + (l.length : Int))] := hs1
      have hs2 : Bods w9 v2 [l] := hs2
      obtain ⟨A1, c1, ev1, hc1, -, ho1⟩ := Spans.open hs1
      obtain ⟨A2, c2, ev2, hc2, -, ho2⟩ := Bods.open hs2
      have ev1 : v1 = .slice A1 1 c1 := ev1
      have ev2 : v2 = .slice A2 1 c2 := ev2
      obtain ⟨b1, o1, eA1, -, x0, x1⟩ := ho1 0 (by simp)
      obtain ⟨b2, o2, u2, eA2, x2, hu2⟩ := ho2 0 (by simp)
      have x0 : w9.cell? ⟨b1, o1, none⟩ = some (.int .i64 f) := x0
      have x1 : w9.cell? ⟨b1, o1 + 1, none⟩ = some (.int .i64 (f + l.length)) := x1
      have x2 : w9.cell? ⟨b2, o2, none⟩ = some u2 := x2
      have hu2 : Byts w9 u2 l := hu2
      have hc1 : 1 ≤ c1 := hc1
      have hc2 : 1 ≤ c2 := hc2
      obtain ⟨A3, c3, ev3, -, -, -⟩ := hu2.open
      subst eA1 eA2 ev1 ev2 ev3
      have HG9 := Lib.hid (Gr.tr HG8.out hg9)
      have q0 := fun i => (gw_gr w9 i).cell x0
      have q1 := fun i => (gw_gr w9 i).cell x1
      have q2 := fun i => (gw_gr w9 i).cell x2
      have q3 := fun i => (hu2.gr (gw_gr w9 i)).toStr
      have q4 := fun i => (HY.out _ (Gr.tr HG9.out (gw_gr w9 i))).toStr
      clear hs1 hs2 ho1 ho2 hu2 HBC hg9
      refine wp_region_gw (by kernel_rfl) (by kernel_rfl) ?_
      repeat (first | go_big_quiet_step ((go_at_call 11; exact gw_call (HAW.out _ (Gr.tr HG9.out (gw_gr w9 _))))) | quiet_step ((go_at_call 11; exact gw_call (HAW.out _ (Gr.tr HG9.out (gw_gr w9 _))))))
      refine wpQuiet_nil ?_; intro wq hwq; obtain ⟨iq, rfl⟩ := hwq
      have hGq := gw_gr w9 iq
      generalize gw w9 iq = wx at *
      go_wp2_with fail
      go_ret
      exact ⟨rfl, Gr.tr HG9.out hGq⟩
  | false =>
    have HT2 := Lib.hid (show preB f l.length ++ ([67, 111, 110, 116, 101, 110, 116, 45, 76, 101, 110, 103, 116, 104, 58, 32] ++ Lib.itoa l.length ++ [13, 10, 13, 10] ++ l) = B from HT.out)
    clear HT
    go_upto_region 7 with fail
    go_cut [8] (fun s8 wx => s8 = str B ∧ Gr w wx)
    case first =>
      refine wp_region_gw (by kernel_rfl) (by kernel_rfl) ?_
      repeat (first | go_big_quiet_step ((go_at_call 22; exact gw_call (HDG3.out _))) | quiet_step ((go_at_call 22; exact gw_call (HDG3.out _))))
      refine wpQuiet_nil ?_; intro wq hwq; obtain ⟨iq, rfl⟩ := hwq
      have hGq := gw_gr w2 iq
      generalize gw w2 iq = wx at *
      go_wp2_with fail
      go_meet
      exact ⟨by rw [← HT2.out]; simp [preB, str], Gr.tr hg12 hGq⟩
    case rest =>
      obtain ⟨rfl, hgc⟩ := hcut
      clear HT2 hg12 t1 t2 HDG1 HDG2 HDG3 HHEX il1 il2 il3 il4
      go_upto_region 9 with (first | (go_at_call 24; refine (plain16_any _).mono ?_; rintro e w3 ⟨rfl, hg3⟩; unfold reqV plainQ; simp only) | (go_at_call 12; refine (newPlain_any w _ (Gr.tr hgc hg3)).mono ?_; rintro e w4 ⟨hg4, g, rfl, hR4, hgl⟩))
      have hG4 := Gr.tr (Gr.tr hgc hg3) hg4
      obtain ⟨A5, c5, w5, hts, hM5, hg5⟩ := toBytsM_run w4 B (by have := HLEN.out; omega)
      have HTK := Lib.hid (take_own hR4 hG4 HV.out hM5 hg5 (by have := HLEN.out; simp [ClS.sz]; omega))
      rw [show B.foldl (clByte getB) (.head []) = .body H fr l from HNW.out] at HTK
      have HG5 := Lib.hid (Gr.tr hG4 hg5)
      have HLO := Lib.hid hR4.lo
      have HEZ := Lib.hid (show (ClS.body H fr l).ends = 0 from HEN.out)
      have HCM := Lib.hid (show (ClS.body H fr l).came = [((f, f + (l.length : Int)), l)] from HBY.out)
      clear hR4 hM5 hg3 hg4 hgl hgc hG4
      go_upto_region 11 with (first
        | (go_at_call 13; refine HTK.out.mono ?_; rintro e w6 ⟨he6, S6, hR6, hP6⟩; have he6 : e = .returned (.int .i64 0) := he6; subst he6; have HG6 := Lib.hid (hP6.old HG5.out HLO.out); have HEC := Lib.hid (end_any w w6 g S6 getB _ hR6 HG6.out HV.out (by show l.length ≤ 60000; omega)); have HLO6 := Lib.hid hR6.lo; clear hR6 hP6)
        | (go_at_call 14; refine HEC.out.mono ?_; rintro e w7 ⟨he7, hR7, hP7⟩; rw [HEZ.out] at he7 hR7; have he7 : e = .returned (.int .i64 0) := he7; subst he7; have HWH := Lib.hid (show Calls Tryz.prog 18 #[.pointer (some ⟨g, 0, none⟩)] w7 (fun e w' => e = .returned (.bool true) ∧ Gr w7 w') from whole_any hR7); have HG7 := Lib.hid (hP7.old HG6.out HLO6.out); have HR7 := Lib.hid hR7; clear hR7 hP7)
        | (go_at_call 18; refine HWH.out.mono ?_; rintro e w8 ⟨rfl, hg8⟩))
      have HG8 := Lib.hid (Gr.tr HG7.out hg8)
      have HBC := Lib.hid (show Calls Tryz.prog 15 #[.pointer (some ⟨g, 0, none⟩)] w8 (BytesC w8 [((f, f + (l.length : Int)), l)]) from by
        have h := bytes_any (HR7.out.gr hg8) (HV.out.gr HG8.out) (by show l.length ≤ 60000; omega)
        rw [HCM.out] at h
        exact h)
      clear hts hg5 hg8 HTK HEC HWH HR7
      go_upto_region 12 with (go_at_call 15; refine HBC.out.mono ?_; rintro e w9 ⟨hg9, v1, v2, rfl, hs1, hs2⟩)
      have hs1 : Spans w9 v1 [(f, f + (l.length : Int))] := hs1
      have hs2 : Bods w9 v2 [l] := hs2
      obtain ⟨A1, c1, ev1, hc1, -, ho1⟩ := Spans.open hs1
      obtain ⟨A2, c2, ev2, hc2, -, ho2⟩ := Bods.open hs2
      have ev1 : v1 = .slice A1 1 c1 := ev1
      have ev2 : v2 = .slice A2 1 c2 := ev2
      obtain ⟨b1, o1, eA1, -, x0, x1⟩ := ho1 0 (by simp)
      obtain ⟨b2, o2, u2, eA2, x2, hu2⟩ := ho2 0 (by simp)
      have x0 : w9.cell? ⟨b1, o1, none⟩ = some (.int .i64 f) := x0
      have x1 : w9.cell? ⟨b1, o1 + 1, none⟩ = some (.int .i64 (f + l.length)) := x1
      have x2 : w9.cell? ⟨b2, o2, none⟩ = some u2 := x2
      have hu2 : Byts w9 u2 l := hu2
      have hc1 : 1 ≤ c1 := hc1
      have hc2 : 1 ≤ c2 := hc2
      obtain ⟨A3, c3, ev3, -, -, -⟩ := hu2.open
      subst eA1 eA2 ev1 ev2 ev3
      have HG9 := Lib.hid (Gr.tr HG8.out hg9)
      have q0 := fun i => (gw_gr w9 i).cell x0
      have q1 := fun i => (gw_gr w9 i).cell x1
      have q2 := fun i => (gw_gr w9 i).cell x2
      have q3 := fun i => (hu2.gr (gw_gr w9 i)).toStr
      have q4 := fun i => (HY.out _ (Gr.tr HG9.out (gw_gr w9 i))).toStr
      clear hs1 hs2 ho1 ho2 hu2 HBC hg9
      refine wp_region_gw (by kernel_rfl) (by kernel_rfl) ?_
      repeat (first | go_big_quiet_step ((go_at_call 11; exact gw_call (HAW.out _ (Gr.tr HG9.out (gw_gr w9 _))))) | quiet_step ((go_at_call 11; exact gw_call (HAW.out _ (Gr.tr HG9.out (gw_gr w9 _))))))
      refine wpQuiet_nil ?_; intro wq hwq; obtain ⟨iq, rfl⟩ := hwq
      have hGq := gw_gr w9 iq
      generalize gw w9 iq = wx at *
      go_wp2_with fail
      go_ret
      exact ⟨rfl, Gr.tr HG9.out hGq⟩
end Go.Proofs.YtdmhjabnjbpliaaGreatDoor.lkone
