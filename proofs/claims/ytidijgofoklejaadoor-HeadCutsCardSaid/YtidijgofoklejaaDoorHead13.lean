/- head.Put: contracts. -/
import Derived.Test.YtidijgofoklejaaDoorHeadLaw4
import Derived.Test.YtidijgofoklejaaDoorTab
import Derived.Test.YtidijgofoklejaaDoorBytes2
import Derived.Test.YtidijgofoklejaaDoorField12
namespace Go.Proofs.YtidijgofoklejaaDoor
open Go.RowKit
def fitsB (l : List Fld) (n b : Nat) : Bool := decide (bulk2 l ≤ b) && decide (l.length ≤ n)
theorem fits_over {l : List Fld} {k n b : Nat} (h : k < l.length) (hb : b < bulk2 (l.take (k + 1))) : fitsB l n b = false := by
  have := bulk2_take_le l (k + 1)
  unfold fitsB; simp; omega
theorem fits_end {l : List Fld} {k n b : Nat} (h : ¬ k < l.length) (hb : bulk2 (l.take k) ≤ b) : fitsB l n b = decide (l.length ≤ n) := by
  rw [bulk2_all l k h] at hb
  unfold fitsB; simp [hb]
set_option maxHeartbeats 2000000 in
theorem fits_any (u : Value) (xs : List Fld) (n b : Nat) (w : World) (hu : Flds w u xs) (hs : Short2 xs) (hn : n ≤ 100000) (hb : b ≤ 100000) :
    Calls Tryd.prog 32 #[u, .int .i64 n, .int .i64 b] w fun e w' => e = .returned (.bool (fitsB xs n b)) ∧ Gr w w' := by
  obtain ⟨A, c, rfl, hc, hx, hA⟩ := hu.open
  have HA := Lib.hid hA; have HS := Lib.hid hs; clear hA hu hs
  go_enter Tryd.func32, Tryd.ntmps32
  go_wp2_with fail
  go_loopw [2, 11] (fun r i wr => ∃ k : Nat, k ≤ xs.length ∧ i = .int .i64 k ∧ Gr w wr ∧ bulk2 (xs.take k) ≤ b ∧ r = .int .i64 ((b : Int) - (bulk2 (xs.take k) : Int))) (fun _ i _ => xs.length - (intOf i).toNat)
  case atStart => exact ⟨0, Nat.zero_le _, rfl, Gr.refl _, by simp [bulk2], by simp [bulk2]⟩
  case round =>
    obtain ⟨k, hk, rfl, hG, hbk, rfl⟩ := hrel
    by_cases hlt : k < xs.length
    · obtain ⟨b1, o1, rfl, hb1, hc1, hc1'⟩ := HA.out k hlt
      have hs := Lib.hid (bulk2_succ xs k hlt)
      obtain ⟨hB1, hB2⟩ := HS.out.at k hlt
      have hc2 := Gr.cell hG hc1
      have hc2' := Gr.cell hG hc1'
      have HO := Lib.hid (fun (h : b < bulk2 (xs.take (k + 1))) => fits_over (n := n) hlt h)
      clear HA HS hc1 hc1'
      by_cases h1 : (b : Int) - (bulk2 (xs.take k) : Int) < (xs[k].1.length : Int)
      · go_wp2_with fail
        go_ret
        exact ⟨ret_bool (HO.out (by rw [hs.out]; omega)).symm, by first | exact Gr.al hG _ | exact Gr.dr (Gr.al hG _)⟩
      · have d1 : decide ((b : Int) - (bulk2 (xs.take k) : Int) < (xs[k].1.length : Int)) = false := decide_eq_false h1
        by_cases h2 : (b : Int) - (bulk2 (xs.take k) : Int) < (xs[k].2.length : Int)
        · have d2 : decide ((b : Int) - (bulk2 (xs.take k) : Int) < (xs[k].2.length : Int)) = true := decide_eq_true h2
          go_wp2_with fail
          go_ret
          exact ⟨ret_bool (HO.out (by rw [hs.out]; omega)).symm, by first | exact Gr.al hG _ | exact Gr.dr (Gr.al hG _)⟩
        · have d2 : decide ((b : Int) - (bulk2 (xs.take k) : Int) < (xs[k].2.length : Int)) = false := decide_eq_false h2
          by_cases h3 : (b : Int) - (bulk2 (xs.take k) : Int) - (xs[k].1.length : Int) - (xs[k].2.length : Int) < 0
          · have d3 : decide ((b : Int) - (bulk2 (xs.take k) : Int) - (xs[k].1.length : Int) - (xs[k].2.length : Int) < 0) = true := decide_eq_true h3
            go_wp2_with fail
            go_ret
            exact ⟨ret_bool (HO.out (by rw [hs.out]; omega)).symm, by first | exact Gr.al hG _ | exact Gr.dr (Gr.al hG _)⟩
          · have d3 : decide ((b : Int) - (bulk2 (xs.take k) : Int) - (xs[k].1.length : Int) - (xs[k].2.length : Int) < 0) = false := decide_eq_false h3
            go_wp2_with fail
            exact ⟨⟨k + 1, by omega, by go_num, by first | exact Gr.al hG _ | exact Gr.dr (Gr.al hG _), by rw [hs.out]; omega, by rw [hs.out]; first | (congr 1; done) | (congr 1; omega)⟩, by simp [intOf]; omega⟩
    · have HE := Lib.hid (fits_end (n := n) hlt hbk)
      go_wp2_with fail
      go_ret
      exact ⟨ret_bool (by rw [HE.out]; first | done | (rw [decide_eq_decide]; omega)), hG⟩
/-- a head of up to 12 fields, 600 bytes -/
def smallB (T : HeadT) : Bool := decide (T.1.length ≤ 600) && decide (T.2.1.length ≤ 600) && fitsB T.2.2.2 12 600
set_option maxHeartbeats 2000000 in
theorem small12_any (T : HeadT) (A : Option Addr) (c : Nat) (w : World) (hu : Flds w (.slice A T.2.2.2.length c) T.2.2.2) (hs : Short2 T.2.2.2) (h1 : T.1.length ≤ 140737488355328) (h2 : T.2.1.length ≤ 140737488355328) :
    Calls Tryd.prog 20 #[.agg #[str T.1, str T.2.1, .int .i64 T.2.2.1, .slice A T.2.2.2.length c]] w fun e w' => e = .returned (.bool (smallB T)) ∧ Gr w w' := by
  have hG1 := Gr.al (Gr.refl w) (Obj.cells #[str T.1, str T.2.1, .int .i64 T.2.2.1, .slice A T.2.2.2.length c] 26)
  have hb1 := Bk.new w 26 #[str T.1, str T.2.1, .int .i64 T.2.2.1, .slice A T.2.2.2.length c] (0, 0)
  have HF := Lib.hid (show Calls Tryd.prog 32 #[.slice A T.2.2.2.length c, .int .i64 12, .int .i64 600] _ _ from fits_any (.slice A T.2.2.2.length c) T.2.2.2 12 600 _ (hu.gr hG1) hs (by omega) (by omega))
  have HS := Lib.hid (show smallB T = (decide (T.1.length ≤ 600) && decide (T.2.1.length ≤ 600) && fitsB T.2.2.2 12 600) from rfl)
  clear hu hs
  go_enter Tryd.func20, Tryd.ntmps20
  go_upto_region 1 with fail
  generalize w.alloc (Obj.cells #[str T.1, str T.2.1, .int .i64 T.2.2.1, .slice A T.2.2.2.length c] 26) = w1 at *
  generalize w.heap.size = g at *
  obtain ⟨q0, q1, q2, q3⟩ := hb1.cells4
  cases e1 : decide (T.1.length ≤ 600) with
  | false =>
    rw [e1] at HS
    have d1 : decide ((T.1.length : Int) ≤ 600) = false := by rw [decide_eq_false_iff_not] at e1 ⊢; omega
    clear e1
    go_wp2_with fail
    go_ret
    exact ⟨by rw [HS.out]; rfl, hG1⟩
  | true =>
    cases e2 : decide (T.2.1.length ≤ 600) with
    | false =>
      rw [e1, e2] at HS
      have d1 : decide ((T.1.length : Int) ≤ 600) = true := by rw [decide_eq_true_eq] at e1 ⊢; omega
      have d2 : decide ((T.2.1.length : Int) ≤ 600) = false := by rw [decide_eq_false_iff_not] at e2 ⊢; omega
      clear e1 e2
      go_wp2_with fail
      go_ret
      exact ⟨by rw [HS.out]; rfl, hG1⟩
    | true =>
      rw [e1, e2] at HS
      have d1 : decide ((T.1.length : Int) ≤ 600) = true := by rw [decide_eq_true_eq] at e1 ⊢; omega
      have d2 : decide ((T.2.1.length : Int) ≤ 600) = true := by rw [decide_eq_true_eq] at e2 ⊢; omega
      clear e1 e2
      go_wp2_with (go_at_call 32; refine HF.out.mono ?_; rintro e w2 ⟨rfl, hG2⟩)
      go_ret
      exact ⟨by rw [HS.out]; rfl, Gr.tr hG1 hG2⟩
/-- what Put answers -/
def PutEnd (w : World) (r : List UInt8 × Nat) (e : Ending) (w' : World) : Prop := ∃ A c, e = .returned (.tuple #[.slice A r.1.length c, .int .i64 r.2]) ∧ Byts w' (.slice A r.1.length c) r.1 ∧ Gr w w' ∧ Fresh w (.slice A r.1.length c)
theorem put_zero (l : List Fld) : (put l).2 = 0 ∨ (put l).2 ≠ 0 := by omega
set_option maxHeartbeats 4000000 in
theorem put12_any (T : HeadT) (A : Option Addr) (c : Nat) (w : World) (hp : Pw w) (hu : Flds w (.slice A T.2.2.2.length c) T.2.2.2) (hs : Short2 T.2.2.2) (h1 : T.1.length ≤ 600) (h2 : T.2.1.length ≤ 600) (h3 : T.2.2.2.length ≤ 130) (h4 : bulk2 T.2.2.2 ≤ 12000) :
    Calls Tryd.prog 21 #[.agg #[str T.1, str T.2.1, .int .i64 T.2.2.1, .slice A T.2.2.2.length c]] w (PutEnd w (putH T)) := by
  obtain ⟨m, o, st, fs⟩ := T
  simp only at hu hs h1 h2 h3 h4 ⊢
  have hG1 := Gr.al (Gr.refl w) (Obj.cells #[str m, str o, .int .i64 st, .slice A fs.length c] 26)
  have hb1 := Lib.hid (Bk.new w 26 #[str m, str o, .int .i64 st, .slice A fs.length c] (0, 0))
  have HP := Lib.hid hp; have HU := Lib.hid hu
  have HT := Lib.hid (fun (w : World) => tells_any m o st A fs.length c w)
  have HA := Lib.hid (fun (w : World) => asks_any m o st A fs.length c w (by omega))
  have HF := Lib.hid (fun (w : World) (h : Flds w (.slice A fs.length c) fs) => put_any (.slice A fs.length c) fs w h hs h3 h4)
  have hpl := put_len fs
  clear hu hs hp
  go_enter Tryd.func21, Tryd.ntmps21
  go_upto_region 1 with fail
  generalize w.alloc (Obj.cells #[str m, str o, .int .i64 st, .slice A fs.length c] 26) = w1 at *
  generalize w.heap.size = g at *
  obtain ⟨q0, q1, q2, q3⟩ := hb1.out.cells4
  cases ht : tellsB m o st with
  | true =>
    have hta := tells_of ht
    obtain ⟨rfl, rfl, hs1, hs2⟩ := hta
    rw [ht] at HT
    have hil : (Lib.itoa st).length = 3 := by rw [itoa3 st (by omega) (by omega)]; rfl
    have hil' : (Lib.itoa st).length ≤ 10 := by omega
    have hrl := reason_len st
    clear hil
    have HLN := Lib.hid (show lineP ([], [], st, fs) = httpB ++ [32] ++ Lib.itoa st ++ [32] ++ reason st from lineP_tells ht)
    have HFL := Lib.hid (show (tellsB [] [] st || asksB [] [] st) = true from by rw [ht]; rfl)
    clear ht
    go_upto_region 3 with (go_at_call 25; refine (HT.out _).mono ?_; rintro e w2 ⟨rfl, hG2⟩)
    have q2' := fun i => Gr.cell (gw_gr w2 i) (Gr.cell hG2 q2)
    have HP2 := Lib.hid (HP.out.gr (Gr.tr hG1 hG2))
    have i0 : -9223372036854775808 ≤ st := by omega
    have i1 : st ≤ 9223372036854775807 := by omega
    refine wp_region_gw (by kernel_rfl) (by kernel_rfl) ?_
    repeat (first | go_big_quiet_step ((first | (go_at_call 33; exact gw_call (itoa_any _ _ (HP2.out.gr (gw_gr _ _)) i0 i1)) | (go_at_call 16; exact gw_call (reason_any _ _)))) | quiet_step ((first | (go_at_call 33; exact gw_call (itoa_any _ _ (HP2.out.gr (gw_gr _ _)) i0 i1)) | (go_at_call 16; exact gw_call (reason_any _ _)))))
    refine wpQuiet_nil ?_; intro wq hwq; obtain ⟨iq, rfl⟩ := hwq
    have hGW := Gr.tr hG1 (Gr.tr hG2 (gw_gr w2 iq))
    have q3 := Gr.cell (gw_gr w2 iq) (Gr.cell hG2 q3)
    generalize gw w2 iq = w3 at *
    clear iq q2' q0 q1 q2
    have HGw3 := hGW
    rcases put_zero fs with hz | hz
    · have HR := Lib.hid (show putH ([], [], st, fs) = (lineP ([], [], st, fs) ++ [13, 10] ++ (put fs).1, 0) from putH_good HFL.out hz)
      rw [hz] at HF
      clear hz
      generalize (put fs).1 = blk at *
      go_wp2_with (first
        | (go_at_call 34; refine (HF.out _ (HU.out.gr hGW)).mono ?_; rintro e w7 ⟨rfl, hG7⟩)
        | (refine wpList_toByts _ rfl rfl rfl ?_ ?_; (simp only [List.length_append, List.length_cons, List.length_nil]; omega); intro A8 c8 w8 hb8 hG8 hf8; have HB8 := Lib.hid hb8; have HF8 := Lib.hid hf8; clear hb8 hf8))
      go_ret2
      rw [HR.out, HLN.out]
      refine ⟨A8, c8, ?_, ?_, Gr.tr hGW (Gr.tr hG7 hG8), ?_⟩
      · simp [httpB]
      · simpa [httpB] using HB8.out
      · simpa [httpB] using Fresh.tr (Gr.tr hGW hG7) HF8.out
    · have HR := Lib.hid (show putH ([], [], st, fs) = ([], (put fs).2) from putH_bad HFL.out hz)
      have hne : (((put fs).2 : Int) != 0) = true := by simp; exact hz
      generalize put fs = p at *
      go_wp2_with (go_at_call 34; refine (HF.out _ (HU.out.gr hGW)).mono ?_; rintro e w7 ⟨rfl, hG7⟩)
      go_ret2
      rw [HR.out]
      exact ⟨none, 0, rfl, Byts.nil _, Gr.tr hGW hG7, fresh_nil _⟩
  | false =>
    rw [ht] at HT
    cases ha : asksB m o st with
    | false =>
      have HR := Lib.hid (show putH (m, o, st, fs) = ([], 1) from putH_none ht ha)
      rw [ha] at HA
      clear ha ht
      go_wp2_with (first
        | (go_at_call 25; refine (HT.out _).mono ?_; rintro e w2 ⟨rfl, hG2⟩; have q0 := Gr.cell hG2 q0; have q1 := Gr.cell hG2 q1; have q2 := Gr.cell hG2 q2; have q3 := Gr.cell hG2 q3)
        | (go_at_call 31; refine (HA.out _).mono ?_; rintro e w3 ⟨rfl, hG3⟩))
      go_ret2
      rw [HR.out]
      exact ⟨none, 0, rfl, Byts.nil _, Gr.tr hG1 (Gr.tr hG2 hG3), fresh_nil _⟩
    | true =>
      have HLN := Lib.hid (show lineP (m, o, st, fs) = m ++ [32] ++ o ++ [32] ++ httpB from lineP_asks ht)
      have HFL := Lib.hid (show (tellsB m o st || asksB m o st) = true from by rw [ht, ha]; rfl)
      rw [ha] at HA
      clear ha ht
      go_upto_region 6 with (first
        | (go_at_call 25; refine (HT.out _).mono ?_; rintro e w2 ⟨rfl, hG2⟩; have q0 := Gr.cell hG2 q0; have q1 := Gr.cell hG2 q1; have q2 := Gr.cell hG2 q2; have q3 := Gr.cell hG2 q3)
        | (go_at_call 31; refine (HA.out _).mono ?_; rintro e w3 ⟨rfl, hG3⟩; have q3 := Gr.cell hG3 q3))
      have hGW := Gr.tr hG1 (Gr.tr hG2 hG3)
      have HGw3 := hGW
      rcases put_zero fs with hz | hz
      · have HR := Lib.hid (show putH (m, o, st, fs) = (lineP (m, o, st, fs) ++ [13, 10] ++ (put fs).1, 0) from putH_good HFL.out hz)
        rw [hz] at HF
        clear hz
        generalize (put fs).1 = blk at *
        go_wp2_with (first
          | (go_at_call 34; refine (HF.out _ (HU.out.gr hGW)).mono ?_; rintro e w7 ⟨rfl, hG7⟩)
          | (refine wpList_toByts _ rfl rfl rfl ?_ ?_; (simp only [List.length_append, List.length_cons, List.length_nil]; omega); intro A8 c8 w8 hb8 hG8 hf8; have HB8 := Lib.hid hb8; have HF8 := Lib.hid hf8; clear hb8 hf8))
        go_ret2
        rw [HR.out, HLN.out]
        refine ⟨A8, c8, ?_, ?_, Gr.tr hGW (Gr.tr hG7 hG8), ?_⟩
        · simp [httpB]
        · simpa [httpB] using HB8.out
        · simpa [httpB] using Fresh.tr (Gr.tr hGW hG7) HF8.out
      · have HR := Lib.hid (show putH (m, o, st, fs) = ([], (put fs).2) from putH_bad HFL.out hz)
        have hne : (((put fs).2 : Int) != 0) = true := by simp; exact hz
        generalize put fs = p at *
        go_wp2_with (go_at_call 34; refine (HF.out _ (HU.out.gr hGW)).mono ?_; rintro e w7 ⟨rfl, hG7⟩)
        go_ret2
        rw [HR.out]
        exact ⟨none, 0, rfl, Byts.nil _, Gr.tr hGW hG7, fresh_nil _⟩
end Go.Proofs.YtidijgofoklejaaDoor
