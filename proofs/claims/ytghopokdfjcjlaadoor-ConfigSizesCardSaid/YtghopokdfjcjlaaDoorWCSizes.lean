/- The walk of the law ConfigSizes. No conditions but the reach of the form, and that the tables lie. -/
import Derived.Test.YtghopokdfjcjlaaDoorConf12
namespace Go.Proofs.YtghopokdfjcjlaaDoor.lcsizes
open Go.RowKit
set_option maxHeartbeats 4000000 in
set_option maxRecDepth 100000 in
theorem walk (n : Int) (s : List UInt8) (w : World) (hp : Pw w) (hn : Nm w) (h0 : -9223372036854775808 ≤ n) (h1 : n ≤ 9223372036854775807) (hs : s.length ≤ 140737488355328) : Calls Tryd.prog 4 #[.int .i64 n, str s] w fun e w' => e = .returned (.bool true) ∧ Gr w w' := by
  have HP := Lib.hid hp
  have HNm := Lib.hid hn
  clear hp hn
  by_cases hl : 200 < s.length
  · have hd : decide (200 < (s.length : Int)) = true := decide_eq_true (by omega)
    go_enter Tryd.func4, Tryd.ntmps4
    go_wp2_with (go_at_call 8; refine (alive39_any _ HP.out HNm.out).mono ?_; rintro e w1 ⟨rfl, hG1⟩)
    go_ret
    exact ⟨rfl, hG1⟩
  · have hd : decide (200 < (s.length : Int)) = false := decide_eq_false (by omega)
    have HS := Lib.hid (fun (w : World) (h : Pw w) => show Calls Tryd.prog 15 #[str s] w fun e w' => e = .returned (.tuple #[.int .i64 (((sizeL s).getD 0 : Nat) : Int), .int .i64 (if (sizeL s).isSome then 0 else 2)]) ∧ Gr w w' from c_size_any s w h (by omega))
    have HRS := Lib.hid (fun (w : World) => show Calls Tryd.prog 16 #[str s] w fun e w' => e = .returned (.tuple #[.int .i64 (((sizeL s).getD 0 : Nat) : Int), .int .i64 (if (sizeL s).isSome then 0 else 2)]) ∧ Gr w w' from refSize39_any s w (by omega))
    have hsl := sized_len n h1
    have HB := Lib.hid (fun (w : World) (h : Pw w) => show Calls Tryd.prog 15 #[str (sizedL n)] w fun e w' => e = .returned (.tuple #[.int .i64 (((sizeL (sizedL n)).getD 0 : Nat) : Int), .int .i64 (if (sizeL (sizedL n)).isSome then 0 else 2)]) ∧ Gr w w' from c_size_any (sizedL n) w h (by omega))
    rw [size_sized] at HB
    have HW := Lib.hid (fun (w : World) (h : Pw w) => c_written_any n w h h0 h1)
    have HRW := Lib.hid (fun (w : World) => refSized39_any n w h1)
    generalize (if (sizeL s).isSome then (0 : Int) else 2) = es at *
    generalize (((sizeL s).getD 0 : Nat) : Int) = ns at *
    generalize sizedL n = t at *
    have e1 : (t != t) = false := by simp
    have e2 : (ns == ns) = true := by simp
    have e3 : (es == es) = true := by simp
    have HPW := Lib.hid (fun x (hx : Gr w x) => HP.out.gr hx)
    have h00 : Gr w w := Gr.refl _
    clear hl hsl
    by_cases hr : 0 ≤ n ∧ n ≤ 1125899906842624
    · rw [if_pos hr] at HB
      obtain ⟨m, rfl⟩ : ∃ m : Nat, n = m := ⟨n.toNat, by omega⟩
      have k1 : decide ((m : Int) < 0) = false := decide_eq_false (by omega)
      have k2 : decide (1125899906842624 < (m : Int)) = false := decide_eq_false (by omega)
      simp only [Int.toNat_natCast, Option.getD_some, Option.isSome_some, if_true] at HB
      have e4 : ((m : Int) == (m : Int)) = true := by simp
      clear hr h0
      go_enter Tryd.func4, Tryd.ntmps4
      go_upto_region 10 with (first | (go_at_call 8; refine (alive39_any _ HP.out HNm.out).mono ?_; rintro e wn ⟨rfl, hgn⟩; have hgg : Gr w wn := hgn; clear hgn) | (go_at_call 13; refine (HW.out _ (HPW.out _ (by assumption))).mono ?_; rintro e wn ⟨rfl, hgn⟩; have hgg : Gr w wn := Gr.tr (by assumption) hgn; clear hgn) | (go_at_call 14; refine (HRW.out _).mono ?_; rintro e wn ⟨rfl, hgn⟩; have hgg : Gr w wn := Gr.tr (by assumption) hgn; clear hgn) | (go_at_call 15; refine (HS.out _ (HPW.out _ (by assumption))).mono ?_; rintro e wn ⟨rfl, hgn⟩; have hgg : Gr w wn := Gr.tr (by assumption) hgn; clear hgn) | (go_at_call 16; refine (HRS.out _).mono ?_; rintro e wn ⟨rfl, hgn⟩; have hgg : Gr w wn := Gr.tr (by assumption) hgn; clear hgn))
      go_wp2_with (go_at_call 15; refine (HB.out _ (HPW.out _ (by assumption))).mono ?_; rintro e wn ⟨rfl, hgn⟩; have hgg : Gr w wn := Gr.tr (by assumption) hgn; clear hgn)
      go_ret
      exact ⟨by simp, by assumption⟩
    · rw [if_neg hr] at HB
      simp only [Option.getD_none, Option.isSome_none, if_false, Bool.false_eq_true] at HB
      by_cases hneg : n < 0
      · have k1 : decide (n < 0) = true := decide_eq_true hneg
        clear hr hneg
        go_enter Tryd.func4, Tryd.ntmps4
        go_upto_region 10 with (first | (go_at_call 8; refine (alive39_any _ HP.out HNm.out).mono ?_; rintro e wn ⟨rfl, hgn⟩; have hgg : Gr w wn := hgn; clear hgn) | (go_at_call 13; refine (HW.out _ (HPW.out _ (by assumption))).mono ?_; rintro e wn ⟨rfl, hgn⟩; have hgg : Gr w wn := Gr.tr (by assumption) hgn; clear hgn) | (go_at_call 14; refine (HRW.out _).mono ?_; rintro e wn ⟨rfl, hgn⟩; have hgg : Gr w wn := Gr.tr (by assumption) hgn; clear hgn) | (go_at_call 15; refine (HS.out _ (HPW.out _ (by assumption))).mono ?_; rintro e wn ⟨rfl, hgn⟩; have hgg : Gr w wn := Gr.tr (by assumption) hgn; clear hgn) | (go_at_call 16; refine (HRS.out _).mono ?_; rintro e wn ⟨rfl, hgn⟩; have hgg : Gr w wn := Gr.tr (by assumption) hgn; clear hgn))
        go_wp2_with (go_at_call 15; refine (HB.out _ (HPW.out _ (by assumption))).mono ?_; rintro e wn ⟨rfl, hgn⟩; have hgg : Gr w wn := Gr.tr (by assumption) hgn; clear hgn)
        go_ret
        exact ⟨by simp, by assumption⟩
      · have k1 : decide (n < 0) = false := decide_eq_false hneg
        have k2 : decide (1125899906842624 < n) = true := decide_eq_true (by omega)
        clear hr hneg
        go_enter Tryd.func4, Tryd.ntmps4
        go_upto_region 10 with (first | (go_at_call 8; refine (alive39_any _ HP.out HNm.out).mono ?_; rintro e wn ⟨rfl, hgn⟩; have hgg : Gr w wn := hgn; clear hgn) | (go_at_call 13; refine (HW.out _ (HPW.out _ (by assumption))).mono ?_; rintro e wn ⟨rfl, hgn⟩; have hgg : Gr w wn := Gr.tr (by assumption) hgn; clear hgn) | (go_at_call 14; refine (HRW.out _).mono ?_; rintro e wn ⟨rfl, hgn⟩; have hgg : Gr w wn := Gr.tr (by assumption) hgn; clear hgn) | (go_at_call 15; refine (HS.out _ (HPW.out _ (by assumption))).mono ?_; rintro e wn ⟨rfl, hgn⟩; have hgg : Gr w wn := Gr.tr (by assumption) hgn; clear hgn) | (go_at_call 16; refine (HRS.out _).mono ?_; rintro e wn ⟨rfl, hgn⟩; have hgg : Gr w wn := Gr.tr (by assumption) hgn; clear hgn))
        go_wp2_with (go_at_call 15; refine (HB.out _ (HPW.out _ (by assumption))).mono ?_; rintro e wn ⟨rfl, hgn⟩; have hgg : Gr w wn := Gr.tr (by assumption) hgn; clear hgn)
        go_ret
        exact ⟨by simp, by assumption⟩
end Go.Proofs.YtghopokdfjcjlaaDoor.lcsizes
