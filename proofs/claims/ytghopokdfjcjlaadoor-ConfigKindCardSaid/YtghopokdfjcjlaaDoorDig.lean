/- A number's decimal digits, as the references write them: contracts. No conditions but the numbers' bounds. -/
import Derived.Test.YtghopokdfjcjlaaDoorJConfL
import Derived.Test.YtghopokdfjcjlaaDoorShelf
import Derived.Test.YtghopokdfjcjlaaDoorTab
namespace Go.Proofs.YtghopokdfjcjlaaDoor
open Go.RowKit
theorem dig_slice (m : Nat) (h : m < 10) : (List.drop m [48, 49, 50, 51, 52, 53, 54, 55, 56, 57]).take 1 = ([UInt8.ofNat (48 + m)] : List UInt8) := by
  have : ∀ k : Fin 10, (List.drop k.val [48, 49, 50, 51, 52, 53, 54, 55, 56, 57]).take 1 = ([UInt8.ofNat (48 + k.val)] : List UInt8) := by decide
  exact this ⟨m, h⟩
theorem dec_small {m : Nat} (h : m < 10) : Lib.decDigits m = [UInt8.ofNat (48 + m)] := by rw [Lib.decDigits, dif_pos h]
theorem dec_great {m : Nat} (h : ¬ m < 10) : Lib.decDigits m = Lib.decDigits (m / 10) ++ [UInt8.ofNat (48 + m % 10)] := by rw [Lib.decDigits, dif_neg h]
theorem dec_len19 {m : Nat} (h : m ≤ 9223372036854775807) : (Lib.decDigits m).length ≤ 19 := (dec_len m 19 (by omega) (by omega)).2
theorem itoa_len {m : Nat} (h : m ≤ 9223372036854775807) : (Lib.itoa (m : Int)).length ≤ 19 := by rw [itoa_nat]; exact dec_len19 h
set_option maxHeartbeats 1000000 in
theorem fmtInt_any (n : Int) (w : World) (hp : Pw w) (h0 : -9223372036854775808 ≤ n) (h1 : n ≤ 9223372036854775807) : Calls Tryd.prog 24 #[.int .i64 n, .int .i64 10] w fun e w' => e = .returned (str (Lib.itoa n)) ∧ Gr w w' := by
  have HP := Lib.hid hp
  clear hp
  go_enter Tryd.func24, Tryd.ntmps24
  go_wp2_with (go_at_call 39; refine (Tryd.internal_strconv_FormatInt_10 n h0 h1 w HP.out).mono ?_; rintro e w1 ⟨rfl, k, os, hw⟩)
  go_ret
  exact ⟨rfl, by subst hw; exact gr_grow w k os⟩
set_option maxHeartbeats 2000000 in
theorem refDigits39_any (m : Nat) : ∀ (w : World), m ≤ 9223372036854775807 → Calls Tryd.prog 25 #[.int .i64 m] w fun e w' => e = .returned (str (Lib.decDigits m)) ∧ Gr w w' := by
  induction m using Nat.strongRecOn with
  | _ m ih =>
    intro w hm
    by_cases h : m < 10
    · have k1 : decide ((m : Int) < 10) = true := decide_eq_true (by omega)
      have HD := Lib.hid (dec_small h)
      have HS := Lib.hid (dig_slice m h)
      go_enter Tryd.func25, Tryd.ntmps25
      go_wp2_with fail
      go_ret
      refine ⟨?_, Gr.refl _⟩
      rw [HD.out, ← HS.out]; rfl
    · have k1 : decide ((m : Int) < 10) = false := decide_eq_false (by omega)
      have HI := Lib.hid (fun (w : World) => show Calls Tryd.prog 25 #[.int .i64 ((m : Int) / 10)] w fun e w' => e = .returned (str (Lib.decDigits (m / 10))) ∧ Gr w w' from by
        rw [show (m : Int) / 10 = ((m / 10 : Nat) : Int) from by omega]
        exact ih (m / 10) (by omega) w (by omega))
      have HD := Lib.hid (dec_great h)
      have HS := Lib.hid (dig_slice (m % 10) (by omega))
      have hl : (Lib.decDigits (m / 10)).length ≤ 19 := dec_len19 (by omega)
      clear ih h
      go_enter Tryd.func25, Tryd.ntmps25
      go_upto_region 3 with fail
      refine wp_region_gw (by kernel_rfl) (by kernel_rfl) ?_
      repeat (first | go_big_quiet_step ((go_at_call 25; exact gw_call (HI.out _))) | quiet_step ((go_at_call 25; exact gw_call (HI.out _))))
      refine wpQuiet_nil ?_; intro wq hwq; obtain ⟨iq, rfl⟩ := hwq
      go_wp2_with fail
      go_ret
      refine ⟨?_, gw_gr _ _⟩
      rw [HD.out, ← HS.out]; rfl
end Go.Proofs.YtghopokdfjcjlaaDoor
