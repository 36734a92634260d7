/- A number's decimal digits, as the references write them: contracts. No conditions but the numbers' bounds. -/
import Derived.Test.YtnmfmcmokdoieaaGreatDoorJConfL
import Derived.Test.YtnmfmcmokdoieaaGreatDoorShelf
import Derived.Test.YtnmfmcmokdoieaaGreatDoorTab
set_option linter.unusedVariables false
set_option linter.unusedSimpArgs false
namespace Go.Proofs.YtnmfmcmokdoieaaGreatDoor
open Go.RowKit
theorem dig_slice (m : Nat) (h : m < 10) : (List.drop m [48, 49, 50, 51, 52, 53, 54, 55, 56, 57]).take 1 = ([UInt8.ofNat (48 + m)] : List UInt8) := by
  have : ∀ k : Fin 10, (List.drop k.val [48, 49, 50, 51, 52, 53, 54, 55, 56, 57]).take 1 = ([UInt8.ofNat (48 + k.val)] : List UInt8) := by decide
  exact this ⟨m, h⟩
theorem dec_small {m : Nat} (h : m < 10) : Lib.decDigits m = [UInt8.ofNat (48 + m)] := by rw [Lib.decDigits, dif_pos h]
theorem dec_great {m : Nat} (h : ¬ m < 10) : Lib.decDigits m = Lib.decDigits (m / 10) ++ [UInt8.ofNat (48 + m % 10)] := by rw [Lib.decDigits, dif_neg h]
theorem dec_len19 {m : Nat} (h : m ≤ 9223372036854775807) : (Lib.decDigits m).length ≤ 19 := (dec_len m 19 (by omega) (by omega)).2
theorem itoa_len {m : Nat} (h : m ≤ 9223372036854775807) : (Lib.itoa (m : Int)).length ≤ 19 := by rw [itoa_nat]; exact dec_len19 h
set_option maxHeartbeats 1000000 in
theorem fmtInt_any (n : Int) (w : World) (hp : Pw w) (h0 : -9223372036854775808 ≤ n) (h1 : n ≤ 9223372036854775807) : Calls Tryz.prog 23 #[.int .i64 n, .int .i64 10] w fun e w' => e = .returned (str (Lib.itoa n)) ∧ Gr w w' := by
  have HP := Lib.hid hp
  clear hp
  go_enter Tryz.func23, Tryz.ntmps23
  go_wp2_with (go_at_call 37; refine (Tryz.internal_strconv_FormatInt_10 n h0 h1 w HP.out).mono ?_; rintro e w1 ⟨rfl, k, os, hw⟩)
  go_ret
  exact ⟨rfl, by subst hw; exact gr_grow w k os⟩
end Go.Proofs.YtnmfmcmokdoieaaGreatDoor
