/- Numbers in sixteens, plain law: the shortest text. No conditions. -/
import Derived.Test.YtnmfmcmokdoieaaDoorMulti17
set_option linter.unusedVariables false
set_option linter.unusedSimpArgs false
namespace Go.Proofs.YtnmfmcmokdoieaaDoor
open Go.RowKit
theorem hexW_snoc : ∀ (i n : Nat), hexW (i + 1) n = hexW i (n / 16) ++ [hexD (n % 16)]
  | 0, n => by simp [hexW]
  | i + 1, n => by
    rw [hexW, hexW_snoc i n, hexW, List.cons_append, Nat.div_div_eq_div_mul, Nat.pow_succ, Nat.mul_comm]
/-- a number in sixteens, no nought ahead -/
def hexT (n : Nat) : List UInt8 := if n < 16 then [hexD n] else hexT (n / 16) ++ [hexD (n % 16)]
termination_by n
decreasing_by omega
theorem hexT_of : ∀ (j n : Nat), n < 16 ^ (j + 1) → (j = 0 ∨ 16 ^ j ≤ n) → hexW (j + 1) n = hexT n
  | 0, n, h, _ => by
    have h' : n < 16 := by simpa using h
    rw [hexT, if_pos h']; simp [hexW, Nat.mod_eq_of_lt h']
  | j + 1, n, h, h2 => by
    have h16 : 16 ≤ n := by
      rcases h2 with h2 | h2
      · omega
      · have := Nat.pow_le_pow_right (n := 16) (by omega) (show 1 ≤ j + 1 by omega); omega
    have hd : n / 16 < 16 ^ (j + 1) := by rw [Nat.div_lt_iff_lt_mul (by omega), ← Nat.pow_succ]; exact h
    rw [hexT, if_neg (by omega), hexW_snoc, hexT_of j (n / 16) hd (by
      rcases h2 with h2 | h2
      · omega
      · right; rw [Nat.le_div_iff_mul_le (by omega), ← Nat.pow_succ]; exact h2)]
theorem hexT_len (n : Nat) (j : Nat) (h : n < 16 ^ (j + 1)) (h2 : j = 0 ∨ 16 ^ j ≤ n) : (hexT n).length = j + 1 := by rw [← hexT_of j n h h2, hexW_len]
/-- how many digits a number has -/
theorem hexT_ex : ∀ (m n : Nat), n < 16 ^ (m + 1) → ∃ j, j ≤ m ∧ n < 16 ^ (j + 1) ∧ (j = 0 ∨ 16 ^ j ≤ n)
  | 0, n, h => ⟨0, Nat.le_refl _, h, .inl rfl⟩
  | m + 1, n, h => by
    rcases Nat.lt_or_ge n (16 ^ (m + 1)) with h1 | h1
    · obtain ⟨j, hj, h2⟩ := hexT_ex m n h1
      exact ⟨j, by omega, h2⟩
    · exact ⟨m + 1, Nat.le_refl _, h, .inr h1⟩
theorem hexT_le (n : Nat) (h : n < 18446744073709551616) : 1 ≤ (hexT n).length ∧ (hexT n).length ≤ 16 := by
  obtain ⟨j, hj, h1, h2⟩ := hexT_ex 15 n h
  rw [hexT_len n j h1 h2]; omega
theorem hexT_pad (n : Nat) (h : n < 18446744073709551616) : hexW 16 n = List.replicate (16 - (hexT n).length) 48 ++ hexT n := by
  obtain ⟨j, hj, h1, h2⟩ := hexT_ex 15 n h
  rw [hexT_len n j h1 h2, ← hexT_of j n h1 h2]
  exact hexW_pad 16 (j + 1) n (by omega) h1
end Go.Proofs.YtnmfmcmokdoieaaDoor
