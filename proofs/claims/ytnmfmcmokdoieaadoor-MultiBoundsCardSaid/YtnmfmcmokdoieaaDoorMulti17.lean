/- Layer 11: numbers in sixteens, plain law: with noughts ahead; a boundary's bytes are letters and digits. No conditions. -/
import Derived.Test.YtnmfmcmokdoieaaDoorMulti16
set_option linter.unusedVariables false
set_option linter.unusedSimpArgs false
namespace Go.Proofs.YtnmfmcmokdoieaaDoor
open Go.RowKit
theorem hexW_pad : ∀ (i j n : Nat), j ≤ i → n < 16 ^ j → hexW i n = List.replicate (i - j) 48 ++ hexW j n
  | 0, j, n, hj, _ => by
    have : j = 0 := by omega
    subst this; rfl
  | i + 1, j, n, hj, hn => by
    rcases Nat.lt_or_ge i j with h | h
    · have : j = i + 1 := by omega
      subst this; simp
    · have hz : n / 16 ^ i = 0 := Nat.div_eq_of_lt (Nat.lt_of_lt_of_le hn (Nat.pow_le_pow_right (by omega) h))
      rw [hexW, hz, hexW_pad i j n h hn, show i + 1 - j = (i - j) + 1 from by omega, List.replicate_succ]
      rfl
theorem hexD_letter {d : Nat} (h : d < 16) : letterC (hexD d) = true := by
  have : ∀ x : Fin 16, letterC (hexD x.1) = true := by decide
  exact this ⟨d, h⟩
theorem hexW_letter : ∀ (i n : Nat), (hexW i n).all letterC = true
  | 0, _ => rfl
  | i + 1, n => by rw [hexW, List.all_cons, hexD_letter (Nat.mod_lt _ (by omega)), hexW_letter i n]; rfl
theorem boundN_len (k : Int) : (boundN k).length = 21 := by unfold boundN; rw [List.length_append, hexW_len]; rfl
theorem boundN_ok (k : Int) : boundB (boundN k) = true := by
  refine bound_yes ?_ (by rw [boundN_len]; decide) (by rw [boundN_len]; decide)
  unfold boundN
  rw [List.all_append, hexW_letter]; rfl
end Go.Proofs.YtnmfmcmokdoieaaDoor
