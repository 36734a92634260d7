/- Plain mathematics of layer 11: spans, content ranges. No conditions. -/
import Derived.Test.YtnmfmcmokdoieaaGreatDoorDig
set_option linter.unusedVariables false
set_option linter.unusedSimpArgs false
namespace Go.Proofs.YtnmfmcmokdoieaaGreatDoor
def spanB (f t : Int) : Bool := decide (0 ≤ f) && (decide (f ≤ t) && decide (t ≤ 4611686018427387904))
/-- how a content range begins -/
def headC (f t : Int) : List UInt8 := [98, 121, 116, 101, 115, 32] ++ Lib.itoa f ++ [45] ++ Lib.itoa (t - 1) ++ [47]
/-- may a span of so many bytes have one? -/
def contB (f t n : Int) : Bool := spanB f t && decide (f ≠ t) && decide (t ≠ 4611686018427387904) && decide (-1 ≤ n) && decide (n ≤ 4611686018427387903) && (decide (n = -1) || decide (t ≤ n))
def contentL (f t n : Int) : List UInt8 := if contB f t n = true then headC f t ++ (if n = -1 then [42] else Lib.itoa n) else []
theorem cont_span {f t n : Int} (h : spanB f t = false) : contentL f t n = [] := by unfold contentL contB; rw [h]; simp
theorem cont_same {f t n : Int} (h : f = t) : contentL f t n = [] := by unfold contentL contB; rw [decide_eq_false (show ¬ f ≠ t by simpa using h)]; simp
theorem cont_open {f t n : Int} (h : t = 4611686018427387904) : contentL f t n = [] := by unfold contentL contB; rw [decide_eq_false (show ¬ t ≠ 4611686018427387904 by simpa using h)]; simp
theorem cont_low {f t n : Int} (h : n < -1) : contentL f t n = [] := by unfold contentL contB; rw [decide_eq_false (show ¬ -1 ≤ n by omega)]; simp
theorem cont_high {f t n : Int} (h : 4611686018427387903 < n) : contentL f t n = [] := by unfold contentL contB; rw [decide_eq_false (show ¬ n ≤ 4611686018427387903 by omega)]; simp
theorem cont_behind {f t n : Int} (h : n ≠ -1) (h2 : n < t) : contentL f t n = [] := by unfold contentL contB; rw [decide_eq_false h, decide_eq_false (show ¬ t ≤ n by omega)]; simp
theorem cont_any {f t n : Int} (h1 : spanB f t = true) (h2 : ¬ f = t) (h3 : ¬ t = 4611686018427387904) (h4 : ¬ n < -1) (h5 : ¬ 4611686018427387903 < n) (h6 : n = -1 ∨ t ≤ n) : contentL f t n = headC f t ++ (if n = -1 then [42] else Lib.itoa n) := by
  have : contB f t n = true := by
    unfold contB
    rw [h1, decide_eq_true h2, decide_eq_true h3, decide_eq_true (show -1 ≤ n by omega), decide_eq_true (show n ≤ 4611686018427387903 by omega)]
    rcases h6 with h | h
    · rw [decide_eq_true h]; rfl
    · rw [decide_eq_true h]; simp
  unfold contentL; rw [if_pos this]
theorem span_bounds {f t : Int} (h : spanB f t = true) : 0 ≤ f ∧ f ≤ t ∧ t ≤ 4611686018427387904 := by
  unfold spanB at h; simp only [Bool.and_eq_true, decide_eq_true_eq] at h; exact ⟨h.1, h.2.1, h.2.2⟩
theorem itoa_len_int {x : Int} (h0 : 0 ≤ x) (h1 : x ≤ 9223372036854775807) : (Lib.itoa x).length ≤ 19 := by
  obtain ⟨m, rfl⟩ : ∃ m : Nat, x = m := ⟨x.toNat, by omega⟩
  exact itoa_len (by omega)
theorem cont_len (f t n : Int) : (contentL f t n).length ≤ 70 := by
  unfold contentL
  split
  · rename_i h
    unfold contB at h
    simp only [Bool.and_eq_true, Bool.or_eq_true, decide_eq_true_eq] at h
    obtain ⟨⟨⟨⟨⟨h1, h2⟩, h3⟩, h4⟩, h5⟩, h6⟩ := h
    have hb := span_bounds h1
    have a := itoa_len_int (x := f) hb.1 (by omega)
    have b := itoa_len_int (x := t - 1) (by omega) (by omega)
    unfold headC
    split
    · simp; omega
    · have c := itoa_len_int (x := n) (by omega) (by omega)
      simp; omega
  · simp
end Go.Proofs.YtnmfmcmokdoieaaGreatDoor
