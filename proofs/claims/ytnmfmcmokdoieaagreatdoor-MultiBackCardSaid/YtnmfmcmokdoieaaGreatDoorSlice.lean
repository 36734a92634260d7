/- Slices of texts and of fields, opened at an element. No conditions. -/
import Derived.Test.YtnmfmcmokdoieaaGreatDoorBase
set_option linter.unusedVariables false
set_option linter.unusedSimpArgs false
namespace Go.Proofs.YtnmfmcmokdoieaaGreatDoor
open Go.RowKit
theorem Sl.open {w : World} {v : Value} {n : Nat} {cs : List Value} (h : Sl w v n cs) : ∃ A c, v = .slice A n c ∧ n ≤ c ∧ n ≤ 9223372036854775807 ∧ (∀ (j : Nat) (u : Value), cs[j]? = some u → ∃ b o, A = some ⟨b, o, none⟩ ∧ b < w.heap.size ∧ ∀ (j : Nat) u, cs[j]? = some u → w.cell? ⟨b, o + j, none⟩ = some u) := by
  obtain ⟨A, c, hv, hc, hm, h⟩ := h
  refine ⟨A, c, hv, hc, hm, fun j u hu => ?_⟩
  rcases h with h | h
  · rw [h] at hu; simp at hu
  · exact h
theorem flat2_len (fs : List (List UInt8 × List UInt8)) : (flat2 fs).length = fs.length * 2 := by
  induction fs with
  | nil => rfl
  | cons f fs ih => simp only [flat2, List.flatMap_cons, List.length_append, List.length_cons, List.length_nil] at *; omega
theorem flat2_cons (f : List UInt8 × List UInt8) (fs : List (List UInt8 × List UInt8)) : flat2 (f :: fs) = str f.1 :: str f.2 :: flat2 fs := rfl
theorem flat2_append (a b : List (List UInt8 × List UInt8)) : flat2 (a ++ b) = flat2 a ++ flat2 b := by simp [flat2]
theorem flat2_at (fs : List (List UInt8 × List UInt8)) (k : Nat) (h : k < fs.length) : (flat2 fs)[k * 2]? = some (str fs[k].1) ∧ (flat2 fs)[k * 2 + 1]? = some (str fs[k].2) := by
  induction fs generalizing k with
  | nil => simp at h
  | cons f fs ih =>
    rw [flat2_cons]
    cases k with
    | zero => simp
    | succ k =>
      have := ih k (by simpa using h)
      rw [show (k + 1) * 2 = k * 2 + 1 + 1 from by omega]
      simpa using this
theorem Strs.open {w : World} {v : Value} {xs : List (List UInt8)} (h : Strs w v xs) : ∃ A c, v = .slice A xs.length c ∧ xs.length ≤ c ∧ xs.length ≤ 9223372036854775807 ∧ ∀ (k : Nat) (hk : k < xs.length), ∃ b o, A = some ⟨b, o, none⟩ ∧ b < w.heap.size ∧ w.cell? ⟨b, o + k, none⟩ = some (str xs[k]) := by
  obtain ⟨A, c, hv, hc, hm, ho⟩ := Sl.open h
  refine ⟨A, c, hv, hc, hm, fun k hk => ?_⟩
  have he : (xs.map str)[k]? = some (str xs[k]) := by simp [List.getElem?_eq_getElem hk]
  obtain ⟨b, o, hA, hb, hj⟩ := ho k _ he
  exact ⟨b, o, hA, hb, hj k _ he⟩
theorem Flds.open {w : World} {v : Value} {xs : List (List UInt8 × List UInt8)} (h : Flds w v xs) : ∃ A c, v = .slice A xs.length c ∧ xs.length ≤ c ∧ xs.length ≤ 9223372036854775807 ∧ ∀ (k : Nat) (hk : k < xs.length), ∃ b o, A = some ⟨b, o, none⟩ ∧ b < w.heap.size ∧ w.cell? ⟨b, o + k * 2, none⟩ = some (str xs[k].1) ∧ w.cell? ⟨b, o + k * 2 + 1, none⟩ = some (str xs[k].2) := by
  obtain ⟨A, c, hv, hc, hm, ho⟩ := Sl.open h
  refine ⟨A, c, hv, hc, hm, fun k hk => ?_⟩
  obtain ⟨e1, e2⟩ := flat2_at xs k hk
  obtain ⟨b, o, hA, hb, hj⟩ := ho _ _ e1
  exact ⟨b, o, hA, hb, hj _ _ e1, by rw [Nat.add_assoc]; exact hj _ _ e2⟩
/-- every length is small -/
def Short (xs : List (List UInt8)) : Prop := ∀ x ∈ xs, x.length ≤ 140737488355328
def Short2 (xs : List (List UInt8 × List UInt8)) : Prop := ∀ x ∈ xs, x.1.length ≤ 140737488355328 ∧ x.2.length ≤ 140737488355328
theorem Short2.at {xs} (h : Short2 xs) (k : Nat) (hk : k < xs.length) : xs[k].1.length ≤ 140737488355328 ∧ xs[k].2.length ≤ 140737488355328 := h _ (List.getElem_mem hk)
theorem Short.at {xs} (h : Short xs) (k : Nat) (hk : k < xs.length) : xs[k].length ≤ 140737488355328 := h _ (List.getElem_mem hk)
end Go.Proofs.YtnmfmcmokdoieaaGreatDoor
