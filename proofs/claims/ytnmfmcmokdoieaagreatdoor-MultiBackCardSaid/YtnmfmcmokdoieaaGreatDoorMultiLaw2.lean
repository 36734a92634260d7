/- Plain mathematics of layer 11: what a text says as a content range. No conditions. -/
import Derived.Test.YtnmfmcmokdoieaaGreatDoorMultiLaw1
import Derived.Lib.ParseIntB
set_option linter.unusedVariables false
set_option linter.unusedSimpArgs false
namespace Go.Proofs.YtnmfmcmokdoieaaGreatDoor
def digF (n : Nat) (c : UInt8) : Nat := n * 10 + (c.toNat - 48)
/-- the number with which a text begins, as the document reads it -/
def numGo : List UInt8 → Nat → Nat → Nat × Nat
  | [], i, n => (n, i)
  | c :: r, i, n => if i < 19 ∧ digC c = true then (if 461168601842738790 < n then (0, 0) else if 4611686018427387904 ≤ digF n c then (0, 0) else numGo r (i + 1) (digF n c)) else (n, i)
def numR (s : List UInt8) : Nat × Nat := numGo s 0 0
theorem foldF_ge (l : List UInt8) (n : Nat) : n ≤ l.foldl digF n := by
  induction l generalizing n with
  | nil => exact Nat.le_refl _
  | cons c l ih => have := ih (digF n c); simp only [List.foldl_cons]; unfold digF at *; omega
theorem numGo_app (l r : List UInt8) (hl : l.all digC = true) (hr : ∀ c, r.head? = some c → digC c = false) : ∀ (i n : Nat), i + l.length ≤ 19 → l.foldl digF n < 4611686018427387904 → numGo (l ++ r) i n = (l.foldl digF n, i + l.length) := by
  induction l with
  | nil =>
    intro i n _ _
    cases r with
    | nil => rfl
    | cons c r =>
      have := hr c rfl
      simp only [List.nil_append, numGo]
      rw [if_neg (by rintro ⟨_, h⟩; rw [this] at h; cases h)]; rfl
  | cons c l ih =>
    intro i n hi hv
    rw [List.all_cons, Bool.and_eq_true] at hl
    simp only [List.foldl_cons] at hv ⊢
    have hg := foldF_ge l (digF n c)
    have hn : n * 10 ≤ digF n c := by unfold digF; omega
    simp only [List.length_cons] at hi
    rw [List.cons_append]
    unfold numGo
    rw [if_pos ⟨by omega, hl.1⟩, if_neg (by omega), if_neg (by omega), ih hl.2 (i + 1) _ (by omega) hv]
    simp; omega
theorem numR_dec (m : Nat) (r : List UInt8) (hm : m < 4611686018427387904) (hr : ∀ c, r.head? = some c → digC c = false) : numR (Lib.decDigits m ++ r) = (m, (Lib.decDigits m).length) := by
  have h1 := dec_all m
  have h2 := dec_len19 (m := m) (by omega)
  have h3 : (Lib.decDigits m).foldl digF 0 = m := h1.2
  unfold numR
  rw [numGo_app _ r h1.1 hr 0 0 (by omega) (by rw [h3]; exact hm), h3, Nat.zero_add]
def totR (c : Nat × Nat) : Int := if c.2 = 0 then -1 else c.1
/-- the span and the size that a text says, as the document reads it -/
def rangeR (s : List UInt8) : Option (Int × Int × Int) :=
  if s.take 6 ≠ [98, 121, 116, 101, 115, 32] then none else
  if s.length ≤ 6 + (numR (s.drop 6)).2 then none else
  if s.length ≤ 6 + (numR (s.drop 6)).2 + 1 + (numR (s.drop (6 + (numR (s.drop 6)).2 + 1))).2 then none else
  if contentL (numR (s.drop 6)).1 ((numR (s.drop (6 + (numR (s.drop 6)).2 + 1))).1 + 1) (totR (numR (s.drop (6 + (numR (s.drop 6)).2 + 1 + (numR (s.drop (6 + (numR (s.drop 6)).2 + 1))).2 + 1)))) = s then some ((numR (s.drop 6)).1, (numR (s.drop (6 + (numR (s.drop 6)).2 + 1))).1 + 1, totR (numR (s.drop (6 + (numR (s.drop 6)).2 + 1 + (numR (s.drop (6 + (numR (s.drop 6)).2 + 1))).2 + 1)))) else none
/-- what reads first, second and third number -/
theorem rangeR_of {s : List UInt8} {a1 a2 b1 b2 c1 c2 : Nat} (h0 : s.take 6 = [98, 121, 116, 101, 115, 32]) (ha : numR (s.drop 6) = (a1, a2)) (hl1 : 6 + a2 < s.length) (hb : numR (s.drop (6 + a2 + 1)) = (b1, b2)) (hl2 : 6 + a2 + 1 + b2 < s.length) (hc : numR (s.drop (6 + a2 + 1 + b2 + 1)) = (c1, c2)) :
    rangeR s = if contentL a1 (b1 + 1) (totR (c1, c2)) = s then some ((a1 : Int), (b1 : Int) + 1, totR (c1, c2)) else none := by
  unfold rangeR
  rw [if_neg (by simpa using h0)]
  simp only [ha]
  rw [if_neg (by omega)]
  simp only [hb]
  rw [if_neg (by omega)]
  simp only [hc]
theorem dig_colon : digC 45 = false ∧ digC 47 = false ∧ digC 42 = false := by decide
theorem rangeR_some {s : List UInt8} {x : Int × Int × Int} (h : rangeR s = some x) : contentL x.1 x.2.1 x.2.2 = s ∧ s ≠ [] := by
  unfold rangeR at h
  split at h
  · cases h
  · rename_i h0
    split at h
    · cases h
    · split at h
      · cases h
      · split at h
        · rename_i hc
          injection h with h
          subst h
          refine ⟨hc, ?_⟩
          rintro rfl
          simp at h0
        · cases h
theorem cont_yes {f t n : Int} (h : contentL f t n ≠ []) : contB f t n = true := by
  unfold contentL at h
  split at h
  · assumption
  · exact absurd rfl h
theorem cont_parts {f t n : Int} (h : contB f t n = true) : 0 ≤ f ∧ f < t ∧ t < 4611686018427387904 ∧ -1 ≤ n ∧ n < 4611686018427387904 ∧ (n = -1 ∨ t ≤ n) := by
  unfold contB at h
  simp only [Bool.and_eq_true, Bool.or_eq_true, decide_eq_true_eq] at h
  obtain ⟨⟨⟨⟨⟨h1, h2⟩, h3⟩, h4⟩, h5⟩, h6⟩ := h
  have hb := span_bounds h1
  omega
/-- what is written is read as it was -/
theorem rangeR_content {f t n : Int} (h : contB f t n = true) : rangeR (contentL f t n) = some (f, t, n) := by
  obtain ⟨h0, h1, h2, h3, h4, h5⟩ := cont_parts h
  obtain ⟨a, rfl⟩ : ∃ a : Nat, f = a := ⟨f.toNat, by omega⟩
  obtain ⟨b, hb⟩ : ∃ b : Nat, t = (b : Int) + 1 := ⟨(t - 1).toNat, by omega⟩
  subst hb
  have hX : ∃ X : List UInt8, (if n = -1 then [42] else Lib.itoa n) = X ∧ X ≠ [] ∧ numR X = (if n = -1 then (0, 0) else (n.toNat, (Lib.decDigits n.toNat).length)) := by
    refine ⟨_, rfl, ?_, ?_⟩
    · split
      · simp
      · obtain ⟨m, rfl⟩ : ∃ m : Nat, n = m := ⟨n.toNat, by omega⟩
        rw [itoa_nat]; exact dec_ne m
    · split
      · rfl
      · obtain ⟨m, rfl⟩ : ∃ m : Nat, n = m := ⟨n.toNat, by omega⟩
        have := numR_dec m [] (by omega) (by simp)
        rw [List.append_nil] at this
        rw [itoa_nat, this, Int.toNat_natCast]
  obtain ⟨X, hX, hXn, hXr⟩ := hX
  have hs : contentL (a : Int) ((b : Int) + 1) n = [98, 121, 116, 101, 115, 32] ++ (Lib.decDigits a ++ (45 :: (Lib.decDigits b ++ (47 :: X)))) := by
    unfold contentL headC
    rw [if_pos h, hX, itoa_nat, show (b : Int) + 1 - 1 = (b : Int) from by omega, itoa_nat]
    simp
  have hXl : 0 < X.length := List.length_pos_iff.2 hXn
  have e1 : numR ((contentL (a : Int) ((b : Int) + 1) n).drop 6) = (a, (Lib.decDigits a).length) := by
    rw [hs]
    have := numR_dec a (45 :: (Lib.decDigits b ++ (47 :: X))) (by omega) (by intro c hc; cases hc; exact dig_colon.1)
    exact this
  have d1 : (contentL (a : Int) ((b : Int) + 1) n).drop (6 + (Lib.decDigits a).length + 1) = Lib.decDigits b ++ (47 :: X) := by
    rw [hs, show [98, 121, 116, 101, 115, 32] ++ (Lib.decDigits a ++ (45 :: (Lib.decDigits b ++ (47 :: X)))) = ([98, 121, 116, 101, 115, 32] ++ Lib.decDigits a ++ [45]) ++ (Lib.decDigits b ++ (47 :: X)) from by simp]
    rw [List.drop_append_of_le_length (by simp; omega), List.drop_eq_nil_of_le (by simp; omega), List.nil_append]
  have d2 : (contentL (a : Int) ((b : Int) + 1) n).drop (6 + (Lib.decDigits a).length + 1 + (Lib.decDigits b).length + 1) = X := by
    rw [hs, show [98, 121, 116, 101, 115, 32] ++ (Lib.decDigits a ++ (45 :: (Lib.decDigits b ++ (47 :: X)))) = ([98, 121, 116, 101, 115, 32] ++ Lib.decDigits a ++ [45] ++ Lib.decDigits b ++ [47]) ++ X from by simp]
    rw [List.drop_append_of_le_length (by simp; omega), List.drop_eq_nil_of_le (by simp; omega), List.nil_append]
  have e2 : numR ((contentL (a : Int) ((b : Int) + 1) n).drop (6 + (Lib.decDigits a).length + 1)) = (b, (Lib.decDigits b).length) := by
    rw [d1]
    exact numR_dec b (47 :: X) (by omega) (by intro c hc; cases hc; exact dig_colon.2.1)
  have hlen : (contentL (a : Int) ((b : Int) + 1) n).length = 6 + (Lib.decDigits a).length + 1 + (Lib.decDigits b).length + 1 + X.length := by
    rw [hs]; simp; omega
  have e3 : ∃ c1 c2, numR X = (c1, c2) ∧ totR (c1, c2) = n := by
    by_cases hn : n = -1
    · rw [if_pos hn] at hXr
      exact ⟨0, 0, hXr, by unfold totR; rw [if_pos rfl]; exact hn.symm⟩
    · rw [if_neg hn] at hXr
      refine ⟨_, _, hXr, ?_⟩
      have : 0 < (Lib.decDigits n.toNat).length := List.length_pos_iff.2 (dec_ne _)
      unfold totR
      rw [if_neg (show ¬ (Lib.decDigits n.toNat).length = 0 by omega)]; show (n.toNat : Int) = n; omega
  obtain ⟨c1, c2, e3, e4⟩ := e3
  rw [rangeR_of (c1 := c1) (c2 := c2) (by rw [hs]; rfl) e1 (by omega) e2 (by omega) (by rw [d2]; exact e3), e4, if_pos rfl]
end Go.Proofs.YtnmfmcmokdoieaaGreatDoor
