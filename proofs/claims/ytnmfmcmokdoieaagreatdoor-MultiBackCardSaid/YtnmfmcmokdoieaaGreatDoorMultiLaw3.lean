/- Plain mathematics of layer 11: a content range, read loosely and held against what is told, is what the document reads. No conditions. -/
import Derived.Test.YtnmfmcmokdoieaaGreatDoorMultiLaw2
import Derived.Lib.IndexMore
import Derived.Lib.Strings
set_option linter.unusedVariables false
set_option linter.unusedSimpArgs false
namespace Go.Proofs.YtnmfmcmokdoieaaGreatDoor
theorem index1 (a b : List UInt8) (c : UInt8) (h : ∀ x ∈ a, x ≠ c) : Lib.index (a ++ c :: b) [c] = a.length := by
  induction a with
  | nil =>
    show Lib.index (c :: b) [c] = _
    unfold Lib.index
    rw [if_pos (by simp [List.isPrefixOf])]; rfl
  | cons x a ih =>
    have hx := h x (by simp)
    have ih' := ih (fun y hy => h y (by simp [hy]))
    rw [List.cons_append]
    unfold Lib.index
    rw [if_neg (by simp [List.isPrefixOf]; exact fun e => hx e.symm), ih', if_neg (by simp)]
    simp
theorem cut1 (a b : List UInt8) (c : UInt8) (h : ∀ x ∈ a, x ≠ c) : Lib.cut (a ++ c :: b) [c] = (a, b, true) := by
  unfold Lib.cut
  rw [index1 a b c h, if_pos (by omega)]
  simp
theorem parseU_fold (M : Nat) (hM : M < 18446744073709551616) (l : List UInt8) (hl : l.all digC = true) : ∀ acc, l.foldl digF acc ≤ M → Lib.parseUintM M acc l = .ok (l.foldl digF acc) := by
  induction l with
  | nil => intro acc _; rfl
  | cons c l ih =>
    intro acc hv
    rw [List.all_cons, Bool.and_eq_true] at hl
    have hd : 48 ≤ c.toNat ∧ c.toNat ≤ 57 := by
      have := hl.1; unfold digC at this; simp at this; omega
    simp only [List.foldl_cons] at hv ⊢
    have hg := foldF_ge l (digF acc c)
    have hn : digF acc c = acc * 10 + (c.toNat - 48) := rfl
    unfold Lib.parseUintM
    rw [if_pos hd, if_neg (by omega), if_neg (by omega), ← hn, ih hl.2 _ hv]
theorem parse_dec (m : Nat) (h : m ≤ 9223372036854775807) : Lib.parseIntB 64 (Lib.decDigits m) = .ok (m : Int) := by
  have h1 := dec_all m
  have h2 : (Lib.decDigits m).foldl digF 0 = m := h1.2
  have hne := dec_ne m
  cases hd : Lib.decDigits m with
  | nil => exact absurd hd hne
  | cons c r =>
    rw [hd] at h1 h2
    have hc : 48 ≤ c.toNat ∧ c.toNat ≤ 57 := by
      have := h1.1; rw [List.all_cons, Bool.and_eq_true] at this
      have := this.1; unfold digC at this; simp at this; omega
    have hu : Lib.parseUintB 64 (c :: r) = .ok m := by
      unfold Lib.parseUintB
      rw [if_neg (by simp), parseU_fold _ (by decide) _ h1.1 0 (by rw [h2]; omega), h2]
    unfold Lib.parseIntB
    simp only
    rw [if_neg (by omega), hu]
    simp only
    rw [if_neg (by rintro ⟨_, h⟩; simp at h; omega), if_neg (by rintro ⟨h, _⟩; omega), if_neg (by omega)]
theorem parse_itoa {x : Int} (h0 : 0 ≤ x) (h : x ≤ 9223372036854775807) : Lib.parseIntB 64 (Lib.itoa x) = .ok x := by
  obtain ⟨m, rfl⟩ : ∃ m : Nat, x = m := ⟨x.toNat, by omega⟩
  rw [itoa_nat]; exact parse_dec m (by omega)
def okInt : Lib.NumEnd Int → Option Int
  | .ok v => some v
  | _ => none
/-- the three texts of a content range, read loosely -/
def partsR (s : List UInt8) : List UInt8 × List UInt8 × List UInt8 :=
  ((Lib.cut (Lib.cut (Lib.trimPrefix s [98, 121, 116, 101, 115, 32]) [47]).1 [45]).1, (Lib.cut (Lib.cut (Lib.trimPrefix s [98, 121, 116, 101, 115, 32]) [47]).1 [45]).2.1, (Lib.cut (Lib.trimPrefix s [98, 121, 116, 101, 115, 32]) [47]).2.1)
/-- the total that a text says -/
def totP (x : List UInt8) : Option Int := if x = [42] then some (-1) else okInt (Lib.parseIntB 64 x)
/-- as the program reads it -/
def progR (s : List UInt8) : Option (Int × Int × Int) :=
  match okInt (Lib.parseIntB 64 (partsR s).1) with
  | none => none
  | some f => match okInt (Lib.parseIntB 64 (partsR s).2.1) with
    | none => none
    | some t => if 4611686018427387903 ≤ t then none else match totP (partsR s).2.2 with
      | none => none
      | some n => if contentL f (t + 1) n = [] then none else if contentL f (t + 1) n = s then some (f, t + 1, n) else none
theorem progR_some {s : List UInt8} {x : Int × Int × Int} (h : progR s = some x) : contentL x.1 x.2.1 x.2.2 = s ∧ s ≠ [] := by
  unfold progR at h
  split at h
  · cases h
  · split at h
    · cases h
    · split at h
      · cases h
      · split at h
        · cases h
        · split at h
          · cases h
          · rename_i hne
            split at h
            · rename_i he
              injection h with h
              subst h
              exact ⟨he, by rw [← he]; exact hne⟩
            · cases h
theorem itoa_ne (x : Int) (h0 : 0 ≤ x) : ∀ c ∈ Lib.itoa x, c ≠ 45 ∧ c ≠ 47 ∧ c ≠ 42 := by
  obtain ⟨m, rfl⟩ : ∃ m : Nat, x = m := ⟨x.toNat, by omega⟩
  rw [itoa_nat]
  intro c hc
  have := List.all_eq_true.1 (dec_all m).1 c hc
  refine ⟨?_, ?_, ?_⟩ <;> (rintro rfl; exact absurd this (by decide))
theorem progR_content {f t n : Int} (h : contB f t n = true) : progR (contentL f t n) = some (f, t, n) := by
  obtain ⟨h0, h1, h2, h3, h4, h5⟩ := cont_parts h
  have hs : contentL f t n = [98, 121, 116, 101, 115, 32] ++ ((Lib.itoa f ++ (45 :: Lib.itoa (t - 1))) ++ (47 :: (if n = -1 then [42] else Lib.itoa n))) := by
    unfold contentL headC; rw [if_pos h]; simp
  have hne : contentL f t n ≠ [] := by rw [hs]; simp
  have hp : Lib.trimPrefix (contentL f t n) [98, 121, 116, 101, 115, 32] = (Lib.itoa f ++ (45 :: Lib.itoa (t - 1))) ++ (47 :: (if n = -1 then [42] else Lib.itoa n)) := by
    rw [hs]; unfold Lib.trimPrefix Lib.hasPrefix
    rw [if_pos (by simp [List.isPrefixOf])]; rfl
  have c1 := cut1 (Lib.itoa f ++ (45 :: Lib.itoa (t - 1))) (if n = -1 then [42] else Lib.itoa n) 47 (by
    intro x hx
    rcases List.mem_append.1 hx with hx | hx
    · exact (itoa_ne f h0 x hx).2.1
    · rcases List.mem_cons.1 hx with rfl | hx
      · decide
      · exact (itoa_ne (t - 1) (by omega) x hx).2.1)
  have c2 := cut1 (Lib.itoa f) (Lib.itoa (t - 1)) 45 (fun x hx => (itoa_ne f h0 x hx).1)
  have hpr : partsR (contentL f t n) = (Lib.itoa f, Lib.itoa (t - 1), if n = -1 then [42] else Lib.itoa n) := by
    unfold partsR; rw [hp, c1]; simp only; rw [c2]
  have ht : totP (if n = -1 then [42] else Lib.itoa n) = some n := by
    unfold totP
    by_cases hn : n = -1
    · rw [if_pos hn, if_pos rfl, hn]
    · rw [if_neg hn, if_neg, parse_itoa (by omega) (by omega)]
      · rfl
      · intro e
        have := itoa_ne n (by omega) 42 (by rw [e]; simp)
        exact this.2.2 rfl
  unfold progR
  rw [hpr]
  simp only
  rw [parse_itoa h0 (by omega), parse_itoa (x := t - 1) (by omega) (by omega)]
  simp only [okInt]
  rw [if_neg (by omega), ht]
  simp only
  rw [show t - 1 + 1 = t from by omega, if_neg hne, if_pos rfl]
/-- both read the same -/
theorem progR_eq (s : List UInt8) : progR s = rangeR s := by
  cases hp : progR s with
  | some x =>
    obtain ⟨h1, h2⟩ := progR_some hp
    have hc := cont_yes (f := x.1) (t := x.2.1) (n := x.2.2) (by rw [h1]; exact h2)
    have := rangeR_content hc
    rw [h1] at this
    exact this.symm
  | none =>
    cases hr : rangeR s with
    | none => rfl
    | some x =>
      obtain ⟨h1, h2⟩ := rangeR_some hr
      have hc := cont_yes (f := x.1) (t := x.2.1) (n := x.2.2) (by rw [h1]; exact h2)
      have := progR_content hc
      rw [h1, hp] at this
      cases this
end Go.Proofs.YtnmfmcmokdoieaaGreatDoor
