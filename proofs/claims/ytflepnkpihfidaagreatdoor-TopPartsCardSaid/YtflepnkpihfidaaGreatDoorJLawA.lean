/- Parts. No conditions but those that each theorem names. -/
import Derived.Lib.SlTrimSet
import Derived.Lib.IndexMore
set_option linter.unusedVariables false
set_option linter.unusedSimpArgs false
namespace Go.Proofs.YtflepnkpihfidaaGreatDoor

theorem take_snoc {α : Type} (l : List α) (k : Nat) (h : k < l.length) : l.take (k + 1) = l.take k ++ [l[k]] := (List.take_append_getElem h).symm

/-- a blank or a tab -/
def blk (c : UInt8) : Bool := [32, 9].contains c
def trimL (l : List UInt8) : List UInt8 := l.dropWhile blk
def trimR (l : List UInt8) : List UInt8 := (l.reverse.dropWhile blk).reverse
def trim (l : List UInt8) : List UInt8 := trimL (trimR l)
/-- a byte of a token -/
def tokB : List UInt8 := [33, 35, 36, 37, 38, 39, 42, 43, 45, 46, 94, 95, 96, 124, 126]
def letterC (c : UInt8) : Bool := (decide (97 ≤ c.toNat) && decide (c.toNat ≤ 122)) || (decide (65 ≤ c.toNat) && decide (c.toNat ≤ 90)) || (decide (48 ≤ c.toNat) && decide (c.toNat ≤ 57))
def tokC (c : UInt8) : Bool := letterC c || tokB.contains c
def token (l : List UInt8) : Bool := !l.isEmpty && l.all tokC
theorem all_take_succ {α : Type} (p : α → Bool) (l : List α) (k : Nat) (h : k < l.length) (hk : (l.take k).all p = true) (hc : p l[k] = true) : (l.take (k + 1)).all p = true := by
  rw [take_snoc l k h, List.all_append, hk]; simp [hc]
theorem all_no {α : Type} (p : α → Bool) (l : List α) (k : Nat) (h : k < l.length) (hc : p l[k] = false) : l.all p = false := by
  rw [List.all_eq_false]; exact ⟨l[k], List.getElem_mem h, by simp [hc]⟩
theorem all_end {α : Type} (p : α → Bool) (l : List α) (k : Nat) (h : ¬ k < l.length) (hk : (l.take k).all p = true) : l.all p = true := by
  rwa [List.take_of_length_le (by omega)] at hk
theorem indexByte_neg (l : List UInt8) (c : UInt8) : (Lib.indexByte l c < 0) ↔ l.contains c = false := by
  induction l with
  | nil => simp [Lib.indexByte]
  | cons b l ih =>
    unfold Lib.indexByte
    have hg := Lib.indexByte_ge l c
    by_cases h : b = c
    · subst h; simp
    · have h1 : (b == c) = false := by simp [h]
      have h2 : (c == b) = false := by simp; exact fun e => h e.symm
      rw [h1, List.contains_cons, h2, Bool.false_or]
      simp only [Bool.false_eq_true, if_false]
      split
      · rename_i h3; simp only [beq_iff_eq] at h3; rw [← ih]; omega
      · rename_i h3; simp only [beq_iff_eq] at h3; rw [← ih]; omega
theorem tokC_letter (c : UInt8) (h : (97 ≤ (c.toNat : Int) ∧ (c.toNat : Int) ≤ 122) ∨ (65 ≤ (c.toNat : Int) ∧ (c.toNat : Int) ≤ 90) ∨ (48 ≤ (c.toNat : Int) ∧ (c.toNat : Int) ≤ 57)) : letterC c = true := by
  unfold letterC; simp only [Bool.or_eq_true, Bool.and_eq_true, decide_eq_true_eq]; omega
theorem letterC_no (c : UInt8) (h : ¬ ((97 ≤ (c.toNat : Int) ∧ (c.toNat : Int) ≤ 122) ∨ (65 ≤ (c.toNat : Int) ∧ (c.toNat : Int) ≤ 90) ∨ (48 ≤ (c.toNat : Int) ∧ (c.toNat : Int) ≤ 57))) : letterC c = false := by
  unfold letterC; rw [Bool.eq_false_iff]; simp only [ne_eq, Bool.or_eq_true, Bool.and_eq_true, decide_eq_true_eq]; omega
theorem tokC_of_letter {c : UInt8} (h : letterC c = true) : tokC c = true := by simp [tokC, h]
theorem tokC_of_sign {c : UInt8} (h : ¬ Lib.indexByte tokB c < 0) : tokC c = true := by
  rw [indexByte_neg] at h; simp only [Bool.not_eq_false] at h; simp only [tokC, h, Bool.or_true]
theorem tokC_no {c : UInt8} (h1 : letterC c = false) (h : Lib.indexByte tokB c < 0) : tokC c = false := by
  rw [indexByte_neg] at h; simp only [tokC, h1, h, Bool.or_false]
theorem token_no {l : List UInt8} {k : Nat} (h : k < l.length) (hc : tokC l[k] = false) : token l = false := by
  unfold token; rw [all_no tokC l k h hc, Bool.and_false]
theorem token_yes {l : List UInt8} {k : Nat} (h0 : 0 < l.length) (h : ¬ k < l.length) (hk : (l.take k).all tokC = true) : token l = true := by
  unfold token; rw [all_end tokC l k h hk]; cases l <;> simp at *

/-- the place of the first D A -/
def crlf : List UInt8 → Option Nat
  | [] => none
  | a :: l => if a == 13 && l.head? == some 10 then some 0 else (crlf l).map (· + 1)
theorem crlf_lib (l : List UInt8) : Lib.index l [13, 10] = match crlf l with | none => -1 | some k => (k : Int) := by
  induction l with
  | nil => rfl
  | cons a l ih =>
    unfold Lib.index crlf
    have e : ([13, 10] : List UInt8).isPrefixOf (a :: l) = (a == 13 && l.head? == some 10) := by
      cases l with
      | nil => simp [List.isPrefixOf]
      | cons b l => simp only [List.isPrefixOf, List.head?_cons, Bool.and_true, Option.some_beq_some]; rw [BEq.comm (a := (13 : UInt8)), BEq.comm (a := (10 : UInt8))]
    rw [e]
    split
    · simp
    · rw [ih]
      cases crlf l with
      | none => simp
      | some k =>
        have : ((k : Int) == -1) = false := by rw [beq_eq_false_iff_ne]; omega
        simp [this]
theorem crlf_lt {l : List UInt8} {k : Nat} (h : crlf l = some k) : k + 1 < l.length := by
  induction l generalizing k with
  | nil => cases h
  | cons a l ih =>
    unfold crlf at h
    split at h
    · rename_i h1
      simp only [Option.some.injEq] at h
      cases l with
      | nil => simp at h1
      | cons b l => simp; omega
    · cases hc : crlf l with
      | none => rw [hc] at h; cases h
      | some j =>
        rw [hc] at h; simp only [Option.map_some, Option.some.injEq] at h
        have := ih hc; simp only [List.length_cons]; omega
/-- a byte that may stand in a value -/
def visC (c : UInt8) : Bool := (decide (32 ≤ c.toNat) && decide (c.toNat ≤ 126)) || c.toNat == 9
theorem visC_yes (c : UInt8) (h : (32 ≤ (c.toNat : Int) ∧ (c.toNat : Int) ≤ 126) ∨ (c.toNat : Int) = 9) : visC c = true := by
  unfold visC; simp only [Bool.or_eq_true, Bool.and_eq_true, decide_eq_true_eq, beq_iff_eq]; omega
theorem visC_no (c : UInt8) (h : ¬ ((32 ≤ (c.toNat : Int) ∧ (c.toNat : Int) ≤ 126) ∨ (c.toNat : Int) = 9)) : visC c = false := by
  unfold visC; rw [Bool.eq_false_iff]; simp only [ne_eq, Bool.or_eq_true, Bool.and_eq_true, decide_eq_true_eq, beq_iff_eq]; omega
/-- may a field be? -/
def right (f : List UInt8 × List UInt8) : Bool := token f.1 && decide (f.1.length ≤ 200) && decide (f.2.length ≤ 8192) && (trim f.2 == f.2) && f.2.all visC
theorem right_head {n v : List UInt8} (h : ¬ (token n = true ∧ n.length ≤ 200 ∧ v.length ≤ 8192 ∧ (trim v == v) = true)) : right (n, v) = false := by
  rw [Bool.eq_false_iff]; intro hr
  unfold right at hr
  simp only [Bool.and_eq_true, decide_eq_true_eq] at hr
  exact h ⟨hr.1.1.1.1, hr.1.1.1.2, hr.1.1.2, hr.1.2⟩
theorem right_rest {n v : List UInt8} (h1 : token n = true) (h2 : n.length ≤ 200) (h3 : v.length ≤ 8192) (h4 : (trim v == v) = true) : right (n, v) = v.all visC := by
  unfold right; simp [h1, h2, h3, h4]
end Go.Proofs.YtflepnkpihfidaaGreatDoor
namespace Go.Proofs.YtflepnkpihfidaaGreatDoor
abbrev Fld := List UInt8 × List UInt8
def bulk1 (l : List (List UInt8)) : Nat := (l.map List.length).sum
theorem bulk1_le (l : List (List UInt8)) (B : Nat) (h : ∀ f ∈ l, f.length ≤ B) : bulk1 l ≤ l.length * B := by
  unfold bulk1
  induction l with
  | nil => simp
  | cons f l ih =>
    have h1 := h f (by simp)
    have h2 := ih (fun g hg => h g (by simp [hg]))
    simp only [List.map_cons, List.sum_cons, List.length_cons, Nat.add_mul]; omega
end Go.Proofs.YtflepnkpihfidaaGreatDoor
namespace Go.Proofs.YtflepnkpihfidaaGreatDoor
end Go.Proofs.YtflepnkpihfidaaGreatDoor
namespace Go.Proofs.YtflepnkpihfidaaGreatDoor
end Go.Proofs.YtflepnkpihfidaaGreatDoor
namespace Go.Proofs.YtflepnkpihfidaaGreatDoor
end Go.Proofs.YtflepnkpihfidaaGreatDoor
namespace Go.Proofs.YtflepnkpihfidaaGreatDoor
end Go.Proofs.YtflepnkpihfidaaGreatDoor
namespace Go.Proofs.YtflepnkpihfidaaGreatDoor
theorem crlf_hit (a t : List UInt8) (h : ∀ c ∈ a, c ≠ 13) : crlf (a ++ 13 :: 10 :: t) = some a.length := by
  induction a with
  | nil => rfl
  | cons c a ih =>
    rw [List.cons_append]; unfold crlf
    have h1 : (c == 13) = false := by rw [beq_eq_false_iff_ne]; exact h c (by simp)
    rw [h1, Bool.false_and, ih (fun d hd => h d (by simp [hd]))]; rfl
end Go.Proofs.YtflepnkpihfidaaGreatDoor
