/- Plain mathematics of layer 12: the first line of a head, a request's, an answer's. No conditions. -/
import Derived.Test.YtflepnkpihfidaaGreatDoorJLawA
import Derived.Test.YtflepnkpihfidaaGreatDoorJWords
set_option linter.unusedVariables false
set_option linter.unusedSimpArgs false
namespace Go.Proofs.YtflepnkpihfidaaGreatDoor
/-- a byte of an object's name -/
def objC (c : UInt8) : Bool := decide (33 ≤ c.toNat) && decide (c.toNat ≤ 126)
theorem objC_yes (c : UInt8) (h : 33 ≤ (c.toNat : Int) ∧ (c.toNat : Int) ≤ 126) : objC c = true := by unfold objC; simp; omega
theorem objC_no (c : UInt8) (h : ¬ (33 ≤ (c.toNat : Int) ∧ (c.toNat : Int) ≤ 126)) : objC c = false := by unfold objC; simp; omega
def objB : List UInt8 → Bool
  | [] => false
  | c :: t => decide (t.length < 200) && (c == 47) && (c :: t).all objC
theorem objB_cons (c : UInt8) (t : List UInt8) : objB (c :: t) = (decide (t.length < 200) && (c == 47) && (c :: t).all objC) := rfl
theorem objB_long {l : List UInt8} (h : 200 < l.length) : objB l = false := by
  cases l with
  | nil => rfl
  | cons c t => rw [objB_cons]; simp at h; simp; omega
theorem objB_first {l : List UInt8} (h0 : 0 < l.length) (h : (l[0].toNat : Int) ≠ 47) : objB l = false := by
  cases l with
  | nil => rfl
  | cons c t =>
    have hc : (c == 47) = false := by rw [beq_eq_false_iff_ne]; rintro rfl; exact h rfl
    rw [objB_cons, hc]; simp
theorem objB_rest {l : List UInt8} (h0 : 0 < l.length) (hl : l.length ≤ 200) (h : (l[0].toNat : Int) = 47) : objB l = l.all objC := by
  cases l with
  | nil => simp at h0
  | cons c t =>
    have hc : (c == 47) = true := by
      rw [beq_iff_eq]; apply UInt8.toNat_inj.1; simp only [List.getElem_cons_zero] at h; show c.toNat = 47; omega
    rw [objB_cons, hc]; simp at hl; simp; omega
/-- a digit -/
def digC (c : UInt8) : Bool := decide (48 ≤ c.toNat) && decide (c.toNat ≤ 57)
theorem digC_yes (c : UInt8) (h : 48 ≤ (c.toNat : Int) ∧ (c.toNat : Int) ≤ 57) : digC c = true := by unfold digC; simp; omega
/-- the number of digits -/
def numB (l : List UInt8) : Nat := l.foldl (fun n c => n * 10 + (c.toNat - 48)) 0
theorem numB_snoc (l : List UInt8) (c : UInt8) : numB (l ++ [c]) = numB l * 10 + (c.toNat - 48) := by unfold numB; rw [List.foldl_append]; rfl
end Go.Proofs.YtflepnkpihfidaaGreatDoor
