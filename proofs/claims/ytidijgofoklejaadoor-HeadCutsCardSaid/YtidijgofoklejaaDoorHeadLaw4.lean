/- Plain mathematics of layer 12: a head's bytes. No conditions. -/
import Derived.Test.YtidijgofoklejaaDoorHead10
import Derived.Test.YtidijgofoklejaaDoorFieldLaw7
import Derived.Lib.ItoaNum
namespace Go.Proofs.YtidijgofoklejaaDoor
/-- a head's first line -/
def lineP (T : HeadT) : List UInt8 := if tellsB T.1 T.2.1 T.2.2.1 then httpB ++ [32] ++ Lib.itoa T.2.2.1 ++ [32] ++ reason T.2.2.1 else T.1 ++ [32] ++ T.2.1 ++ [32] ++ httpB
/-- a head's bytes, or why there are none -/
def putH (T : HeadT) : List UInt8 × Nat :=
  if tellsB T.1 T.2.1 T.2.2.1 || asksB T.1 T.2.1 T.2.2.1 then (if (put T.2.2.2).2 = 0 then (lineP T ++ [13, 10] ++ (put T.2.2.2).1, 0) else ([], (put T.2.2.2).2)) else ([], 1)
theorem dec3 (n : Nat) (h1 : 100 ≤ n) (h2 : n ≤ 999) : Lib.decDigits n = [UInt8.ofNat (48 + n / 100), UInt8.ofNat (48 + n / 10 % 10), UInt8.ofNat (48 + n % 10)] := by
  rw [Lib.decDigits, dif_neg (by omega), Lib.decDigits, dif_neg (by omega), Lib.decDigits, dif_pos (by omega)]
  rw [show n / 10 / 10 = n / 100 from by omega]
  rfl
theorem itoa3 (n : Int) (h1 : 100 ≤ n) (h2 : n ≤ 999) : Lib.itoa n = [UInt8.ofNat (48 + n.toNat / 100), UInt8.ofNat (48 + n.toNat / 10 % 10), UInt8.ofNat (48 + n.toNat % 10)] := by
  unfold Lib.itoa; rw [if_neg (by omega)]; exact dec3 _ (by omega) (by omega)
theorem tells_of {m o : List UInt8} {st : Int} (h : tellsB m o st = true) : m = [] ∧ o = [] ∧ 100 ≤ st ∧ st ≤ 599 := by
  unfold tellsB at h
  simp only [Bool.and_eq_true, decide_eq_true_eq, List.isEmpty_iff] at h
  exact ⟨h.1.1.1, h.1.1.2, h.1.2, h.2⟩
theorem asks_of {m o : List UInt8} {st : Int} (h : asksB m o st = true) : (m = getB ∨ m = headB) ∧ objB o = true ∧ st = 0 := by
  unfold asksB at h
  simp only [Bool.and_eq_true, Bool.or_eq_true, beq_iff_eq] at h
  exact ⟨h.1.1, h.1.2, h.2⟩
theorem tells_asks {m o : List UInt8} {st : Int} (h : tellsB m o st = true) : asksB m o st = false := by
  rw [Bool.eq_false_iff]; intro ha
  have := (tells_of h).2.2.1; have := (asks_of ha).2.2; omega
theorem reason_len (n : Int) : (reason n).length ≤ 30 := by
  unfold reason
  repeat (split; · simp)
  simp
theorem lineP_tells {T : HeadT} (h : tellsB T.1 T.2.1 T.2.2.1 = true) : lineP T = httpB ++ [32] ++ Lib.itoa T.2.2.1 ++ [32] ++ reason T.2.2.1 := by unfold lineP; rw [h]; rfl
theorem lineP_asks {T : HeadT} (h : tellsB T.1 T.2.1 T.2.2.1 = false) : lineP T = T.1 ++ [32] ++ T.2.1 ++ [32] ++ httpB := by unfold lineP; rw [h]; rfl
theorem putH_none {T : HeadT} (h1 : tellsB T.1 T.2.1 T.2.2.1 = false) (h2 : asksB T.1 T.2.1 T.2.2.1 = false) : putH T = ([], 1) := by unfold putH; rw [h1, h2]; rfl
theorem putH_bad {T : HeadT} (h : (tellsB T.1 T.2.1 T.2.2.1 || asksB T.1 T.2.1 T.2.2.1) = true) (h2 : (put T.2.2.2).2 ≠ 0) : putH T = ([], (put T.2.2.2).2) := by unfold putH; rw [h, if_pos rfl, if_neg h2]
theorem putH_good {T : HeadT} (h : (tellsB T.1 T.2.1 T.2.2.1 || asksB T.1 T.2.1 T.2.2.1) = true) (h2 : (put T.2.2.2).2 = 0) : putH T = (lineP T ++ [13, 10] ++ (put T.2.2.2).1, 0) := by unfold putH; rw [h, if_pos rfl, if_pos h2]
theorem put_len (l : List Fld) : (put l).1.length ≤ 65536 := by
  unfold put
  split
  · split
    · simp
    · simp only; omega
  · simp
end Go.Proofs.YtidijgofoklejaaDoor
