/- Plain mathematics of layer 7, lists of fields. No conditions. -/
import Derived.Test.YtidijgofoklejaaDoorFieldLaw
namespace Go.Proofs.YtidijgofoklejaaDoor
theorem eq_ne {α : Type} [BEq α] [LawfulBEq α] {xs ys : List α} {k : Nat} (h1 : k < xs.length) (h2 : k < ys.length) (h : (!xs[k] == ys[k]) = true) : (xs == ys) = false := by
  rw [beq_eq_false_iff_ne]; rintro rfl; simp at h
theorem eq_step {α : Type} [BEq α] [LawfulBEq α] {xs ys : List α} {k : Nat} (h1 : k < xs.length) (h2 : k < ys.length) (h : (!xs[k] == ys[k]) = false) (he : xs.take k = ys.take k) : xs.take (k + 1) = ys.take (k + 1) := by
  rw [take_snoc xs k h1, take_snoc ys k h2, he]; simp at h; rw [h]
theorem eq_end {α : Type} [BEq α] [LawfulBEq α] {xs ys : List α} {k : Nat} (hk : ¬ k < xs.length) (hl : xs.length = ys.length) (he : xs.take k = ys.take k) : (xs == ys) = true := by
  rw [List.take_of_length_le (by omega), List.take_of_length_le (by omega)] at he; rw [he]; exact BEq.refl _
theorem eq_len {α : Type} [BEq α] [LawfulBEq α] {xs ys : List α} (h : xs.length ≠ ys.length) : (xs == ys) = false := by
  rw [beq_eq_false_iff_ne]; rintro rfl; exact h rfl
abbrev Fld := List UInt8 × List UInt8
/-- all values of a name -/
def ofN (l : List Fld) (n : List UInt8) : List (List UInt8) := (l.filter fun f => alike f.1 n).map (·.2)
theorem ofN_succ (l : List Fld) (n : List UInt8) (k : Nat) (h : k < l.length) : ofN (l.take (k + 1)) n = ofN (l.take k) n ++ (if alike l[k].1 n then [l[k].2] else []) := by
  unfold ofN; rw [take_snoc l k h, List.filter_append, List.map_append]
  cases hc : alike l[k].1 n <;> simp [hc]
theorem ofN_len (l : List Fld) (n : List UInt8) : (ofN l n).length ≤ l.length := by unfold ofN; rw [List.length_map]; exact List.length_filter_le _ _
def getN (l : List Fld) (n : List UInt8) : List UInt8 × Bool := match ofN l n with | [] => ([], false) | v :: _ => (v, true)
def without (l : List Fld) (n : List UInt8) : List Fld := l.filter fun f => !alike f.1 n
theorem without_succ (l : List Fld) (n : List UInt8) (k : Nat) (h : k < l.length) : without (l.take (k + 1)) n = without (l.take k) n ++ (if alike l[k].1 n then [] else [l[k]]) := by
  unfold without; rw [take_snoc l k h, List.filter_append]
  cases hc : alike l[k].1 n <;> simp [hc]
theorem without_len (l : List Fld) (n : List UInt8) : (without l n).length ≤ l.length := List.length_filter_le _ _
/-- the fields with one of a name, if it is there: what has come so far, and whether it was there -/
def setGo (n v : List UInt8) : List Fld → List Fld × Bool
  | [] => ([], false)
  | f :: l => if alike f.1 n then ((n, v) :: without l n, true) else (f :: (setGo n v l).1, (setGo n v l).2)
def setN (l : List Fld) (n v : List UInt8) : List Fld := if (setGo n v l).2 then (setGo n v l).1 else (setGo n v l).1 ++ [(n, v)]
theorem setGo_snoc (n v : List UInt8) (l : List Fld) (f : Fld) : setGo n v (l ++ [f]) = if alike f.1 n then (if (setGo n v l).2 then setGo n v l else ((setGo n v l).1 ++ [(n, v)], true)) else ((setGo n v l).1 ++ [f], (setGo n v l).2) := by
  induction l with
  | nil => cases hc : alike f.1 n <;> simp [setGo, hc, without]
  | cons g l ih =>
    rw [List.cons_append]
    unfold setGo
    cases hg : alike g.1 n with
    | true => cases hc : alike f.1 n <;> simp [without, List.filter_append, hc]
    | false =>
      simp only [Bool.false_eq_true, if_false, ih]
      cases hc : alike f.1 n <;> cases hs : (setGo n v l).2 <;> simp [hs]
theorem setGo_succ (n v : List UInt8) (l : List Fld) (k : Nat) (h : k < l.length) : setGo n v (l.take (k + 1)) = if alike l[k].1 n then (if (setGo n v (l.take k)).2 then setGo n v (l.take k) else ((setGo n v (l.take k)).1 ++ [(n, v)], true)) else ((setGo n v (l.take k)).1 ++ [l[k]], (setGo n v (l.take k)).2) := by
  rw [take_snoc l k h]; exact setGo_snoc n v _ _
theorem setGo_len (n v : List UInt8) (l : List Fld) : (setGo n v l).1.length ≤ l.length := by
  induction l with
  | nil => simp [setGo]
  | cons g l ih =>
    unfold setGo
    have := without_len l n
    split <;> simp <;> omega
/-- how many bytes -/
def bulk2 (l : List Fld) : Nat := (l.map fun f => f.1.length + f.2.length).sum
def bulk1 (l : List (List UInt8)) : Nat := (l.map List.length).sum
theorem bulk2_succ (l : List Fld) (k : Nat) (h : k < l.length) : bulk2 (l.take (k + 1)) = bulk2 (l.take k) + l[k].1.length + l[k].2.length := by
  unfold bulk2; rw [take_snoc l k h]; simp only [List.map_append, List.sum_append, List.map_cons, List.map_nil, List.sum_cons, List.sum_nil]; omega
theorem bulk1_succ (l : List (List UInt8)) (k : Nat) (h : k < l.length) : bulk1 (l.take (k + 1)) = bulk1 (l.take k) + l[k].length := by
  unfold bulk1; rw [take_snoc l k h]; simp only [List.map_append, List.sum_append, List.map_cons, List.map_nil, List.sum_cons, List.sum_nil]; omega
theorem bulk2_all (l : List Fld) (k : Nat) (h : ¬ k < l.length) : bulk2 (l.take k) = bulk2 l := by rw [List.take_of_length_le (by omega)]
theorem bulk1_all (l : List (List UInt8)) (k : Nat) (h : ¬ k < l.length) : bulk1 (l.take k) = bulk1 l := by rw [List.take_of_length_le (by omega)]
theorem bulk2_le (l : List Fld) (B : Nat) (h : ∀ f ∈ l, f.1.length ≤ B ∧ f.2.length ≤ B) : bulk2 l ≤ l.length * (2 * B) := by
  unfold bulk2
  induction l with
  | nil => simp
  | cons f l ih =>
    have h1 := h f (by simp)
    have h2 := ih (fun g hg => h g (by simp [hg]))
    simp only [List.map_cons, List.sum_cons, List.length_cons, Nat.add_mul]; omega
theorem bulk1_le (l : List (List UInt8)) (B : Nat) (h : ∀ f ∈ l, f.length ≤ B) : bulk1 l ≤ l.length * B := by
  unfold bulk1
  induction l with
  | nil => simp
  | cons f l ih =>
    have h1 := h f (by simp)
    have h2 := ih (fun g hg => h g (by simp [hg]))
    simp only [List.map_cons, List.sum_cons, List.length_cons, Nat.add_mul]; omega
def great2 (l : List Fld) : Bool := decide (130 < l.length) || decide (12000 < bulk2 l)
def great1 (l : List (List UInt8)) : Bool := decide (10000 < bulk1 l) || decide (60 < l.length)
theorem great2_small {l : List Fld} (h : l.length ≤ 130) : decide (12000 < ((bulk2 l : Nat) : Int)) = great2 l := by
  unfold great2
  have : decide (130 < l.length) = false := decide_eq_false (by omega)
  rw [this, Bool.false_or, decide_eq_decide]; omega
theorem great2_big {l : List Fld} (h : 130 < l.length) : great2 l = true := by unfold great2; simp [h]
theorem great1_small {l : List (List UInt8)} (h : l.length ≤ 60) : decide (10000 < ((bulk1 l : Nat) : Int)) = great1 l := by
  unfold great1
  have : decide (60 < l.length) = false := decide_eq_false (by omega)
  rw [this, Bool.or_false, decide_eq_decide]; omega
theorem great1_big {l : List (List UInt8)} (h : 60 < l.length) : great1 l = true := by unfold great1; simp [h]
end Go.Proofs.YtidijgofoklejaaDoor
