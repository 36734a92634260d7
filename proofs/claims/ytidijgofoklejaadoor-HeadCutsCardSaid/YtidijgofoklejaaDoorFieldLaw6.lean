/- Plain mathematics of layer 7: the block of fields. No conditions. -/
import Derived.Test.YtidijgofoklejaaDoorFieldLaw5
namespace Go.Proofs.YtidijgofoklejaaDoor
def putL (f : Fld) : List UInt8 := f.1 ++ [58, 32] ++ f.2 ++ [13, 10]
def lines (l : List Fld) : List UInt8 := l.flatMap putL
def block (l : List Fld) : List UInt8 := lines l ++ [13, 10]
def put (l : List Fld) : List UInt8 × Nat := if l.all right then (if 100 < l.length ∨ 65536 < (block l).length then ([], 4) else (block l, 0)) else ([], 2)
theorem putL_len (f : Fld) : (putL f).length = f.1.length + f.2.length + 4 := by simp [putL]; omega
theorem lines_succ (l : List Fld) (k : Nat) (h : k < l.length) : lines (l.take (k + 1)) = lines (l.take k) ++ l[k].1 ++ [58, 32] ++ l[k].2 ++ [13, 10] := by
  unfold lines; rw [take_snoc l k h, List.flatMap_append]; simp [putL]
theorem lines_len (l : List Fld) : (lines l).length = bulk2 l + 4 * l.length := by
  unfold lines bulk2
  induction l with
  | nil => rfl
  | cons f l ih =>
    simp only [List.flatMap_cons, List.length_append, putL_len, ih, List.map_cons, List.sum_cons, List.length_cons]; omega
theorem bulk2_take_le (l : List Fld) (k : Nat) : bulk2 (l.take k) ≤ bulk2 l := by
  have e : bulk2 l = bulk2 (l.take k) + bulk2 (l.drop k) := by
    unfold bulk2; rw [← List.sum_append, ← List.map_append, List.take_append_drop]
  omega
theorem lines_take_len (l : List Fld) (k : Nat) (h : k ≤ l.length) : (lines (l.take k)).length ≤ bulk2 l + 4 * l.length := by
  rw [lines_len, List.length_take]
  have := bulk2_take_le l k
  omega
theorem put_bad (l : List Fld) (k : Nat) (h : k < l.length) (hr : right l[k] = false) : put l = ([], 2) := by
  unfold put; rw [all_no right l k h hr]; rfl
theorem put_all (l : List Fld) (k : Nat) (h : ¬ k < l.length) (hr : (l.take k).all right = true) : put l = if 100 < l.length ∨ 65536 < (block l).length then ([], 4) else (block l, 0) := by
  unfold put; rw [all_end right l k h hr]; rfl
theorem block_len (l : List Fld) : (block l).length = (lines l).length + 2 := by simp [block]
end Go.Proofs.YtidijgofoklejaaDoor
