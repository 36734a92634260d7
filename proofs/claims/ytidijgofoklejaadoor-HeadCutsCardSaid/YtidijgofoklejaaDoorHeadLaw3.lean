/- Plain mathematics of layer 12: an answer's first line, tested from the left. No conditions. -/
import Derived.Test.YtidijgofoklejaaDoorHeadLaw2
namespace Go.Proofs.YtidijgofoklejaaDoor
theorem statR_of {r : List UInt8} {n : Nat} (h : statR r = some n) : 3 ≤ r.length ∧ (r.take 3).all digC = true ∧ (r.drop 3).all visC = true ∧ (r.length = 3 ∨ r[3]? = some 32) ∧ 100 ≤ numB (r.take 3) ∧ numB (r.take 3) ≤ 599 ∧ n = numB (r.take 3) := by
  unfold statR at h
  split at h
  · rename_i hc; obtain ⟨h1, h2, h3, h4, h5, h6⟩ := hc; simp only [Option.some.injEq] at h; exact ⟨h1, h2, h3, h4, h5, h6, h.symm⟩
  · cases h
theorem statR_no {r : List UInt8} (h : ∀ n, statR r = some n → False) : statR r = none := by
  cases hc : statR r with
  | none => rfl
  | some n => exact (h n hc).elim
theorem statR_short {r : List UInt8} (h : r.length < 3) : statR r = none := statR_no fun n hn => by have := (statR_of hn).1; omega
theorem statR_blank {r : List UInt8} (h : 3 < r.length) (hc : (r[3].toNat : Int) ≠ 32) : statR r = none := statR_no fun n hn => by
  rcases (statR_of hn).2.2.2.1 with h1 | h1
  · omega
  · rw [List.getElem?_eq_getElem h] at h1; injection h1 with h1; rw [h1] at hc; exact hc rfl
theorem statR_dig {r : List UInt8} {k : Nat} (hk : k < 3) (hr : 3 ≤ r.length) (hc : digC r[k] = false) : statR r = none := statR_no fun n hn => by
  have h1 := List.all_eq_true.1 (statR_of hn).2.1 r[k] (by
    rw [List.mem_take_iff_getElem]; exact ⟨k, by omega, rfl⟩)
  rw [hc] at h1; cases h1
theorem statR_vis {r : List UInt8} {k : Nat} (hk : k < r.length) (h3 : 3 ≤ k) (hc : visC r[k] = false) : statR r = none := statR_no fun n hn => by
  have h1 := List.all_eq_true.1 (statR_of hn).2.2.1 r[k] (by
    rw [List.mem_drop_iff_getElem]; exact ⟨k - 3, by omega, by congr 1; omega⟩)
  rw [hc] at h1; cases h1
theorem statR_num {r : List UInt8} (h : ¬ (100 ≤ numB (r.take 3) ∧ numB (r.take 3) ≤ 599)) : statR r = none := statR_no fun n hn => by
  have := statR_of hn; exact h ⟨this.2.2.2.2.1, this.2.2.2.2.2.1⟩
theorem statR_yes {r : List UInt8} (h1 : 3 ≤ r.length) (h2 : (r.take 3).all digC = true) (h3 : (r.drop 3).all visC = true) (h4 : ∀ h : 3 < r.length, (r[3].toNat : Int) = 32) (h5 : 100 ≤ numB (r.take 3) ∧ numB (r.take 3) ≤ 599) : statR r = some (numB (r.take 3)) := by
  unfold statR
  rw [if_pos]
  refine ⟨h1, h2, h3, ?_, h5.1, h5.2⟩
  rcases Nat.lt_or_ge 3 r.length with h | h
  · right
    rw [List.getElem?_eq_getElem h]
    congr 1
    apply UInt8.toNat_inj.1
    have := h4 h
    show r[3].toNat = 32
    omega
  · left; omega
theorem numB_3 {r : List UInt8} {k : Nat} (hk : k ≤ 3) (h : (r.take k).all digC = true) : numB (r.take k) ≤ 999 := by
  have h1 := numB_lt _ h
  have h2 : 10 ^ (r.take k).length ≤ 10 ^ 3 := Nat.pow_le_pow_right (by omega) (by rw [List.length_take]; omega)
  omega
theorem tellN_none {x : List UInt8} (h : (httpB ++ [32]).isPrefixOf x = false) : tellN x = none := by unfold tellN; rw [h]; rfl
theorem tellN_pre {x : List UInt8} (h : (httpB ++ [32]).isPrefixOf x = true) : tellN x = statR (x.drop 9) := by unfold tellN; rw [h]; rfl
theorem tellR_bad {s : List UInt8} {e : Nat} (h : firstL s = ([], 0, e)) (he : e ≠ 0) : tellR s = (noHead, 0, e) := by
  unfold tellR; rw [h]; simp [he]
theorem tellR_none {s x : List UInt8} {n : Nat} (h : firstL s = (x, n, 0)) (ht : tellN x = none) : tellR s = (noHead, 0, 2) := by
  unfold tellR; rw [h]; simp [ht]
theorem tellR_some {s x : List UInt8} {n k : Nat} (h : firstL s = (x, n, 0)) (ht : tellN x = some k) : tellR s = restL [] [] k s n := by
  unfold tellR; rw [h]; simp [ht]
theorem visC_iff (c : UInt8) : visC c = true ↔ ((32 ≤ (c.toNat : Int) ∧ (c.toNat : Int) ≤ 126) ∨ (c.toNat : Int) = 9) := by
  constructor
  · intro h; apply Classical.byContradiction; intro hn; rw [visC_no c hn] at h; cases h
  · exact visC_yes c
theorem drop_all_succ {r : List UInt8} {k : Nat} (p : UInt8 → Bool) (h3 : 3 ≤ k) (hk : k < r.length) (h : ((r.take k).drop 3).all p = true) (hc : p r[k] = true) : ((r.take (k + 1)).drop 3).all p = true := by
  rw [take_snoc r k hk, List.drop_append_of_le_length (by rw [List.length_take]; omega), List.all_append, h]
  simp [hc]
theorem drop_all_end {r : List UInt8} {k : Nat} (p : UInt8 → Bool) (hk : ¬ k < r.length) (h : ((r.take k).drop 3).all p = true) : (r.drop 3).all p = true := by
  rwa [List.take_of_length_le (by omega)] at h
theorem pre9 {x : List UInt8} (h : 9 ≤ x.length) : (httpB ++ [32]).isPrefixOf x = (x.take 9 == httpB ++ [32]) := by
  rw [Bool.eq_iff_iff, List.isPrefixOf_iff_prefix, beq_iff_eq]
  constructor
  · rintro ⟨t, rfl⟩; rfl
  · intro e; exact ⟨x.drop 9, by rw [← e, List.take_append_drop]⟩
theorem pre9_short {x : List UInt8} (h : x.length < 9) : (httpB ++ [32]).isPrefixOf x = false := by
  rw [Bool.eq_false_iff]; intro e; rw [List.isPrefixOf_iff_prefix] at e
  have := e.length_le; simp [httpB] at this; omega
theorem tellN_short {x : List UInt8} (h : x.length < 12) : tellN x = none := by
  cases hp : (httpB ++ [32]).isPrefixOf x with
  | false => exact tellN_none hp
  | true => rw [tellN_pre hp]; exact statR_short (by rw [List.length_drop]; omega)
theorem drop9_at {x : List UInt8} {j : Nat} (h9 : 9 ≤ j) (hj : j < x.length) : (x.drop 9)[j - 9]'(by rw [List.length_drop]; omega) = x[j] := by
  rw [List.getElem_drop]; congr 1; omega
theorem take_drop9 (x : List UInt8) (j : Nat) (h : 9 ≤ j) : (x.take j).drop 9 = (x.drop 9).take (j - 9) := by rw [List.drop_take]
theorem num9_succ {x : List UInt8} {j : Nat} (h9 : 9 ≤ j) (hj : j < x.length) : numB ((x.take (j + 1)).drop 9) = numB ((x.take j).drop 9) * 10 + (x[j].toNat - 48) := by
  rw [take_drop9 x (j + 1) (by omega), take_drop9 x j h9, show j + 1 - 9 = (j - 9) + 1 from by omega, numB_succ _ _ (by rw [List.length_drop]; omega), drop9_at h9 hj]
theorem dig9_succ {x : List UInt8} {j : Nat} (h9 : 9 ≤ j) (hj : j < x.length) (h : ((x.take j).drop 9).all digC = true) (hc : digC x[j] = true) : ((x.take (j + 1)).drop 9).all digC = true := by
  rw [take_snoc x j hj, List.drop_append_of_le_length (by rw [List.length_take]; omega), List.all_append, h]
  simp [hc]
theorem num9_le {x : List UInt8} {j : Nat} (h9 : 9 ≤ j) (hj : j ≤ 12) (h : ((x.take j).drop 9).all digC = true) : numB ((x.take j).drop 9) ≤ 999 := by
  rw [take_drop9 x j h9] at *; exact numB_3 (by omega) h
theorem tell_dig {x : List UInt8} {j : Nat} (hp : (httpB ++ [32]).isPrefixOf x = true) (h9 : 9 ≤ j) (hj : j < 12) (hx : 12 ≤ x.length) (hc : digC x[j] = false) : tellN x = none := by
  rw [tellN_pre hp]; exact statR_dig (k := j - 9) (by omega) (by rw [List.length_drop]; omega) (by rw [drop9_at h9 (by omega)]; exact hc)
theorem tell_vis {x : List UInt8} {j : Nat} (hp : (httpB ++ [32]).isPrefixOf x = true) (h9 : 12 ≤ j) (hj : j < x.length) (hc : visC x[j] = false) : tellN x = none := by
  rw [tellN_pre hp]; exact statR_vis (k := j - 9) (by rw [List.length_drop]; omega) (by omega) (by rw [drop9_at (by omega) hj]; exact hc)
theorem tell_blank {x : List UInt8} (hp : (httpB ++ [32]).isPrefixOf x = true) (hx : 12 < x.length) (hc : (x[12].toNat : Int) ≠ 32) : tellN x = none := by
  rw [tellN_pre hp]
  refine statR_blank (by rw [List.length_drop]; omega) ?_
  rw [show (x.drop 9)[3]'(by rw [List.length_drop]; omega) = x[12] from drop9_at (j := 12) (by omega) hx]
  exact hc
theorem tell_num {x : List UInt8} (hp : (httpB ++ [32]).isPrefixOf x = true) (h : ¬ (100 ≤ numB ((x.take 12).drop 9) ∧ numB ((x.take 12).drop 9) ≤ 599)) : tellN x = none := by
  rw [tellN_pre hp]; exact statR_num (by rw [take_drop9 x 12 (by omega)] at h; exact h)
theorem vis12_succ {x : List UInt8} {j : Nat} (h9 : 12 ≤ j) (hj : j < x.length) (h : ((x.take j).drop 12).all visC = true) (hc : visC x[j] = true) : ((x.take (j + 1)).drop 12).all visC = true := by
  rw [take_snoc x j hj, List.drop_append_of_le_length (by rw [List.length_take]; omega), List.all_append, h]
  simp [hc]
theorem tell_yes {x : List UInt8} {j : Nat} (hp : (httpB ++ [32]).isPrefixOf x = true) (hx : 12 ≤ x.length) (hj : ¬ j < x.length) (hd : ((x.take 12).drop 9).all digC = true) (hv : ((x.take j).drop 12).all visC = true)
    (hb : ∀ h : 12 < x.length, (x[12].toNat : Int) = 32) (hn : 100 ≤ numB ((x.take 12).drop 9) ∧ numB ((x.take 12).drop 9) ≤ 599) : tellN x = some (numB ((x.take 12).drop 9)) := by
  rw [tellN_pre hp, take_drop9 x 12 (by omega)] at *
  rw [List.take_of_length_le (by omega)] at hv
  refine statR_yes (by rw [List.length_drop]; omega) hd (by rw [List.drop_drop]; exact hv) (fun h => ?_) hn
  rw [List.length_drop] at h
  rw [show (x.drop 9)[3]'(by rw [List.length_drop]; omega) = x[12] from drop9_at (j := 12) (by omega) (by omega)]
  exact hb (by omega)
end Go.Proofs.YtidijgofoklejaaDoor
