/- The values of a name; the fields with, without it. Contracts; at most a million fields. -/
import Derived.Test.YtnmfmcmokdoieaaGreatDoorField4
set_option linter.unusedVariables false
set_option linter.unusedSimpArgs false
namespace Go.Proofs.YtnmfmcmokdoieaaGreatDoor
open Go.RowKit
theorem one_str (l : List UInt8) : ∀ u ∈ [str l], u.oneCell' = true := by intro u hu; simp at hu; subst hu; rfl
theorem one_str2 (l m : List UInt8) : ∀ u ∈ [str l, str m], u.oneCell' = true := by intro u hu; simp at hu; rcases hu with rfl | rfl <;> rfl
theorem own_fld {W0 w : World} {v : Value} {xs : List Fld} {n : Nat} {cs : List Value} (h : Own W0 w 60 2 v n cs) (hn : n = xs.length) (hc : cs = flat2 xs) : Flds w v xs := by
  subst hn hc; exact h.sl (by omega)
theorem own_str {W0 w : World} {v : Value} {xs : List (List UInt8)} {n : Nat} {cs : List Value} (h : Own W0 w 9 1 v n cs) (hn : n = xs.length) (hc : cs = xs.map str) : Strs w v xs := by
  subst hn hc; exact h.sl (by omega)
theorem ofN_nil_step (l : List Fld) (n : List UInt8) (k : Nat) (h : k < l.length) (h0 : ofN (l.take k) n = []) (ha : alike l[k].1 n = false) : ofN (l.take (k + 1)) n = [] := by
  rw [ofN_succ l n k h, h0, ha]; rfl
theorem getN_hit (l : List Fld) (n : List UInt8) (k : Nat) (h : k < l.length) (h0 : ofN (l.take k) n = []) (ha : alike l[k].1 n = true) : getN l n = (l[k].2, true) := by
  unfold getN
  have e : ofN l n = l[k].2 :: ofN (l.drop (k + 1)) n := by
    have hl : l = l.take k ++ l[k] :: l.drop (k + 1) := by
      rw [← List.drop_eq_getElem_cons h, List.take_append_drop]
    conv => lhs; rw [hl]
    unfold ofN at *
    rw [List.filter_append, List.map_append, h0, List.filter_cons, ha]
    rfl
  rw [e]
theorem getN_none (l : List Fld) (n : List UInt8) (k : Nat) (h : ¬ k < l.length) (h0 : ofN (l.take k) n = []) : getN l n = ([], false) := by
  rw [List.take_of_length_le (by omega)] at h0
  unfold getN; rw [h0]
end Go.Proofs.YtnmfmcmokdoieaaGreatDoor
