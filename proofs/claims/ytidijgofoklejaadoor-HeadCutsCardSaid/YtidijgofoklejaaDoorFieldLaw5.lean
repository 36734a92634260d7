/- Plain mathematics of layer 7: a name's letters' case makes no difference. No conditions. -/
import Derived.Test.YtidijgofoklejaaDoorFieldLaw4
namespace Go.Proofs.YtidijgofoklejaaDoor
theorem lowN_lowN (c : UInt8) : lowN (lowN c) = lowN c := by
  unfold lowN
  by_cases h : 65 ≤ c ∧ c ≤ 90
  · rw [if_pos h, if_neg]
    obtain ⟨h1, h2⟩ := h
    rw [UInt8.le_iff_toNat_le] at h1 h2
    intro ⟨_, h4⟩
    rw [UInt8.le_iff_toNat_le, UInt8.toNat_add] at h4
    have e1 : (32 : UInt8).toNat = 32 := rfl
    have e2 : (65 : UInt8).toNat = 65 := rfl
    have e3 : (90 : UInt8).toNat = 90 := rfl
    omega
  · rw [if_neg h, if_neg h]
theorem low_low (l : List UInt8) : low (low l) = low l := by
  unfold low; rw [List.map_map]; apply List.map_congr_left; intro c _; exact lowN_lowN c
theorem alike_low (a n : List UInt8) : alike a (low n) = alike a n := by unfold alike; rw [low_low]
theorem alike_self (n : List UInt8) : alike n n = true := by unfold alike; exact BEq.refl _
theorem low_alike (n : List UInt8) : alike (low n) n = true := by unfold alike; rw [low_low]; exact BEq.refl _
theorem ofN_low (l : List Fld) (n : List UInt8) : ofN l (low n) = ofN l n := by
  unfold ofN; congr 2; funext f; exact alike_low _ _
theorem getN_low (l : List Fld) (n : List UInt8) : getN l (low n) = getN l n := by unfold getN; rw [ofN_low]
theorem without_low (l : List Fld) (n : List UInt8) : without l (low n) = without l n := by
  unfold without; congr 1; funext f; rw [alike_low]
theorem ofN_without (l : List Fld) (n : List UInt8) : ofN (without l n) n = [] := by
  unfold ofN without
  rw [List.filter_filter, List.map_eq_nil_iff, List.filter_eq_nil_iff]
  intro f _; simp
theorem ofN_setGo (l : List Fld) (n v : List UInt8) : ofN (setGo n v l).1 n = if (setGo n v l).2 then [v] else [] := by
  induction l with
  | nil => rfl
  | cons f l ih =>
    unfold setGo
    cases h : alike f.1 n with
    | true =>
      simp only [if_true]
      have := ofN_without l n
      unfold ofN at *
      rw [List.filter_cons, alike_self, if_pos rfl, List.map_cons, this]
    | false =>
      simp only [Bool.false_eq_true, if_false]
      rw [← ih]
      unfold ofN
      rw [List.filter_cons, h, if_neg (by simp)]
theorem ofN_setN (l : List Fld) (n v : List UInt8) : ofN (setN l n v) n = [v] := by
  unfold setN
  have h := ofN_setGo l n v
  split
  · rename_i h1; rw [h, if_pos h1]
  · rename_i h1
    rw [if_neg h1] at h
    unfold ofN at *
    rw [List.filter_append, List.map_append, h]
    simp [alike_self]
theorem without_setGo (l : List Fld) (n v : List UInt8) : without (setGo n v l).1 n = without l n := by
  induction l with
  | nil => rfl
  | cons f l ih =>
    unfold setGo
    cases h : alike f.1 n with
    | true =>
      simp only [if_true]
      unfold without
      rw [List.filter_cons, List.filter_cons, alike_self, h, List.filter_filter]
      simp
    | false =>
      simp only [Bool.false_eq_true, if_false]
      unfold without at *
      rw [List.filter_cons, List.filter_cons, h, ih]
theorem without_setN (l : List Fld) (n v : List UInt8) : without (setN l n v) n = without l n := by
  unfold setN
  have h := without_setGo l n v
  split
  · exact h
  · unfold without at *
    rw [List.filter_append, h]
    simp [alike_self]
theorem setGo_mem (l : List Fld) (n v : List UInt8) (f : Fld) (h : f ∈ (setGo n v l).1) : f ∈ l ∨ f = (n, v) := by
  induction l with
  | nil => cases h
  | cons g l ih =>
    unfold setGo at h
    split at h
    · rcases List.mem_cons.1 h with rfl | h
      · exact .inr rfl
      · exact .inl (List.mem_cons_of_mem _ (List.mem_filter.1 h).1)
    · rcases List.mem_cons.1 h with rfl | h
      · exact .inl (List.mem_cons_self ..)
      · rcases ih h with h | h
        · exact .inl (List.mem_cons_of_mem _ h)
        · exact .inr h
theorem setN_mem (l : List Fld) (n v : List UInt8) (f : Fld) (h : f ∈ setN l n v) : f ∈ l ∨ f = (n, v) := by
  unfold setN at h
  split at h
  · exact setGo_mem l n v f h
  · rcases List.mem_append.1 h with h | h
    · exact setGo_mem l n v f h
    · simp at h; exact .inr h
theorem setN_len (l : List Fld) (n v : List UInt8) : (setN l n v).length ≤ l.length + 1 := by
  unfold setN
  have := setGo_len n v l
  split
  · omega
  · simp; omega
theorem getN_of {l : List Fld} {n v : List UInt8} (h : ofN l n = [v]) : getN l n = (v, true) := by unfold getN; rw [h]
end Go.Proofs.YtidijgofoklejaaDoor
