/- Plain mathematics of layer 7: lines, fields, blocks. No conditions. -/
import Derived.Test.YtidijgofoklejaaDoorFieldLaw2
namespace Go.Proofs.YtidijgofoklejaaDoor
/-- a text cut at its first colon -/
def cutC : List UInt8 → Option (List UInt8 × List UInt8)
  | [] => none
  | c :: t => if c == 58 then some ([], t) else (cutC t).map fun p => (c :: p.1, p.2)
theorem cutC_lib (l : List UInt8) : Lib.cut l [58] = match cutC l with | none => (l, [], false) | some p => (p.1, p.2, true) := by
  have key : ∀ l : List UInt8, match cutC l with | none => Lib.index l [58] = -1 | some p => Lib.index l [58] = (p.1.length : Int) ∧ l = p.1 ++ 58 :: p.2 := by
    intro l
    induction l with
    | nil => rfl
    | cons c t ih =>
      unfold cutC Lib.index
      have e : ([58] : List UInt8).isPrefixOf (c :: t) = (c == 58) := by
        simp only [List.isPrefixOf, Bool.and_true]; rw [BEq.comm]
      rw [e]
      cases hc : (c == 58) with
      | true => simp only [beq_iff_eq] at hc; subst hc; simp
      | false =>
        cases h : cutC t with
        | none => rw [h] at ih; simp [ih]
        | some p =>
          rw [h] at ih
          obtain ⟨h1, h2⟩ := ih
          have : ((p.1.length : Int) == -1) = false := by rw [beq_eq_false_iff_ne]; omega
          simp only [Option.map_some, Bool.false_eq_true, if_false, h1, this, List.length_cons, List.cons_append]
          exact ⟨by omega, by rw [← h2]⟩
  have := key l
  unfold Lib.cut
  cases h : cutC l with
  | none => rw [h] at this; simp only at this; rw [this]; rfl
  | some p =>
    rw [h] at this
    obtain ⟨h1, h2⟩ := this
    rw [h1]
    have h3 : (0 : Int) ≤ (p.1.length : Int) := by omega
    rw [if_pos h3]
    simp only [Int.toNat_natCast, List.length_singleton]
    conv => lhs; rw [h2]
    simp
theorem cutC_hit {l : List UInt8} {i : Nat} (hi : i < l.length) (h : ∀ (j : Nat) (hj : j < i), (l[j].toNat : Int) ≠ 58) (hc : (l[i].toNat : Int) = 58) : cutC l = some (l.take i, l.drop (i + 1)) := by
  induction l generalizing i with
  | nil => simp at hi
  | cons c t ih =>
    unfold cutC
    cases i with
    | zero =>
      have e : c = 58 := UInt8.toNat_inj.1 (by have : (58 : UInt8).toNat = 58 := rfl
                                               simp at hc; omega)
      subst e; simp
    | succ i =>
      have hc0 : (c == 58) = false := by
        have := h 0 (by omega)
        rw [beq_eq_false_iff_ne]; rintro rfl; exact this rfl
      rw [hc0, ih (by simpa using hi) (fun j hj => by have := h (j + 1) (by omega); simpa using this) (by simpa using hc)]
      simp
theorem cutC_none {l : List UInt8} (h : ∀ (j : Nat) (hj : j < l.length), (l[j].toNat : Int) ≠ 58) : cutC l = none := by
  induction l with
  | nil => rfl
  | cons c t ih =>
    unfold cutC
    have hc0 : (c == 58) = false := by
      have := h 0 (by simp)
      rw [beq_eq_false_iff_ne]; rintro rfl; exact this rfl
    rw [hc0, ih (fun j hj => by have := h (j + 1) (by simpa using hj); simpa using this)]
    rfl
theorem cutC_len {l : List UInt8} {p : List UInt8 × List UInt8} (h : cutC l = some p) : p.1.length + p.2.length + 1 = l.length := by
  induction l generalizing p with
  | nil => cases h
  | cons c t ih =>
    unfold cutC at h
    split at h
    · simp only [Option.some.injEq] at h; subst h; simp
    · cases hc : cutC t with
      | none => rw [hc] at h; cases h
      | some q =>
        rw [hc] at h; simp only [Option.map_some, Option.some.injEq] at h; subst h
        have := ih hc; simp; omega
/-- the field of a line, and whether it may be -/
def fieldR (l : List UInt8) : Fld × Bool := match cutC l with | none => (([], []), false) | some p => ((p.1, trim p.2), right (p.1, trim p.2))
/-- the block with which a text begins, from a place on: fields, how far, and an error -/
def parseGo (s : List UInt8) : Nat → Nat → List Fld → List Fld × Nat × Nat
  | 0, _, _ => ([], 0, 0)
  | fuel + 1, at_, acc =>
    match crlf (s.drop at_) with
    | none => if 65536 < s.length then ([], 0, 4) else ([], 0, 3)
    | some k =>
      if 65536 < at_ + k + 2 then ([], 0, 4)
      else if k = 0 then (acc, at_ + 2, 0)
      else if acc.length = 100 then ([], 0, 4)
      else if (fieldR ((s.drop at_).take k)).2 then parseGo s fuel (at_ + k + 2) (acc ++ [(fieldR ((s.drop at_).take k)).1])
      else ([], 0, 2)
def parse (s : List UInt8) : List Fld × Nat × Nat := parseGo s (s.length + 1) 0 []
end Go.Proofs.YtidijgofoklejaaDoor
