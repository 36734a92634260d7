/- Plain mathematics of layers 7 and 12: what a block that is parsed can be. No conditions. -/
import Derived.Test.YtidijgofoklejaaDoorHeadLaw
import Derived.Test.YtidijgofoklejaaDoorField7
namespace Go.Proofs.YtidijgofoklejaaDoor
theorem parseGo_le (s : List UInt8) (fuel k : Nat) (acc : List Fld) : (parseGo s fuel k acc).2.1 ≤ s.length := by
  induction fuel generalizing k acc with
  | zero => simp [parseGo]
  | succ fuel ih =>
    cases hc : crlf (s.drop k) with
    | none => rw [parseGo_none hc]; split <;> simp
    | some j =>
      have hlt := crlf_lt hc
      rw [List.length_drop] at hlt
      rw [parseGo_some hc]
      split
      · simp
      · split
        · simp only; omega
        · split
          · simp
          · split
            · exact ih _ _
            · simp
theorem parse_le (s : List UInt8) : (parse s).2.1 ≤ s.length := parseGo_le s _ _ _
theorem parseGo_few (s : List UInt8) (fuel k : Nat) (acc : List Fld) (h : acc.length ≤ 100) : (parseGo s fuel k acc).1.length ≤ 100 := by
  induction fuel generalizing k acc with
  | zero => simp [parseGo]
  | succ fuel ih =>
    cases hc : crlf (s.drop k) with
    | none => rw [parseGo_none hc]; split <;> simp
    | some j =>
      rw [parseGo_some hc]
      split
      · simp
      · split
        · exact h
        · split
          · simp
          · split
            · exact ih _ _ (by simp; omega)
            · simp
theorem parse_few (s : List UInt8) : (parse s).1.length ≤ 100 := parseGo_few s _ _ _ (by simp)
theorem restL_ok {m o : List UInt8} {st : Int} {s : List UInt8} {n : Nat} (h : (parse (s.drop n)).2.2 = 0) : restL m o st s n = ((m, o, st, (parse (s.drop n)).1), n + (parse (s.drop n)).2.1, 0) := by
  unfold restL; simp only; rw [if_pos h]
theorem restL_bad {m o : List UInt8} {st : Int} {s : List UInt8} {n : Nat} (h : (parse (s.drop n)).2.2 ≠ 0) : restL m o st s n = (noHead, 0, (parse (s.drop n)).2.2) := by
  unfold restL; simp only; rw [if_neg h]
end Go.Proofs.YtidijgofoklejaaDoor
