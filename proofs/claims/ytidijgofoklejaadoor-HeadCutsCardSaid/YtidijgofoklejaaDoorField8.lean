/- The items of values, by the reference. Contracts; texts shorter than a million. -/
import Derived.Test.YtidijgofoklejaaDoorField7
import Derived.Test.YtidijgofoklejaaDoorFieldLaw4
namespace Go.Proofs.YtidijgofoklejaaDoor
open Go.RowKit
theorem Strs.cellAt {w : World} {A : Option Addr} {n c : Nat} {xs : List (List UInt8)} (h : Strs w (.slice A n c) xs) (k : Nat) (hk : k < xs.length) : ∃ b o, A = some ⟨b, o, none⟩ ∧ b < w.heap.size ∧ w.cell? ⟨b, o + k, none⟩ = some (str xs[k]) := by
  obtain ⟨A', c', e, _, _, hh⟩ := h.open
  obtain ⟨rfl, _, _⟩ : A = A' ∧ n = xs.length ∧ c = c' := by simpa using e
  exact hh k hk
end Go.Proofs.YtidijgofoklejaaDoor
