/- Bytes that a call has made. No conditions. -/
import Derived.Test.YtidijgofoklejaaDoorHead8
namespace Go.Proofs.YtidijgofoklejaaDoor
open Go.RowKit
/-- '[]byte{}' -/
theorem own_empty (w : World) (e : TypeId) : Own w (w.alloc (.cells #[] e)) e 1 (.slice (some ⟨w.heap.size, 0, none⟩) 0 0) 0 [] := by
  refine ⟨by simp, .inr ⟨w.heap.size, 0, #[], rfl, Nat.le_refl _, ?_, Nat.le_refl _, by unfold maxLen; omega, by simp, by simp⟩⟩
  show (w.heap.push _)[w.heap.size]? = _; simp
theorem own_byts {W0 w : World} {n : Nat} {v : Value} {l : List UInt8} {xs : List Value} (h : Own W0 w 5 1 v n xs) (hn : n = l.length) (hx : xs = l.map byt) : Byts w v l := by
  subst hn hx
  exact h.sl (by omega)
end Go.Proofs.YtidijgofoklejaaDoor
