/- Parts. No conditions but those that each theorem names. -/
import Derived.Test.YtflepnkpihfidaaGreatDoorJGateO
import Derived.Test.YtflepnkpihfidaaGreatDoorJCond2
import Derived.Test.YtflepnkpihfidaaGreatDoorJSpec2
import Derived.Test.YtflepnkpihfidaaGreatDoorJHead1
import Derived.Test.YtflepnkpihfidaaGreatDoorJGate1
set_option linter.unusedVariables false
set_option linter.unusedSimpArgs false
namespace Go.Proofs.YtflepnkpihfidaaGreatDoor
open Go.RowKit
/-- cells stored one by one -/
def putCs (w : World) (g : Nat) : List Value → Nat → World
  | [], _ => w
  | v :: r, i => putCs (w.setCell ⟨g, i, none⟩ v) g r (i + 1)
theorem putCs_gr {a : World} {g : Nat} (hg : a.heap.size ≤ g) : ∀ (l : List Value) (i : Nat) (w : World), Gr a w → Gr a (putCs w g l i)
  | [], _, _, h => h
  | v :: r, i, w, h => putCs_gr hg r (i + 1) _ (h.st (p := ⟨g, i, none⟩) hg v)
theorem putCs_by {g : Nat} : ∀ (l : List Value) (i : Nat) (a w : World), a.grownBy w (some g) → a.grownBy (putCs w g l i) (some g)
  | [], _, _, _, h => h
  | v :: r, i, a, w, h => putCs_by r (i + 1) a _ (by_st h i v)
theorem putCs_sl {v : Value} {n : Nat} {cs : List Value} {g : Nat} (hne : v.ownBlock ≠ some g) : ∀ (l : List Value) (i : Nat) (w : World), Sl w v n cs → Sl (putCs w g l i) v n cs
  | [], _, _, h => h
  | u :: r, i, w, h => putCs_sl hne r (i + 1) _ (Sl.st h hne i u)
theorem putCs_go {g : Nat} {t : TypeId} {fr : Nat × Nat} : ∀ (l pre : List Value) (cs : List Value) (w : World), cs.length = l.length → Bk w g t (pre ++ cs).toArray fr → Bk (putCs w g l pre.length) g t (pre ++ l).toArray fr
  | [], pre, cs, w, hl, h => by
    have : cs = [] := List.eq_nil_of_length_eq_zero hl
    rw [this] at h; exact h
  | v :: r, pre, cs, w, hl, h => by
    cases cs with
    | nil => simp at hl
    | cons c cs =>
      have h1 := Bk.set h pre.length v
      have e : (pre ++ c :: cs).toArray.setIfInBounds pre.length v = ((pre ++ [v]) ++ cs).toArray := by
        simp
      rw [e] at h1
      have h2 := putCs_go r (pre ++ [v]) cs _ (by simpa using hl) h1
      have e2 : (pre ++ [v]).length = pre.length + 1 := by simp
      rw [e2] at h2
      have e3 : pre ++ [v] ++ r = pre ++ v :: r := by simp
      rw [e3] at h2
      exact h2
theorem putCs_bk {w : World} {g : Nat} {t : TypeId} {cs : Array Value} {fr : Nat × Nat} {l : List Value} (h : Bk w g t cs fr) (hl : cs.size = l.length) : Bk (putCs w g l 0) g t l.toArray fr := by
  have := putCs_go l [] cs.toList w (by simpa using hl) (by simpa using h)
  simpa using this
theorem at_world {P : World → Prop} {w0 : World} (h : ∀ wy, wy = w0 → P wy) : P w0 := h _ rfl
end Go.Proofs.YtflepnkpihfidaaGreatDoor
namespace Go.Proofs.YtflepnkpihfidaaGreatDoor
open Go.RowKit
end Go.Proofs.YtflepnkpihfidaaGreatDoor
