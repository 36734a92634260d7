/- Parts. No conditions but those that each theorem names. -/
import Derived.Test.YtflepnkpihfidaaGreatDoorJNum
import Derived.Test.YtflepnkpihfidaaGreatDoorJDate
import Derived.Test.YtflepnkpihfidaaGreatDoorJHead2
import Derived.Test.YtflepnkpihfidaaGreatDoorDig
import Derived.Test.YtflepnkpihfidaaGreatDoorJReq
import Derived.Test.YtflepnkpihfidaaGreatDoorJPut
import Derived.Test.YtflepnkpihfidaaGreatDoorJBytes
import Derived.Test.YtflepnkpihfidaaGreatDoorJField2
import Derived.Test.YtflepnkpihfidaaGreatDoorTab
set_option linter.unusedVariables false
set_option linter.unusedSimpArgs false
namespace Go.Proofs.YtflepnkpihfidaaGreatDoor
open Go.RowKit
/-! ### an item -/
end Go.Proofs.YtflepnkpihfidaaGreatDoor
namespace Go.Proofs.YtflepnkpihfidaaGreatDoor
open Go.RowKit
end Go.Proofs.YtflepnkpihfidaaGreatDoor
namespace Go.Proofs.YtflepnkpihfidaaGreatDoor
open Go.RowKit
def specCs (l : List SpecT) : List Value := l.flatMap fun s => [.int .i64 s.1, .int .i64 s.2]
/-- a list of ranges -/
def Specs (w : World) (v : Value) (l : List SpecT) : Prop := Sl w v l.length (specCs l)
theorem Specs.gr {w w' : World} {v : Value} {l} (h : Specs w v l) (g : Gr w w') : Specs w' v l := Sl.gr h g
theorem specCs_at (l : List SpecT) (k : Nat) (h : k < l.length) : (specCs l)[k * 2]? = some (.int .i64 l[k].1) ∧ (specCs l)[k * 2 + 1]? = some (.int .i64 l[k].2) := by
  induction l generalizing k with
  | nil => simp at h
  | cons f fs ih =>
    have hc : specCs (f :: fs) = .int .i64 f.1 :: .int .i64 f.2 :: specCs fs := rfl
    rw [hc]
    cases k with
    | zero => simp
    | succ k =>
      have := ih k (by simpa using h)
      rw [show (k + 1) * 2 = k * 2 + 1 + 1 from by omega]
      simpa using this
theorem Specs.open {w : World} {v : Value} {xs : List SpecT} (h : Specs w v xs) : ∃ A c, v = .slice A xs.length c ∧ xs.length ≤ c ∧ xs.length ≤ 9223372036854775807 ∧ ∀ (k : Nat) (hk : k < xs.length), ∃ b o, A = some ⟨b, o, none⟩ ∧ b < w.heap.size ∧ w.cell? ⟨b, o + k * 2, none⟩ = some (.int .i64 xs[k].1) ∧ w.cell? ⟨b, o + k * 2 + 1, none⟩ = some (.int .i64 xs[k].2) := by
  obtain ⟨A, c, hv, hc, hm, ho⟩ := Sl.open h
  refine ⟨A, c, hv, hc, hm, fun k hk => ?_⟩
  obtain ⟨e1, e2⟩ := specCs_at xs k hk
  obtain ⟨b, o, hA, hb, hj⟩ := ho _ _ e1
  exact ⟨b, o, hA, hb, hj _ _ e1, by rw [Nat.add_assoc]; exact hj _ _ e2⟩
end Go.Proofs.YtflepnkpihfidaaGreatDoor
namespace Go.Proofs.YtflepnkpihfidaaGreatDoor
open Go.RowKit
end Go.Proofs.YtflepnkpihfidaaGreatDoor
