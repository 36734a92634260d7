/- Several texts in one (their own heads say what each is). No conditions but those that each theorem names. -/
import Derived.Test.YtdmhjabnjbpliaaGreatDoorJCond
import Derived.Test.YtdmhjabnjbpliaaGreatDoorJWords
import Derived.Test.YtdmhjabnjbpliaaGreatDoorJHead1
set_option linter.unusedVariables false
set_option linter.unusedSimpArgs false
/- XCond4 -/
namespace Go.Proofs.YtdmhjabnjbpliaaGreatDoor
open Go.RowKit
theorem Tags.lt {w : World} {v : Value} {l : List TagT} (h : Tags w v l) (hl : l ≠ []) : ∀ b, v.ownBlock = some b → b < w.heap.size := by
  obtain ⟨A, c, rfl, hc, hm, hh⟩ := h
  rcases hh with hh | ⟨b, o, hA, hb, _⟩
  · exfalso
    cases l with
    | nil => exact hl rfl
    | cons t r => simp [tagCs] at hh
  · subst hA
    intro k hk
    have : b = k := by simpa [Value.ownBlock] using hk
    rw [← this]; exact hb
theorem Tags.kr {S : List Nat} {N : Nat} {A B : World} {v : Value} {l : List TagT} (h : Tags A v l) (k : Kr S N A B) (hb : l ≠ [] → ∀ b, v.ownBlock = some b → b < N ∧ b ∉ S) : Tags B v l := by
  obtain ⟨Ad, c, rfl, hc, hm, hh⟩ := h
  refine ⟨Ad, c, rfl, hc, hm, ?_⟩
  rcases hh with hh | ⟨b, o, hA, hlt, hj⟩
  · exact .inl hh
  · by_cases hl : l = []
    · left; rw [hl]; rfl
    · subst hA
      obtain ⟨h1, h2⟩ := hb hl b rfl
      refine .inr ⟨b, o, rfl, Nat.lt_of_lt_of_le hlt k.size, fun j u hu => ?_⟩
      rw [World.cell?_of_block (k.block b h1 h2)]; exact hj j u hu
end Go.Proofs.YtdmhjabnjbpliaaGreatDoor
/- XCond5 -/
namespace Go.Proofs.YtdmhjabnjbpliaaGreatDoor
open Go.RowKit
end Go.Proofs.YtdmhjabnjbpliaaGreatDoor
