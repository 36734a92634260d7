/- Lists of texts and of fields: alike, or too many. Contracts; texts shorter than 2 to the 47th. -/
import Derived.Test.YtghopokdfjcjlaaDoorField3
import Derived.Test.YtghopokdfjcjlaaDoorOwn
import Derived.Test.YtghopokdfjcjlaaDoorJLawA
namespace Go.Proofs.YtghopokdfjcjlaaDoor
open Go.RowKit
theorem two_of_map {α β : Type} {φ : α → β} {l : List α} {x y : β} (h : l.map φ = [x, y]) : ∃ f g, l = [f, g] ∧ φ f = x ∧ φ g = y := by
  rcases l with _ | ⟨f, _ | ⟨g, _ | ⟨i, l⟩⟩⟩
  · simp at h
  · simp at h
  · simp at h; exact ⟨f, g, rfl, h.1, h.2⟩
  · simp at h
end Go.Proofs.YtghopokdfjcjlaaDoor
