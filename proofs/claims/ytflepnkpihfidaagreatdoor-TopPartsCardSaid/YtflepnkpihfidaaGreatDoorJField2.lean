/- Parts. No conditions but those that each theorem names. -/
import Derived.Test.YtflepnkpihfidaaGreatDoorJField1
import Derived.Test.YtflepnkpihfidaaGreatDoorJWords
import Derived.Test.YtflepnkpihfidaaGreatDoorJLawA
set_option linter.unusedVariables false
set_option linter.unusedSimpArgs false
namespace Go.Proofs.YtflepnkpihfidaaGreatDoor
open Go.RowKit
theorem two_of_map {α β : Type} {φ : α → β} {l : List α} {x y : β} (h : l.map φ = [x, y]) : ∃ f g, l = [f, g] ∧ φ f = x ∧ φ g = y := by
  rcases l with _ | ⟨f, _ | ⟨g, _ | ⟨i, l⟩⟩⟩
  · simp at h
  · simp at h
  · simp at h; exact ⟨f, g, rfl, h.1, h.2⟩
  · simp at h
end Go.Proofs.YtflepnkpihfidaaGreatDoor
namespace Go.Proofs.YtflepnkpihfidaaGreatDoor
open Go.RowKit
theorem elemStr : ElemOk Tryz.prog 64 9 (str []) 1 16 := ⟨Tryz.underlying64, by kernel_rfl, rfl, by omega⟩
end Go.Proofs.YtflepnkpihfidaaGreatDoor
namespace Go.Proofs.YtflepnkpihfidaaGreatDoor
open Go.RowKit
end Go.Proofs.YtflepnkpihfidaaGreatDoor
namespace Go.Proofs.YtflepnkpihfidaaGreatDoor
open Go.RowKit
/-- the library's own variable holds a number -/
def Ml (w : World) : Prop := ∃ m, w.cell? ⟨0, 0, none⟩ = some (.int .i64 m)
theorem Ml.gr {w w' : World} (h : Ml w) (g : Gr w w') : Ml w' := by obtain ⟨m, h⟩ := h; exact ⟨m, Gr.cell g h⟩
end Go.Proofs.YtflepnkpihfidaaGreatDoor
