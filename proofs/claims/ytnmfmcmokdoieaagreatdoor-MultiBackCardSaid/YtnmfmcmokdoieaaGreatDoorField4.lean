/- Lists of texts and of fields: alike, or too many. Contracts; texts shorter than 2 to the 47th. -/
import Derived.Test.YtnmfmcmokdoieaaGreatDoorField3
import Derived.Test.YtnmfmcmokdoieaaGreatDoorOwn
import Derived.Test.YtnmfmcmokdoieaaGreatDoorJLawA
set_option linter.unusedVariables false
set_option linter.unusedSimpArgs false
namespace Go.Proofs.YtnmfmcmokdoieaaGreatDoor
open Go.RowKit
theorem two_of_map {α β : Type} {φ : α → β} {l : List α} {x y : β} (h : l.map φ = [x, y]) : ∃ f g, l = [f, g] ∧ φ f = x ∧ φ g = y := by
  rcases l with _ | ⟨f, _ | ⟨g, _ | ⟨i, l⟩⟩⟩
  · simp at h
  · simp at h
  · simp at h; exact ⟨f, g, rfl, h.1, h.2⟩
  · simp at h
theorem neq_fld (w : World) (a b c d : List UInt8) : (binOp .neq 60 (.agg #[str a, str b]) (.agg #[str c, str d])).run Tryz.prog w = .ok (.bool (!((a, b) == (c, d)))) w := by
  rw [run_neq_struct, show (10000 : Nat) = 9998 + 1 + 1 from rfl, run_equalIn_agg _ _ _ _ _ (by kernel_rfl) (by kernel_rfl)]
  have hf : (Tryz.prog.fieldsOf 60).toList.map (fun f => (f.name, f.type, f.offset)) = [("Name", 9, 0), ("Value", 9, 1)] := by kernel_rfl
  generalize (Tryz.prog.fieldsOf 60).toList = fs at hf
  obtain ⟨f, g, rfl, hf1, hf2⟩ := two_of_map hf
  · simp only [Prod.mk.injEq] at hf1 hf2
    obtain ⟨n1, t1, o1⟩ := hf1
    obtain ⟨n2, t2, o2⟩ := hf2
    have e : ((a, b) == (c, d)) = (a == c && b == d) := rfl
    rw [e]
    simp only [Op.eqFields, n1, t1, o1, n2, t2, o2]
    cases h1 : (a == c) <;> cases h2 : (b == d) <;> simp [go_sem, h1, h2]
end Go.Proofs.YtnmfmcmokdoieaaGreatDoor
