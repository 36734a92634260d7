/- Parts. No conditions but those that each theorem names. -/
import Derived.Test.YtflepnkpihfidaaGreatDoorJCond2
import Derived.Test.YtflepnkpihfidaaGreatDoorJField2
set_option linter.unusedVariables false
set_option linter.unusedSimpArgs false
namespace Go.Proofs.YtflepnkpihfidaaGreatDoor
open Go.RowKit
theorem neq_tag (w : World) (a c : List UInt8) (b d : Bool) : (binOp .neq 25 (.agg #[str a, .bool b]) (.agg #[str c, .bool d])).run Tryz.prog w = .ok (.bool (!((a, b) == (c, d)))) w := by
  rw [run_neq_struct, show (10000 : Nat) = 9998 + 1 + 1 from rfl, run_equalIn_agg _ _ _ _ _ (by kernel_rfl) (by kernel_rfl)]
  have hf : (Tryz.prog.fieldsOf 25).toList.map (fun f => (f.name, f.type, f.offset)) = [("Text", 9, 0), ("Weak", 4, 1)] := by kernel_rfl
  generalize (Tryz.prog.fieldsOf 25).toList = fs at hf
  obtain ⟨f, g, rfl, hf1, hf2⟩ := two_of_map hf
  · simp only [Prod.mk.injEq] at hf1 hf2
    obtain ⟨n1, t1, o1⟩ := hf1
    obtain ⟨n2, t2, o2⟩ := hf2
    have e : ((a, b) == (c, d)) = (a == c && b == d) := rfl
    rw [e]
    simp only [Op.eqFields, n1, t1, o1, n2, t2, o2]
    cases h1 : (a == c) <;> cases h2 : (b == d) <;> simp [go_sem, h1, h2]
theorem own_ne_ty {W0 w : World} {e t : TypeId} {size n k : Nat} {v : Value} {xs : List Value} {cs : Array Value} {fr : Nat × Nat} (h : Own W0 w e size v n xs) (hb : Bk w k t cs fr) (hne : t ≠ e) : v.ownBlock ≠ some k := by
  rcases h.2 with ⟨hv, _⟩ | ⟨g, cap, cur, hv, _, hh, _⟩
  · rw [hv]; simp [Value.ownBlock]
  · rw [hv]
    intro he
    have : g = k := by simpa [Value.ownBlock] using he
    subst this
    unfold Bk at hb
    rw [hh] at hb
    injection hb with hb
    injection hb with _ hb _
    exact hne hb.symm
theorem fldsNeF : (34 : Nat) ≠ 127 := by decide
theorem elemFld8 : ElemOk Tryz.prog 34 127 (.agg #[str [], str []]) 2 32 := ⟨Tryz.underlying34, by kernel_rfl, rfl, by omega⟩
theorem one_fld8 (a b : List UInt8) : ∀ u ∈ [str a, str b], u.oneCell' = true := by
  intro u hu
  simp only [List.mem_cons, List.not_mem_nil, or_false] at hu
  rcases hu with rfl | rfl <;> rfl
end Go.Proofs.YtflepnkpihfidaaGreatDoor
namespace Go.Proofs.YtflepnkpihfidaaGreatDoor
open Go.RowKit
end Go.Proofs.YtflepnkpihfidaaGreatDoor
namespace Go.Proofs.YtflepnkpihfidaaGreatDoor
open Go.RowKit
end Go.Proofs.YtflepnkpihfidaaGreatDoor
