/- The block with which a text begins. Contracts; a text shorter than 2 to the 32nd. -/
import Derived.Test.YtnmfmcmokdoieaaGreatDoorField6
set_option linter.unusedVariables false
set_option linter.unusedSimpArgs false
namespace Go.Proofs.YtnmfmcmokdoieaaGreatDoor
open Go.RowKit
/-- the library's own variable holds a number -/
def Ml (w : World) : Prop := ∃ m, w.cell? ⟨0, 0, none⟩ = some (.int .i64 m)
theorem Ml.gr {w w' : World} (h : Ml w) (g : Gr w w') : Ml w' := by obtain ⟨m, h⟩ := h; exact ⟨m, Gr.cell g h⟩
theorem cut_any (l : List UInt8) (w : World) (hm : Ml w) (hl : l.length < 4294967281) : Calls Tryz.prog 55 #[str l, .string ⟨#[58]⟩] w fun e w' => e = .returned (.tuple #[str (Lib.cut l [58]).1, str (Lib.cut l [58]).2.1, .bool (Lib.cut l [58]).2.2]) ∧ Gr w w' := by
  obtain ⟨m, hm⟩ := hm
  exact (Tryz.strings_Cut ⟨l.toArray⟩ ⟨#[58]⟩ m w hl hm).mono fun e w' ⟨h1, n, h2⟩ => ⟨h1, by rw [h2]; exact Gr.drN (Gr.refl _) n⟩
theorem nil_fld (w : World) : Flds w (.slice none 0 0) [] := ⟨none, 0, rfl, Nat.le_refl _, by simp, .inl rfl⟩
theorem parseGo_none {s : List UInt8} {fuel k : Nat} {acc : List Fld} (h : crlf (s.drop k) = none) : parseGo s (fuel + 1) k acc = if 65536 < s.length then ([], 0, 4) else ([], 0, 3) := by
  rw [parseGo, h]
theorem parseGo_some {s : List UInt8} {fuel k j : Nat} {acc : List Fld} (h : crlf (s.drop k) = some j) : parseGo s (fuel + 1) k acc = if 65536 < k + j + 2 then ([], 0, 4) else if j = 0 then (acc, k + 2, 0) else if acc.length = 100 then ([], 0, 4)
    else if (fieldR ((s.drop k).take j)).2 then parseGo s fuel (k + j + 2) (acc ++ [(fieldR ((s.drop k).take j)).1]) else ([], 0, 2) := by
  rw [parseGo, h]
/-- what lies behind a value is new -/
def Fresh (w : World) (v : Value) : Prop := ∀ b, v.ownBlock = some b → w.heap.size ≤ b
theorem fresh_nil (w : World) : Fresh w (.slice none 0 0) := fun b h => by simp [Value.ownBlock] at h
theorem fresh_own {W0 w : World} {e : TypeId} {size n : Nat} {v : Value} {xs : List Value} (h : Own W0 w e size v n xs) : Fresh W0 v := fun b hb => (World.ownsRow.lt h b hb).1
theorem Fresh.tr {a b : World} {v : Value} (g : Gr a b) (h : Fresh b v) : Fresh a v := fun k hk => Nat.le_trans g.size (h k hk)
def ParseEndF (w : World) (r : List Fld × Nat × Nat) (e : Ending) (w' : World) : Prop := ∃ v, e = .returned (.tuple #[v, .int .i64 r.2.1, .int .i64 r.2.2]) ∧ Flds w' v r.1 ∧ Gr w w' ∧ Fresh w v
/-- what Parse answers -/
def ParseEnd (w : World) (r : List Fld × Nat × Nat) (e : Ending) (w' : World) : Prop := ∃ v, e = .returned (.tuple #[v, .int .i64 r.2.1, .int .i64 r.2.2]) ∧ Flds w' v r.1 ∧ Gr w w'
end Go.Proofs.YtnmfmcmokdoieaaGreatDoor
