/- Layer 11: what a text says as a content range: multi.Range and the document's. Conditions: the library's own variables hold what their types allow; a text shorter than 2 to the 32nd. -/
import Derived.Test.YtnmfmcmokdoieaaGreatDoorMulti2
set_option linter.unusedVariables false
set_option linter.unusedSimpArgs false
namespace Go.Proofs.YtnmfmcmokdoieaaGreatDoor
open Go.RowKit
/-- what is told of a content range -/
def rangeV : Option (Int × Int × Int) → Value
  | none => .tuple #[.agg #[.int .i64 0, .int .i64 0], .int .i64 0, .int .i64 2]
  | some x => .tuple #[.agg #[.int .i64 x.1, .int .i64 x.2.1], .int .i64 x.2.2, .int .i64 0]
theorem Bk.set2 {w : World} {g : Nat} {t : TypeId} {a b : Value} {fr : Nat × Nat} (h : Bk w g t #[a, b] fr) (x y : Value) : Bk ((w.setCell ⟨g, 0, none⟩ x).setCell ⟨g, 1, none⟩ y) g t #[x, y] fr := by
  have := (h.set 0 x).set 1 y
  simpa using this
theorem Bk.cells2 {w : World} {g : Nat} {t : TypeId} {a b : Value} {fr : Nat × Nat} (h : Bk w g t #[a, b] fr) : w.cell? ⟨g, 0, none⟩ = some a ∧ w.cell? ⟨g, 1, none⟩ = some b := ⟨h.cell 0, h.cell 1⟩
theorem Bk.free2 {w : World} {g : Nat} {t : TypeId} {a b : Value} (h : Bk w g t #[a, b] (0, 0)) : w.frozen? ⟨g, 0, none⟩ = false ∧ w.frozen? ⟨g, 1, none⟩ = false := ⟨h.free 0 (.inr (Nat.zero_le _)), h.free 1 (.inr (Nat.zero_le _))⟩
theorem numGo_le : ∀ (l : List UInt8) (i n : Nat), n < 4611686018427387904 → (numGo l i n).1 < 4611686018427387904 ∧ (numGo l i n).2 ≤ i + l.length
  | [], i, n, h => ⟨h, by simp [numGo]⟩
  | c :: r, i, n, h => by
    unfold numGo
    split
    · split
      · exact ⟨by decide, Nat.zero_le _⟩
      · split
        · exact ⟨by decide, Nat.zero_le _⟩
        · rename_i h2
          have := numGo_le r (i + 1) (digF n c) (by omega)
          simp only [List.length_cons]; omega
    · exact ⟨h, by simp⟩
theorem numR_le (l : List UInt8) : (numR l).1 < 4611686018427387904 ∧ (numR l).2 ≤ l.length := by
  have := numGo_le l 0 0 (by decide); unfold numR; omega
theorem rangeR_head {s : List UInt8} (h : s.take 6 ≠ [98, 121, 116, 101, 115, 32]) : rangeR s = none := by unfold rangeR; rw [if_pos h]
theorem rangeR_one {s : List UInt8} {a1 a2 : Nat} (ha : numR (s.drop 6) = (a1, a2)) (hl : s.length ≤ 6 + a2) : rangeR s = none := by
  unfold rangeR; split
  · rfl
  · rw [if_pos (by rw [ha]; exact hl)]
theorem rangeR_two {s : List UInt8} {a1 a2 b1 b2 : Nat} (ha : numR (s.drop 6) = (a1, a2)) (hb : numR (s.drop (6 + a2 + 1)) = (b1, b2)) (hl : s.length ≤ 6 + a2 + 1 + b2) : rangeR s = none := by
  unfold rangeR; split
  · rfl
  · split
    · rfl
    · rw [if_pos (by rw [ha]; simp only; rw [hb]; exact hl)]
theorem num_neg1 (x : Nat) : ((x : Int) == 0) = decide (x = 0) := by
  rw [Bool.eq_iff_iff]; simp
end Go.Proofs.YtnmfmcmokdoieaaGreatDoor
