/- More functions of layer 7 on texts: contracts, for every text. No conditions but that a text's length is an int's. -/
import Derived.Test.YtnmfmcmokdoieaaGreatDoorField1
import Derived.Lib.SlBytesConst
set_option linter.unusedVariables false
set_option linter.unusedSimpArgs false
namespace Go.Proofs.YtnmfmcmokdoieaaGreatDoor
open Go.RowKit
def ndB (c : UInt8) (j : Nat) : Bool := letterC c || (tokB.take j).contains c
theorem ndB_zero (c : UInt8) : ndB c 0 = letterC c := by simp [ndB]
theorem ndB_end (c : UInt8) : ndB c 15 = tokC c := rfl
theorem ndB_succ (c : UInt8) (j : Nat) (h : j < tokB.length) : ndB c (j + 1) = (ndB c j || ((c.toNat : Int) == (tokB[j].toNat : Int))) := by
  unfold ndB; rw [contains_take_succ _ _ h, Bool.or_assoc]
theorem tok_cells (j : Nat) (h : j < tokB.length) : (tokB.map fun b => Value.int .u8 (b.toNat : Int)).toArray[j]? = some (.int .u8 (tokB[j].toNat : Int)) := by
  simp [List.getElem?_eq_getElem h]
/-- the bytes of a text that is being made small: the first k are -/
def LowRel (wr : World) (g : Nat) (l : List UInt8) (k : Nat) : Prop :=
  (∀ (j : Nat) (h : j < l.length), wr.cell? ⟨g, j, none⟩ = some (.int .u8 ((if j < k then lowN l[j] else l[j]).toNat : Int))) ∧ ∀ j, j < l.length → wr.frozen? ⟨g, j, none⟩ = false
theorem LowRel.start (w : World) (t : TypeId) (l : List UInt8) (cap : Nat) (n : Nat) (hn : l.length ≤ n) : LowRel (w.alloc (.cells (bytesRow ⟨l.toArray⟩ cap) t (n, n + 1))) w.heap.size l 0 := by
  refine ⟨fun j h => ?_, fun j h => ?_⟩
  · rw [World.cell?_alloc_mark]
    simp [bytesRow, Array.getElem?_append, h]
  · exact (Bk.new w t _ (n, n + 1)).free j (.inl (by simp only; omega))
theorem LowRel.step {wr : World} {g : Nat} {l : List UInt8} {k : Nat} (h : LowRel wr g l k) (hk : k < l.length) : LowRel (wr.setCell ⟨g, k, none⟩ (.int .u8 ((lowN l[k]).toNat : Int))) g l (k + 1) := by
  refine ⟨fun j hj => ?_, fun j hj => by rw [World.frozen?_setCell]; exact h.2 j hj⟩
  by_cases e : j = k
  · subst e
    rw [World.cell?_setCell_same _ _ _ (h.1 j hj), if_pos (by omega)]
  · rw [World.cell?_setCell_other _ _ _ _ (h := by intro hh; apply e; injection hh with _ h2; exact h2.symm), h.1 j hj]
    by_cases e2 : j < k
    · rw [if_pos e2, if_pos (by omega)]
    · rw [if_neg e2, if_neg (by omega)]
theorem LowRel.same {wr : World} {g : Nat} {l : List UInt8} {k : Nat} (h : LowRel wr g l k) (hk : k < l.length) (hs : (l[k].toNat : Int) = ((lowN l[k]).toNat : Int)) : LowRel wr g l (k + 1) := by
  refine ⟨fun j hj => ?_, h.2⟩
  rw [h.1 j hj]
  by_cases e : j = k
  · subst e
    rw [if_neg (by omega), if_pos (by omega), hs]
  · by_cases e2 : j < k
    · rw [if_pos e2, if_pos (by omega)]
    · rw [if_neg e2, if_neg (by omega)]
end Go.Proofs.YtnmfmcmokdoieaaGreatDoor
