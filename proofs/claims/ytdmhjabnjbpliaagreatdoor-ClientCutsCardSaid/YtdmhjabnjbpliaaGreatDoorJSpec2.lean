/- Several texts in one (their own heads say what each is). No conditions but those that each theorem names. -/
import Derived.Test.YtdmhjabnjbpliaaGreatDoorJSpec
import Derived.Test.YtdmhjabnjbpliaaGreatDoorJWords
import Derived.Test.YtdmhjabnjbpliaaGreatDoorRange2
set_option linter.unusedVariables false
set_option linter.unusedSimpArgs false
/- XSpec5 -/
namespace Go.Proofs.YtdmhjabnjbpliaaGreatDoor
open Go.RowKit
def SRel (s : List UInt8) (G : Option (List SpecT)) (i b : Nat) (l : List SpecT) : Prop := (i ≤ s.length ∧ b ≤ i ∧ goS ((s.drop b).take (i - b)) l (s.drop i) = G) ∨ (i = s.length + 1 ∧ b ≤ i ∧ G = some l)
theorem SRel.le {s : List UInt8} {G : Option (List SpecT)} {i b : Nat} {l : List SpecT} (h : SRel s G i b l) : i ≤ s.length + 1 ∧ b ≤ i := by
  rcases h with h | h <;> omega
end Go.Proofs.YtdmhjabnjbpliaaGreatDoor
/- XSpec6 -/
namespace Go.Proofs.YtdmhjabnjbpliaaGreatDoor
open Go.RowKit
/-- between two items: p: the ranges; p+1: too many; b: the iterator's; the loop's record -/
structure SI (p b : Nat) (W1 : World) (L : List SpecT) (A : World) : Prop where
  kr : Kr [p, p + 1, b, W1.heap.size - 1] W1.heap.size W1 A
  row : ∃ v, Bk A p 22 #[v] (0, 0) ∧ Own W1 A 75 2 v (L.take 64).length (specCs (L.take 64))
  many : Bk A (p + 1) 4 #[.bool (decide (64 < L.length))] (0, 0)
/-- the loop was left; g, g+1: the results -/
structure SX (g p b : Nat) (W1 : World) (A : World) : Prop where
  kr : Kr [g, g + 1, p, p + 1, b, W1.heap.size - 1] W1.heap.size W1 A
  r0 : Bk A g 22 #[.slice none 0 0] (0, 0)
  r1 : Bk A (g + 1) 35 #[.int .i64 2] (0, 0)
theorem sbk_by {A B : World} {g t cs fr} {r : Option Nat} (h : Bk A g t cs fr) (k : A.grownBy B r) (hr : r ≠ some g) : Bk B g t cs fr := (k.block g h.lt (Ne.symm hr)).trans h
theorem SI.by {p b : Nat} {W1 : World} {L : List SpecT} {A B : World} (h : SI p b W1 L A) {r : Nat} (k : A.grownBy B (some r)) (hr : r = b ∨ r = W1.heap.size - 1) (hb : p + 1 < b) (hW : b + 2 < W1.heap.size - 1) : SI p b W1 L B := by
  have hne : ∀ j, j ≤ p + 1 → (some r : Option Nat) ≠ some j := fun j hj e => by cases e; omega
  obtain ⟨v, h1, h2⟩ := h.row
  exact ⟨h.kr.by k (fun j e => by cases e; rcases hr with rfl | rfl <;> simp), ⟨v, sbk_by h1 k (hne p (by omega)), own_kr h2 k (.inr (own_ne h2 (by omega)))⟩, sbk_by h.many k (hne (p + 1) (by omega))⟩
theorem SX.by {g p b : Nat} {W1 : World} {A B : World} (h : SX g p b W1 A) {r : Nat} (k : A.grownBy B (some r)) (hr : r = b ∨ r = W1.heap.size - 1) (hg : g + 1 < p) (hb : p + 1 < b) (hW : b + 2 < W1.heap.size - 1) : SX g p b W1 B := by
  have hne : ∀ j, j ≤ p + 1 → (some r : Option Nat) ≠ some j := fun j hj e => by cases e; omega
  exact ⟨h.kr.by k (fun j e => by cases e; rcases hr with rfl | rfl <;> simp), sbk_by h.r0 k (hne g (by omega)), sbk_by h.r1 k (hne (g + 1) (by omega))⟩
theorem SI.gr {p b : Nat} {W1 : World} {L : List SpecT} {A B : World} (h : SI p b W1 L A) (k : Gr A B) : SI p b W1 L B := by
  obtain ⟨v, h1, h2⟩ := h.row
  exact ⟨h.kr.gr k, ⟨v, h1.gr k, h2.gr k⟩, h.many.gr k⟩
theorem SI.more {p b : Nat} {W1 : World} {L : List SpecT} {A : World} (x : SpecT) (h : SI p b W1 L A) (hb : p + 1 < b) (hW : b + 2 < W1.heap.size - 1) (hl : 64 ≤ L.length) : SI p b W1 (L ++ [x]) (A.setCell ⟨p + 1, 0, none⟩ (.bool true)) := by
  obtain ⟨v, h1, h2⟩ := h.row
  have e2 : (L ++ [x]).take 64 = L.take 64 := by rw [List.take_append_of_le_length hl]
  have k := by_st ((Gr.refl A).by (some (p + 1))) 0 (.bool true)
  refine ⟨h.kr.set (.inl (by simp)) _ _, ⟨v, h1.far (p := ⟨p + 1, 0, none⟩) (by simp) _, ?_⟩, ?_⟩
  · rw [e2]; exact own_kr h2 k (.inr (own_ne h2 (by omega)))
  · rw [decide_eq_true (show 64 < (L ++ [x]).length by simp; omega)]; exact h.many.set 0 _
structure S0 (g : Nat) (A : World) : Prop where
  r0 : Bk A g 22 #[.slice none 0 0] (0, 0)
  r1 : Bk A (g + 1) 35 #[.int .i64 0] (0, 0)
theorem S0.gr {g : Nat} {A B : World} (h : S0 g A) (k : Gr A B) : S0 g B := ⟨h.r0.gr k, h.r1.gr k⟩
theorem sgr_put {w A : World} {D : Nat} (h : Gr w A) (hD : w.heap.size ≤ D) (o : Obj) : Gr w (A.putObj D o) :=
  have k := grownBy_putObj' A D o
  ⟨k.os.trans h.os, k.tape.trans h.tape, k.output.trans h.output, Nat.le_trans h.size k.size, fun j hj => (k.block j (Nat.lt_of_lt_of_le hj h.size) (by intro e; cases e; omega)).trans (h.block j hj)⟩
end Go.Proofs.YtdmhjabnjbpliaaGreatDoor
/- XSpec7 -/
namespace Go.Proofs.YtdmhjabnjbpliaaGreatDoor
open Go.RowKit
end Go.Proofs.YtdmhjabnjbpliaaGreatDoor
