/- Cuts of slices of bytes, with where they lie; slices behind a store elsewhere. No conditions. -/
import Derived.Test.YtnmfmcmokdoieaaGreatDoorBytes
import Derived.Test.YtnmfmcmokdoieaaGreatDoorRegion
set_option linter.unusedVariables false
set_option linter.unusedSimpArgs false
namespace Go.Proofs.YtnmfmcmokdoieaaGreatDoor
open Go.RowKit
theorem add_block (a : Addr) (n : Nat) : (a.add n).block = a.block := by unfold Addr.add; split <;> rfl
theorem sliced_own (A : Option Addr) (lo hi m s n c : Nat) : (sliced A lo hi m s).ownBlock = (Value.slice A n c).ownBlock := by
  unfold sliced
  cases A with
  | none => split <;> rfl
  | some a =>
    split
    · rfl
    · simp only [Option.map_some, Value.ownBlock, add_block]
/-- b[k:] -/
theorem wpList_slLoB {ops : Array Oper} {rest : List Oper} {o : Oper} {a : Act} {Q : Exit → Act → World → Prop} {w : World} {A : Option Addr} {n c : Nat} {l : List UInt8} {kd : IntKind} {k : Int} (x y : Operand) (hgd : o.guard = none) (ho : o.op = .slice 32 x (some y) none none) (hx : a.eval x = .slice A n c) (hy : a.eval y = .int kd k)
    (hb : Byts w (.slice A n c) l) (hk0 : 0 ≤ k) (hk : k ≤ l.length)
    (h : ∀ A2, Byts w (.slice A2 (l.length - k.toNat) (c - k.toNat)) (l.drop k.toNat) → (Value.slice A2 (l.length - k.toNat) (c - k.toNat)).ownBlock = (Value.slice A n c).ownBlock → wpList Tryz.prog ops Q rest (a.put o.dst (.slice A2 (l.length - k.toNat) (c - k.toNat))) w) : wpList Tryz.prog ops Q (o :: rest) a w := by
  obtain ⟨rfl, hc⟩ := hb.len
  obtain ⟨A2, e, h2⟩ := hb.sliced k.toNat l.length c (by omega) (Nat.le_refl _) hc (Nat.le_refl _)
  rw [List.take_of_length_le (by rw [List.length_drop]; omega)] at h2
  refine wpList_run hgd ?_ (h A2 h2 (by rw [← e]; exact sliced_own ..))
  unfold execOp
  simp only [ho, hx, hy, Option.map_some, Option.map_none, Sem.run_bind, run_sliceAt_slice w _ _ _ _ _ elemT, run_slice_l w _ _ _ _ elemT kd k hk0 hk, sizeByte, Result.andThen_ok, Sem.run_pure, e]
theorem Sl.st {w : World} {v : Value} {n : Nat} {cs : List Value} (h : Sl w v n cs) {g : Nat} (hne : v.ownBlock ≠ some g) (i : Nat) (u : Value) : Sl (w.setCell ⟨g, i, none⟩ u) v n cs := Sl.kept h (by_st ((Gr.refl w).by (some g)) i u) (.inr hne)
theorem Byts.st {w : World} {v : Value} {l : List UInt8} (h : Byts w v l) {g : Nat} (hne : v.ownBlock ≠ some g) (i : Nat) (u : Value) : Byts (w.setCell ⟨g, i, none⟩ u) v l := Sl.st h hne i u
theorem Byts.by {w w' : World} {v : Value} {l : List UInt8} {r : Option Nat} (h : Byts w v l) (g : w.grownBy w' r) (hr : v.ownBlock = none ∨ v.ownBlock ≠ r) : Byts w' v l := Sl.kept h g hr
theorem gr_by {a b c : World} {g : Nat} (h : Gr a b) (k : b.grownBy c (some g)) (hg : a.heap.size ≤ g) : Gr a c :=
  ⟨k.os.trans h.os, k.tape.trans h.tape, k.output.trans h.output, Nat.le_trans h.size k.size, fun i hi => (k.block i (Nat.lt_of_lt_of_le hi h.size) (fun e => by cases e; omega)).trans (h.block i hi)⟩
theorem by_trans {a b c : World} {r : Option Nat} (h : a.grownBy b r) (k : b.grownBy c r) : a.grownBy c r :=
  ⟨k.os.trans h.os, k.tape.trans h.tape, k.output.trans h.output, Nat.le_trans h.size k.size, fun i hi hr => (k.block i (Nat.lt_of_lt_of_le hi h.size) hr).trans (h.block i hi hr)⟩
theorem gr_byb {a b c : World} {r : Option Nat} (h : Gr a b) (k : b.grownBy c r) : a.grownBy c r := by_trans (h.by r) k
theorem bk_byo {w w' : World} {b : Nat} {t : TypeId} {cs : Array Value} {fr : Nat × Nat} {r : Option Nat} (h : Bk w b t cs fr) (k : w.grownBy w' r) (hne : some b ≠ r) : Bk w' b t cs fr := (k.block b h.lt hne).trans h
theorem Byts.zero {w w' : World} {v : Value} (h : Byts w v []) : Byts w' v [] := by
  obtain ⟨A, c, hv, hc, hm, _⟩ := h
  exact ⟨A, c, hv, hc, hm, .inl rfl⟩
/-- a store behind all that a slice of bytes lies in -/
theorem Byts.stO {w : World} {v : Value} {l : List UInt8} {g k : Nat} (h : Byts w v l) (ho : l = [] ∨ ∀ b, v.ownBlock = some b → b < g) (hk : g ≤ k) (i : Nat) (u : Value) : Byts (w.setCell ⟨k, i, none⟩ u) v l := by
  rcases ho with rfl | ho
  · exact h.zero
  · exact h.st (fun e => by have := ho k e; omega) i u
theorem Byts.byO {w w' : World} {v : Value} {l : List UInt8} {g k : Nat} (h : Byts w v l) (ho : l = [] ∨ ∀ b, v.ownBlock = some b → b < g) (hk : g ≤ k) (hb : w.grownBy w' (some k)) : Byts w' v l := by
  rcases ho with rfl | ho
  · exact h.zero
  · exact h.by hb (.inr fun e => by have := ho k e; omega)
theorem by_new {a b : World} {r : Option Nat} {p : Addr} (h : a.grownBy b r) (hp : a.heap.size ≤ p.block) (u : Value) : a.grownBy (b.setCell p u) r :=
  ⟨h.os, h.tape, h.output, by have := h.size; simpa [World.setCell] using this, fun i hi hr => (Below.heap_setCell b p u i (by omega)).trans (h.block i hi hr)⟩
/-- a block of four cells, written whole -/
theorem Bk.set4 {w : World} {g : Nat} {t : TypeId} {a b c d : Value} {fr : Nat × Nat} (h : Bk w g t #[a, b, c, d] fr) (x y z u : Value) : Bk ((((w.setCell ⟨g, 0, none⟩ x).setCell ⟨g, 1, none⟩ y).setCell ⟨g, 2, none⟩ z).setCell ⟨g, 3, none⟩ u) g t #[x, y, z, u] fr := by
  have := (((h.set 0 x).set 1 y).set 2 z).set 3 u
  simpa using this
theorem Bk.cells4 {w : World} {g : Nat} {t : TypeId} {a b c d : Value} {fr : Nat × Nat} (h : Bk w g t #[a, b, c, d] fr) : w.cell? ⟨g, 0, none⟩ = some a ∧ w.cell? ⟨g, 1, none⟩ = some b ∧ w.cell? ⟨g, 2, none⟩ = some c ∧ w.cell? ⟨g, 3, none⟩ = some d := ⟨h.cell 0, h.cell 1, h.cell 2, h.cell 3⟩
theorem Bk.free4 {w : World} {g : Nat} {t : TypeId} {a b c d : Value} (h : Bk w g t #[a, b, c, d] (0, 0)) : w.frozen? ⟨g, 0, none⟩ = false ∧ w.frozen? ⟨g, 1, none⟩ = false ∧ w.frozen? ⟨g, 2, none⟩ = false ∧ w.frozen? ⟨g, 3, none⟩ = false :=
  ⟨h.free 0 (.inr (Nat.zero_le _)), h.free 1 (.inr (Nat.zero_le _)), h.free 2 (.inr (Nat.zero_le _)), h.free 3 (.inr (Nat.zero_le _))⟩
theorem Gr.st4 {a b : World} (h : Gr a b) {g : Nat} (hg : a.heap.size ≤ g) (x y z u : Value) : Gr a ((((b.setCell ⟨g, 0, none⟩ x).setCell ⟨g, 1, none⟩ y).setCell ⟨g, 2, none⟩ z).setCell ⟨g, 3, none⟩ u) :=
  Gr.st (Gr.st (Gr.st (Gr.st h hg x) hg y) hg z) hg u
end Go.Proofs.YtnmfmcmokdoieaaGreatDoor
