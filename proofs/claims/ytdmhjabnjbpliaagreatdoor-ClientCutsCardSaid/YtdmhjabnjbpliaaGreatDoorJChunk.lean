/- Several texts in one (their own heads say what each is). No conditions but those that each theorem names. -/
import Derived.Test.YtdmhjabnjbpliaaGreatDoorJDate
import Derived.Lib.FrozenHead
import Derived.Test.YtdmhjabnjbpliaaGreatDoorJHead3
import Derived.Test.YtdmhjabnjbpliaaGreatDoorJMulti
import Derived.Test.YtdmhjabnjbpliaaGreatDoorJPut
import Derived.Lib.SlBytesConst
import Derived.Test.YtdmhjabnjbpliaaGreatDoorJReq
set_option linter.unusedVariables false
set_option linter.unusedSimpArgs false
/- XOwnM -/
namespace Go.Proofs.YtdmhjabnjbpliaaGreatDoor
open Go.RowKit
/-- a row of bytes of one's own, marked behind its last cell, or nowhere -/
def OwnM (W0 w : World) (v : Value) (l : List UInt8) : Prop := ∃ g cap cur fz, v = .slice (some ⟨g, 0, none⟩) l.length cap ∧ W0.heap.size ≤ g ∧ w.heap[g]? = some (.cells cur 5 fz) ∧ (fz.2 = 0 ∨ cur.size ≤ fz.1) ∧ l.length ≤ cap ∧ cap ≤ maxLen ∧ cur.size = cap ∧ cur.toList.take l.length = l.map byt
theorem OwnM.byts {W0 w : World} {v : Value} {l : List UInt8} (h : OwnM W0 w v l) : Byts w v l := by
  obtain ⟨g, cap, cur, fz, rfl, _, hg, _, hc, hm, hs, ht⟩ := h
  refine ⟨_, _, rfl, hc, by unfold maxLen at hm; omega, .inr ⟨g, 0, rfl, (Array.getElem?_eq_some_iff.1 hg).1, fun j u hu => ?_⟩⟩
  rw [Nat.zero_add, cell_of_row w g j cur _ fz hg]
  rw [← ht, List.getElem?_take] at hu
  split at hu
  · simpa using hu
  · cases hu
theorem OwnM.form {W0 w : World} {v : Value} {l : List UInt8} (h : OwnM W0 w v l) : ∃ A c, v = .slice A l.length c := by
  obtain ⟨g, cap, cur, fz, rfl, _⟩ := h; exact ⟨_, _, rfl⟩
theorem OwnM.fresh {W0 w : World} {v : Value} {l : List UInt8} (h : OwnM W0 w v l) : Fresh W0 v := by
  obtain ⟨g, cap, cur, fz, rfl, h0, _⟩ := h
  intro b hb; simp [Value.ownBlock] at hb; omega
theorem OwnM.gr {W0 w w' : World} {v : Value} {l : List UInt8} (h : OwnM W0 w v l) (g : Gr w w') : OwnM W0 w' v l := by
  obtain ⟨b, cap, cur, fz, rfl, h0, hg, r⟩ := h
  exact ⟨b, cap, cur, fz, rfl, h0, (g.block b (Array.getElem?_eq_some_iff.1 hg).1).trans hg, r⟩
theorem OwnM.base {W0 W1 w : World} {v : Value} {l : List UInt8} (h : OwnM W1 w v l) (hb : W0.heap.size ≤ W1.heap.size) : OwnM W0 w v l := by
  obtain ⟨g, cap, cur, fz, hv, h0, r⟩ := h
  exact ⟨g, cap, cur, fz, hv, Nat.le_trans hb h0, r⟩
theorem OwnM.lt {W0 w : World} {v : Value} {l : List UInt8} (h : OwnM W0 w v l) (b : Nat) (hb : v.ownBlock = some b) : W0.heap.size ≤ b ∧ b < w.heap.size := by
  obtain ⟨g, cap, cur, fz, rfl, h0, hg, r⟩ := h
  simp [Value.ownBlock] at hb; subst hb
  exact ⟨h0, (Array.getElem?_eq_some_iff.1 hg).1⟩
/-- '[]byte(s)' -/
theorem wpList_toBytsM {ops : Array Oper} {rest : List Oper} {o : Oper} {a : Act} {Q : Exit → Act → World → Prop} {w : World} {l : List UInt8} (x : Operand) (hgd : o.guard = none) (ho : o.op = .convert 9 30 x) (hx : a.eval x = str l) (hl : l.length ≤ 1000000000)
    (h : ∀ A c n w', n = l.length → OwnM w w' (.slice A n c) l → Gr w w' → wpList Tryz.prog ops Q rest (a.put o.dst (.slice A n c)) w') : wpList Tryz.prog ops Q (o :: rest) a w := by
  have hr := run_bytes_of_string (P := Tryz.prog) w 9 30 5 ⟨l.toArray⟩ Tryz.underlying9 Tryz.underlying30 Tryz.underlying5
  have hg := grownCap_ge w l.length 0 5
  have hg2 := grownCap_le_maxLen w l.length 0 5 (by unfold maxLen; omega)
  have hsz : (bytesRow ⟨l.toArray⟩ (grownCap w l.length 0 5)).size = grownCap w l.length 0 5 := by
    simp [bytesRow]; show l.length + (grownCap w l.length 0 5 - l.length) = _; omega
  refine wpList_run hgd (v := .slice (some ⟨w.heap.size, 0, none⟩) l.length (grownCap w l.length 0 5)) ?_ (h _ _ _ _ rfl ⟨w.heap.size, _, bytesRow ⟨l.toArray⟩ (grownCap w l.length 0 5), ((bytesRow ⟨l.toArray⟩ (grownCap w l.length 0 5)).size, (bytesRow ⟨l.toArray⟩ (grownCap w l.length 0 5)).size + 1), rfl, Nat.le_refl _, heap_alloc_new w.drew _, .inr (Nat.le_refl _), hg, hg2, hsz, ?_⟩ (Gr.al (Gr.dr (Gr.refl w)) _))
  · unfold execOp
    simp only [ho, hx, Sem.run_bind]
    rw [hr]
    rfl
  · unfold bytesRow
    rw [Array.toList_append, List.take_append_of_le_length (by simp)]
    simp
    exact List.take_of_length_le (by simp)
theorem by_tr2 {a b c : World} {r r' : Option Nat} (h1 : a.grownBy b r) (h2 : b.grownBy c r') (h : r' = r ∨ ∃ k, r' = some k ∧ a.heap.size ≤ k) : a.grownBy c r := by
  refine ⟨h2.os.trans h1.os, h2.tape.trans h1.tape, h2.output.trans h1.output, Nat.le_trans h1.size h2.size, fun k hk hr => ?_⟩
  rw [h2.block k (Nat.lt_of_lt_of_le hk h1.size) (fun e => ?_), h1.block k hk hr]
  rcases h with h | ⟨j, hj, hjs⟩
  · exact hr (e.trans h)
  · rw [hj] at e; injection e with e; omega
theorem by_gr {a b c : World} {r : Option Nat} (h1 : a.grownBy b r) (h2 : Gr b c) : a.grownBy c r := by_tr2 h1 (h2.by r) (.inl rfl)
end Go.Proofs.YtdmhjabnjbpliaaGreatDoor
/- XPutW -/
namespace Go.Proofs.YtdmhjabnjbpliaaGreatDoor
open Go.RowKit
/-- what head.Put answers, its bytes its own -/
def PutM (w : World) (r : List UInt8 × Nat) (e : Ending) (w' : World) : Prop := ∃ A c, e = .returned (.tuple #[.slice A r.1.length c, .int .i64 r.2]) ∧ Gr w w' ∧ ((r.2 = 0 ∧ OwnM w w' (.slice A r.1.length c) r.1) ∨ (r.2 ≠ 0 ∧ r.1 = [] ∧ A = none ∧ c = 0))
theorem PutM.byts {w w' : World} {r : List UInt8 × Nat} {e : Ending} (h : PutM w r e w') : PutEnd w r e w' := by
  obtain ⟨A, c, he, hg, h⟩ := h
  refine ⟨A, c, he, ?_, hg, ?_⟩
  · rcases h with h | ⟨_, h, rfl, rfl⟩
    · exact h.2.byts
    · rw [h]; exact Byts.nil _
  · rcases h with h | ⟨_, h, rfl, rfl⟩
    · exact h.2.fresh
    · rw [h]; exact fresh_nil _
end Go.Proofs.YtdmhjabnjbpliaaGreatDoor
/- XChunk1 -/
namespace Go.Proofs.YtdmhjabnjbpliaaGreatDoor
open Go.RowKit
end Go.Proofs.YtdmhjabnjbpliaaGreatDoor
/- XChunk2 -/
namespace Go.Proofs.YtdmhjabnjbpliaaGreatDoor
open Go.RowKit
def chunkL (l : List UInt8) : List UInt8 := if l = [] then [] else hexT l.length ++ [13, 10] ++ l ++ [13, 10]
def lastL : List UInt8 := [48, 13, 10, 13, 10]
end Go.Proofs.YtdmhjabnjbpliaaGreatDoor
/- XChunk3 -/
namespace Go.Proofs.YtdmhjabnjbpliaaGreatDoor
open Go.RowKit
/-- has an answer of this status a body? -/
def bodB (st : Int) : Bool := decide (200 ≤ st) && st != 204 && st != 304
end Go.Proofs.YtdmhjabnjbpliaaGreatDoor
