/- Layer 11: the ranges of a body, by the document: a contract; a body of at most a million bytes. -/
import Derived.Test.YtnmfmcmokdoieaaGreatDoorMulti12
import Derived.Test.YtnmfmcmokdoieaaGreatDoorBytes2
set_option linter.unusedVariables false
set_option linter.unusedSimpArgs false
namespace Go.Proofs.YtnmfmcmokdoieaaGreatDoor
open Go.RowKit
theorem own_bk {W0 w : World} {e t : TypeId} {size n b : Nat} {v : Value} {xs : List Value} {cs : Array Value} {fr : Nat × Nat} (h : Own W0 w e size v n xs) (hb : Bk w b t cs fr) (hne : e ≠ t) : v.ownBlock ≠ some b := by
  rcases h.2 with ⟨rfl, _⟩ | ⟨b', cap, cur, rfl, _, hh, _⟩
  · simp [Value.ownBlock]
  · intro e
    have : b' = b := by simpa [Value.ownBlock] using e
    subst this
    unfold Bk at hb
    rw [hh] at hb
    injection hb with k
    injection k with _ k _
    exact hne k
/-- []byte(s), as one operation -/
theorem op_toByts {o : Oper} {a : Act} {K : Act → World → Prop} {Q : Exit → Act → World → Prop} {w : World} {l : List UInt8} (x : Operand) (ho : o.op = .convert 9 32 x) (hx : a.eval x = str l) (hl : l.length ≤ 9223372036854775807)
    (h : ∀ c w' cs fr, Byts w' (.slice (some ⟨w.heap.size, 0, none⟩) l.length c) l → Gr w w' → Bk w' w.heap.size 5 cs fr → K (a.put o.dst (.slice (some ⟨w.heap.size, 0, none⟩) l.length c)) w') : o.wp Tryz.prog a w K Q := by
  have hr := run_bytes_of_string (P := Tryz.prog) w 9 32 5 ⟨l.toArray⟩ Tryz.underlying9 Tryz.underlying32 Tryz.underlying5
  have hg := grownCap_ge w l.length 0 5
  have hK := h _ _ _ _ (byts_row w l _ (bytesRow ⟨l.toArray⟩ (grownCap w l.length 0 5)).size hg hl) (Gr.al (Gr.dr (Gr.refl w)) _) (Bk.new w.drew 5 _ _)
  unfold Oper.wp execOp
  simp only [ho, hx, Sem.run_bind]
  rw [hr]
  exact hK
theorem step_ahead {bnd : List UInt8} {out : List PieceT} {s : List UInt8} {e : Nat} (h : aheadR out.length s = .inl e) : stepR bnd out s = .inl (.inl e) := by unfold stepR; rw [h]
theorem step_noline {bnd : List UInt8} {out : List PieceT} {s s1 : List UInt8} (h : aheadR out.length s = .inr s1) (h1 : lnL s1 = none) : stepR bnd out s = .inl (.inl 13) := by unfold stepR; rw [h]; simp only; rw [h1]
theorem step_close {bnd : List UInt8} {out : List PieceT} {s s1 t r : List UInt8} (h : aheadR out.length s = .inr s1) (h1 : lnL s1 = some (t, r)) (ho : out ≠ []) (ht : t = [45, 45] ++ bnd ++ [45, 45]) : stepR bnd out s = .inl (if r = [] then .inr out else .inl 2) := by
  unfold stepR; rw [h]; simp only; rw [h1]; simp only; rw [if_pos ⟨ho, ht⟩]; split <;> rfl
theorem step_odd {bnd : List UInt8} {out : List PieceT} {s s1 t r : List UInt8} (h : aheadR out.length s = .inr s1) (h1 : lnL s1 = some (t, r)) (ho : ¬ (out ≠ [] ∧ t = [45, 45] ++ bnd ++ [45, 45])) (ht : t ≠ [45, 45] ++ bnd) : stepR bnd out s = .inl (.inl 2) := by
  unfold stepR; rw [h]; simp only; rw [h1]; simp only; rw [if_neg ho, if_neg ht]
theorem step_piece {bnd : List UInt8} {out : List PieceT} {s s1 t r : List UInt8} (h : aheadR out.length s = .inr s1) (h1 : lnL s1 = some (t, r)) (ht : t = [45, 45] ++ bnd) : stepR bnd out s = match pieceL out.isEmpty (totOf out) r with
    | .inl e => .inl (.inl e)
    | .inr (p, r) => .inr (out ++ [p], r) := by
  unfold stepR; rw [h]; simp only; rw [h1]; simp only; rw [if_neg (fun hh => ne_dash bnd (ht.symm.trans hh.2)), if_pos ht]
  generalize pieceL out.isEmpty (totOf out) r = q
  cases q with
  | inl => rfl
  | inr x => rfl
end Go.Proofs.YtnmfmcmokdoieaaGreatDoor
