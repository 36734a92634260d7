/- Layer 11's law on ranges: pieces of both sides compared: a contract; both hold the same. -/
import Derived.Test.YtnmfmcmokdoieaaGreatDoorMulti13
set_option linter.unusedVariables false
set_option linter.unusedSimpArgs false
namespace Go.Proofs.YtnmfmcmokdoieaaGreatDoor
open Go.RowKit
theorem flatQ_cons (x : PieceT × Value) (L : List (PieceT × Value)) : flatQ (x :: L) = .int .i64 x.1.1.1 :: .int .i64 x.1.1.2.1 :: .int .i64 x.1.1.2.2 :: x.2 :: flatQ L := rfl
theorem flatQ_at (L : List (PieceT × Value)) (k : Nat) (h : k < L.length) : (flatQ L)[k * 4]? = some (.int .i64 L[k].1.1.1) ∧ (flatQ L)[k * 4 + 1]? = some (.int .i64 L[k].1.1.2.1) ∧ (flatQ L)[k * 4 + 2]? = some (.int .i64 L[k].1.1.2.2) ∧ (flatQ L)[k * 4 + 3]? = some L[k].2 := by
  induction L generalizing k with
  | nil => simp at h
  | cons f fs ih =>
    rw [flatQ_cons]
    cases k with
    | zero => simp
    | succ k =>
      have := ih k (by simpa using h)
      rw [show (k + 1) * 4 = k * 4 + 1 + 1 + 1 + 1 from by omega]
      simpa using this
theorem Pieces.open {w : World} {v : Value} {ps : List PieceT} (h : Pieces w v ps) : ∃ A c, v = .slice A ps.length c ∧ ps.length ≤ c ∧ ps.length ≤ 9223372036854775807 ∧ ∀ (k : Nat) (hk : k < ps.length), ∃ b o u, A = some ⟨b, o, none⟩ ∧ w.cell? ⟨b, o + k * 4, none⟩ = some (.int .i64 ps[k].1.1) ∧ w.cell? ⟨b, o + k * 4 + 1, none⟩ = some (.int .i64 ps[k].1.2.1) ∧ w.cell? ⟨b, o + k * 4 + 2, none⟩ = some (.int .i64 ps[k].1.2.2) ∧ w.cell? ⟨b, o + k * 4 + 3, none⟩ = some u ∧ Byts w u ps[k].2 := by
  obtain ⟨L, hL, hs, hb⟩ := h
  obtain ⟨A, c, hv, hc, hm, ho⟩ := Sl.open hs
  subst hL
  refine ⟨A, c, by rw [List.length_map]; exact hv, by rw [List.length_map]; exact hc, by rw [List.length_map]; exact hm, fun k hk => ?_⟩
  have hk' : k < L.length := by simpa using hk
  obtain ⟨e1, e2, e3, e4⟩ := flatQ_at L k hk'
  obtain ⟨b, o, hA, hb', hj⟩ := ho _ _ e1
  simp only [List.getElem_map]
  exact ⟨b, o, L[k].2, hA, hj _ _ e1, by rw [Nat.add_assoc]; exact hj _ _ e2, by rw [Nat.add_assoc]; exact hj _ _ e3, by rw [Nat.add_assoc]; exact hj _ _ e4, hb _ (List.getElem_mem hk')⟩
end Go.Proofs.YtnmfmcmokdoieaaGreatDoor
