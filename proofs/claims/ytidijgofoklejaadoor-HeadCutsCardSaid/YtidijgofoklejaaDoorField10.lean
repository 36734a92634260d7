/- The items of values as a list; the chapter's examples. -/
import Derived.Test.YtidijgofoklejaaDoorField9
namespace Go.Proofs.YtidijgofoklejaaDoor
open Go.RowKit
theorem own_bk_ne {W0 w : World} {e t : TypeId} {size n g : Nat} {v : Value} {xs : List Value} {cs : Array Value} {fr : Nat × Nat} (h : Own W0 w e size v n xs) (k : Bk w g t cs fr) (hne : e ≠ t) : v.ownBlock ≠ some g := by
  rcases h.2 with ⟨rfl, _⟩ | ⟨b, cap, cur, rfl, _, hh, _⟩
  · simp [Value.ownBlock]
  · intro hb
    have hb' : b = g := by simpa [Value.ownBlock] using hb
    subst hb'
    unfold Bk at k
    rw [hh] at k
    injection k with k
    injection k with _ k _
    exact hne k
theorem Own.set {W0 w : World} {e : TypeId} {size n g : Nat} {v : Value} {xs : List Value} (h : Own W0 w e size v n xs) (hne : v.ownBlock ≠ some g) (i : Nat) (u : Value) : Own W0 (w.setCell ⟨g, i, none⟩ u) e size v n xs := by
  refine ⟨h.1, ?_⟩
  rcases h.2 with hn | ⟨b, cap, cur, hv, hb, hh, r⟩
  · exact .inl hn
  · subst hv
    exact .inr ⟨b, cap, cur, rfl, hb, by rw [Below.heap_setCell _ _ _ _ (by rintro rfl; exact hne rfl)]; exact hh, r⟩
theorem by_app {W0 w w' : World} {e : TypeId} {size n : Nat} {v v' : Value} {xs : List Value} {r : Option Nat} (h : W0.grownBy w r) (ho : Own W0 w e size v n xs) (a : App v v' w w') : W0.grownBy w' r :=
  ⟨a.grown.os.trans h.os, a.grown.tape.trans h.tape, a.grown.output.trans h.output, Nat.le_trans h.size a.grown.size, fun k hk hr => (a.grown.block k (Nat.lt_of_lt_of_le hk h.size) (fun e => by
    have := (World.ownsRow.lt ho k e.symm).1; omega)).trans (h.block k hk hr)⟩
theorem Bk.app {w w' : World} {g t cs fr} {v v' : Value} (h : Bk w g t cs fr) (a : App v v' w w') (hne : v.ownBlock ≠ some g) : Bk w' g t cs fr := (a.grown.block g h.lt (Ne.symm hne)).trans h
/-- what the told items have made: the list that the cell of block g holds -/
def Told (w2 : World) (g : Nat) (ys : List (List UInt8)) (w : World) : Prop := w2.grownBy w (some g) ∧ ∃ v, Bk w g 58 #[v] (0, 0) ∧ Own w2 w 9 1 v ys.length (ys.map str)
theorem Told.gr {w2 : World} {g : Nat} {ys : List (List UInt8)} {w w' : World} (h : Told w2 g ys w) (k : Gr w w') : Told w2 g ys w' := by
  obtain ⟨h1, v, h2, h3⟩ := h
  exact ⟨by_tr h1 k, v, h2.gr k, h3.gr k⟩
theorem strNe : (9 : Nat) ≠ 58 := by decide
theorem ex1 : parse [97, 58, 32, 49, 44, 32, 34, 98, 44, 92, 34, 99, 34, 32, 44, 44, 32, 100, 13, 10, 13, 10, 120] = ([([97], [49, 44, 32, 34, 98, 44, 92, 34, 99, 34, 32, 44, 44, 32, 100])], 22, 0) := by decide +kernel
theorem ex2 : parse [97, 32, 58, 32, 49, 13, 10, 13, 10] = ([], 0, 2) := by decide +kernel
theorem ex3 : itemsAll [[49, 44, 32, 34, 98, 44, 92, 34, 99, 34, 32, 44, 44, 32, 100]] = [[49], [34, 98, 44, 92, 34, 99, 34], [100]] := by decide +kernel
theorem ml_of {W : World} (h : W.ShapedOpen Tryd.prog) : Ml W := Tryd.laysM143.s1_3 W h
theorem strs_new (w : World) (xs : List (List UInt8)) (t : TypeId) (h : xs.length ≤ 1000) : Strs (w.alloc (.cells (xs.map str).toArray t)) (.slice (some ⟨w.heap.size, 0, none⟩) xs.length xs.length) xs := by
  refine ⟨_, _, rfl, Nat.le_refl _, by omega, .inr ⟨w.heap.size, 0, rfl, (Bk.new w t (xs.map str).toArray (0, 0)).lt, fun j u hu => ?_⟩⟩
  rw [Nat.zero_add, (Bk.new w t (xs.map str).toArray (0, 0)).cell j]; simpa using hu
end Go.Proofs.YtidijgofoklejaaDoor
