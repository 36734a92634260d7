/- What a function keeps while it writes its own variables and rows: the words for a range over a function. No conditions. -/
import Derived.Test.YtnmfmcmokdoieaaGreatDoorRange1
import Derived.Test.YtnmfmcmokdoieaaGreatDoorOwn
import Derived.StillTail
set_option linter.unusedVariables false
set_option linter.unusedSimpArgs false
namespace Go.Proofs.YtnmfmcmokdoieaaGreatDoor
open Go.RowKit
theorem wpR_region_seq {l n id : Nat} {P : Program} {os : List Oper} {Q : Exit → Act → World → Prop} {a : Act} {w : World} (hm : P.follows .mixedOrders = true) (hd : noDefer os = true) (hQ : ∀ a w, Q .outgrown a w → False)
    (hB : Region.seqB .any os.toArray os.length 0 (Array.replicate os.toArray.size false) = true) (h : wpList P os.toArray Q os a w.drew) : (Code.region id os.toArray true).wpIn (Fence.wide.inRound l) n P Q a w :=
  wpR_region_any hm hd hQ (by have := wpAny_of_seq (md := .any) os 0 _ a _ (by simp) hB h; simpa using this)
/-- two operations in either order, then the rest in a row -/
theorem wpAny_two {P : Program} {os : List Oper} {o0 o1 : Oper} {rest : List Oper} (ho : os = o0 :: o1 :: rest) {Q : Exit → Act → World → Prop} {a : Act} {w : World}
    (hr : Region.ready .any os.toArray (Array.replicate os.toArray.size false) = [0, 1])
    (h0 : Region.seqB .any os.toArray (rest.length + 1) 1 ((Array.replicate os.toArray.size false).setIfInBounds 0 true) = true)
    (h1 : Region.ready .any os.toArray ((Array.replicate os.toArray.size false).setIfInBounds 1 true) = [0])
    (h2 : Region.seqB .any os.toArray rest.length 2 (((Array.replicate os.toArray.size false).setIfInBounds 1 true).setIfInBounds 0 true) = true)
    (hA : wpList P os.toArray Q (o0 :: o1 :: rest) a w) (hB : wpList P os.toArray Q (o1 :: o0 :: rest) a w) : wpAny P .any os.toArray Q os.toArray.size (Array.replicate os.toArray.size false) a w := by
  have hsz : os.toArray.size = rest.length + 1 + 1 := by rw [ho]; simp
  have e0 : os.toArray[0]? = some o0 := by rw [ho]; simp
  have e1 : os.toArray[1]? = some o1 := by rw [ho]; simp
  have go : ∀ listed, wpAny P .any os.toArray Q os.toArray.size listed a w = wpAny P .any os.toArray Q (rest.length + 1 + 1) listed a w := fun listed => by rw [hsz]
  rw [go]
  refine ⟨fun h => (by rw [hr] at h; cases h), fun i hi => ?_⟩
  rw [hr] at hi
  have hi' : i = 0 ∨ i = 1 := by simpa using hi
  rcases hi' with rfl | rfl
  · have hw : wpOp P os.toArray Q 0 (wpList P os.toArray Q (o1 :: rest)) a w := by unfold wpOp; simp only [e0]; exact hA
    exact wpOp_mono (fun a' w' h' => wpAny_of_seq (md := .any) (o1 :: rest) 1 _ a' w' (fun j => by rw [ho, List.getElem?_toArray, Nat.add_comm 1 j]; rfl) h0 h') hw
  · have hw : wpOp P os.toArray Q 1 (wpList P os.toArray Q (o0 :: rest)) a w := by unfold wpOp; simp only [e1]; exact hB
    refine wpOp_mono (fun a' w' h' => ?_) hw
    refine ⟨fun h => (by rw [h1] at h; cases h), fun i hi => ?_⟩
    rw [h1] at hi
    have hi' : i = 0 := by simpa using hi
    subst hi'
    have hw2 : wpOp P os.toArray Q 0 (wpList P os.toArray Q rest) a' w' := by unfold wpOp; simp only [e0]; exact h'
    exact wpOp_mono (fun a' w' h' => wpAny_of_seq (md := .any) rest 2 _ a' w' (fun j => by rw [ho, List.getElem?_toArray, Nat.add_comm 2 j]; rfl) h2 h') hw2
theorem wpR_region_two {l n id : Nat} {P : Program} {o0 o1 : Oper} {rest : List Oper} {Q : Exit → Act → World → Prop} {a : Act} {w : World} (hm : P.follows .mixedOrders = true) (hd : noDefer (o0 :: o1 :: rest) = true) (hQ : ∀ a w, Q .outgrown a w → False)
    (hr : Region.ready .any (o0 :: o1 :: rest).toArray (Array.replicate (o0 :: o1 :: rest).toArray.size false) = [0, 1])
    (h0 : Region.seqB .any (o0 :: o1 :: rest).toArray (rest.length + 1) 1 ((Array.replicate (o0 :: o1 :: rest).toArray.size false).setIfInBounds 0 true) = true)
    (h1 : Region.ready .any (o0 :: o1 :: rest).toArray ((Array.replicate (o0 :: o1 :: rest).toArray.size false).setIfInBounds 1 true) = [0])
    (h2 : Region.seqB .any (o0 :: o1 :: rest).toArray rest.length 2 (((Array.replicate (o0 :: o1 :: rest).toArray.size false).setIfInBounds 1 true).setIfInBounds 0 true) = true)
    (hA : wpList P (o0 :: o1 :: rest).toArray Q (o0 :: o1 :: rest) a w.drew) (hB : wpList P (o0 :: o1 :: rest).toArray Q (o1 :: o0 :: rest) a w.drew) : (Code.region id (o0 :: o1 :: rest).toArray true).wpIn (Fence.wide.inRound l) n P Q a w :=
  wpR_region_any hm hd hQ (wpAny_two rfl hr h0 h1 h2 hA hB)
/-- of the blocks below N only those of S may have changed -/
structure Kr (S : List Nat) (N : Nat) (A B : World) : Prop where
  os : B.os = A.os
  tape : B.tape = A.tape
  output : B.output = A.output
  le : N ≤ A.heap.size
  size : A.heap.size ≤ B.heap.size
  block : ∀ k, k < N → k ∉ S → B.heap[k]? = A.heap[k]?
theorem Kr.refl {S : List Nat} {N : Nat} {A : World} (h : N ≤ A.heap.size) : Kr S N A A := ⟨rfl, rfl, rfl, h, Nat.le_refl _, fun _ _ _ => rfl⟩
theorem Kr.tr {S : List Nat} {N : Nat} {A B C : World} (h : Kr S N A B) (k : Kr S N B C) : Kr S N A C :=
  ⟨k.os.trans h.os, k.tape.trans h.tape, k.output.trans h.output, h.le, Nat.le_trans h.size k.size, fun i hi hs => (k.block i hi hs).trans (h.block i hi hs)⟩
theorem Kr.more {S S' : List Nat} {N : Nat} {A B : World} (h : Kr S N A B) (hs : ∀ k ∈ S, k ∈ S') : Kr S' N A B :=
  ⟨h.os, h.tape, h.output, h.le, h.size, fun i hi hn => h.block i hi fun hm => hn (hs i hm)⟩
theorem Kr.by {S : List Nat} {N : Nat} {A B C : World} {r : Option Nat} (h : Kr S N A B) (g : B.grownBy C r) (hr : ∀ k, r = some k → k ∈ S ∨ N ≤ k) : Kr S N A C :=
  ⟨g.os.trans h.os, g.tape.trans h.tape, g.output.trans h.output, h.le, Nat.le_trans h.size g.size, fun i hi hs => (g.block i (Nat.lt_of_lt_of_le hi (Nat.le_trans h.le h.size)) (fun e => by rcases hr i e.symm with h | h; exact hs h; omega)).trans (h.block i hi hs)⟩
theorem Kr.gr {S : List Nat} {N : Nat} {A B C : World} (h : Kr S N A B) (g : Gr B C) : Kr S N A C := h.by (g.by none) (fun _ e => by cases e)
theorem Kr.al {S : List Nat} {N : Nat} {A B : World} (h : Kr S N A B) (o : Obj) : Kr S N A (B.alloc o) := h.gr (Gr.al (Gr.refl B) o)
theorem Kr.dr {S : List Nat} {N : Nat} {A B : World} (h : Kr S N A B) : Kr S N A B.drew := h.gr (Gr.dr (Gr.refl B))
theorem Kr.set {S : List Nat} {N : Nat} {A B : World} (h : Kr S N A B) {g : Nat} (hg : g ∈ S ∨ N ≤ g) (i : Nat) (u : Value) : Kr S N A (B.setCell ⟨g, i, none⟩ u) :=
  h.by (by_st ((Gr.refl B).by (some g)) i u) (fun k e => by cases e; exact hg)
theorem Kr.put {S : List Nat} {N : Nat} {A B : World} (h : Kr S N A B) {g : Nat} (hg : g ∈ S ∨ N ≤ g) (o : Obj) : Kr S N A (B.putObj g o) :=
  h.by (grownBy_putObj' B g o) (fun k e => by cases e; exact hg)
theorem Kr.bk {S : List Nat} {N : Nat} {A B : World} (h : Kr S N A B) {g : Nat} {t : TypeId} {cs : Array Value} {fr : Nat × Nat} (hb : Bk A g t cs fr) (hg : g < N) (hs : g ∉ S) : Bk B g t cs fr := (h.block g hg hs).trans hb
theorem Kr.old {S : List Nat} {N : Nat} {w A B : World} (h : Kr S N A B) (g : Gr w A) (hS : ∀ k ∈ S, w.heap.size ≤ k) (hN : w.heap.size ≤ N) : Gr w B :=
  ⟨h.os.trans g.os, h.tape.trans g.tape, h.output.trans g.output, Nat.le_trans g.size h.size, fun k hk => (h.block k (by omega) (fun hm => by have := hS k hm; omega)).trans (g.block k hk)⟩
theorem own_ne {W0 w : World} {e : TypeId} {size n g : Nat} {v : Value} {xs : List Value} (h : Own W0 w e size v n xs) (hg : g < W0.heap.size) : v.ownBlock ≠ some g := fun hb => by
  have := (World.ownsRow.lt h g hb).1; omega
theorem own_kr {W0 w w' : World} {e : TypeId} {size n : Nat} {v : Value} {xs : List Value} (h : Own W0 w e size v n xs) {r : Option Nat} (g : w.grownBy w' r) (hne : v.ownBlock = none ∨ v.ownBlock ≠ r) : Own W0 w' e size v n xs := by
  refine ⟨h.1, ?_⟩
  rcases h.2 with hn | ⟨b, cap, cur, hv, hb, hh, r'⟩
  · exact .inl hn
  · subst hv
    refine .inr ⟨b, cap, cur, rfl, hb, ?_, r'⟩
    have hl : b < w.heap.size := by
      rcases Nat.lt_or_ge b w.heap.size with hl | hl
      · exact hl
      · rw [Array.getElem?_eq_none hl] at hh; cases hh
    rw [g.block b hl (by rcases hne with h | h; simp [Value.ownBlock] at h; exact h)]
    exact hh
/-- two rows of different elements do not share a block -/
theorem own_own {W0 w : World} {e e' : TypeId} {size size' n n' : Nat} {v v' : Value} {xs xs' : List Value} (h : Own W0 w e size v n xs) (h' : Own W0 w e' size' v' n' xs') (hne : e ≠ e') : v.ownBlock = none ∨ v.ownBlock ≠ v'.ownBlock := by
  rcases h.2 with ⟨rfl, _⟩ | ⟨b, cap, cur, rfl, _, hh, _⟩
  · exact .inl rfl
  · rcases h'.2 with ⟨rfl, _⟩ | ⟨b', cap', cur', rfl, _, hh', _⟩
    · exact .inr (by simp [Value.ownBlock])
    · refine .inr fun hb => ?_
      have hb' : b = b' := by simpa [Value.ownBlock] using hb
      subst hb'
      rw [hh] at hh'
      injection hh' with k
      injection k with _ k _
      exact hne k
/-- one cell of an own row is written -/
theorem own_put {W0 w : World} {e : TypeId} {size n b cap : Nat} {xs : List Value} (h : Own W0 w e size (.slice (some ⟨b, 0, none⟩) n cap) n xs) (j : Nat) (u : Value) : Own W0 (w.setCell ⟨b, j, none⟩ u) e size (.slice (some ⟨b, 0, none⟩) n cap) n (xs.set j u) := by
  refine ⟨by rw [List.length_set]; exact h.1, ?_⟩
  rcases h.2 with ⟨hv, _⟩ | ⟨b', cap', cur, hv, hb, hh, h1, h2, h3, h4⟩
  · cases hv
  · cases hv
    refine .inr ⟨b, cap, cur.setIfInBounds j u, rfl, hb, (show Bk w b e cur (0, 0) from hh).set j u, h1, h2, ?_, ?_⟩
    · simpa using h3
    · rw [Array.toList_setIfInBounds, List.take_set, h4]
end Go.Proofs.YtnmfmcmokdoieaaGreatDoor
