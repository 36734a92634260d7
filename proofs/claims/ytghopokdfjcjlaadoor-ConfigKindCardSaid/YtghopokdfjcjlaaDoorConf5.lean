/- Layer 39: what the walk of config.Parse keeps between two lines. -/
import Derived.Test.YtghopokdfjcjlaaDoorConf4
import Derived.Test.YtghopokdfjcjlaaDoorConfR
import Derived.Test.YtghopokdfjcjlaaDoorKeep
namespace Go.Proofs.YtghopokdfjcjlaaDoor
open Go.RowKit
theorem split_ten (s : List UInt8) : splitC 10 s = splitN s := by
  induction s with
  | nil => rfl
  | cons c t ih =>
    unfold splitC splitN; rw [ih]
    split
    · rfl
    · cases splitN t <;> rfl
def flatI (l : List (List Int)) : List Value := l.flatMap fun x => x.map (Value.int .i64)
def natsV (l : List Nat) : List Value := l.map fun (n : Nat) => Value.int .i64 (n : Int)
def flatC (l : List Cfg) : List Value := l.flatMap fun c => c.nums.map (Value.int .i64)
/-- the variables between two lines: g, g+1, g+2: the results; g+3: all; g+4: begins; g+5: said; g+6: no; b: the iterator's; the loop's record -/
structure PI (g b : Nat) (W1 : World) (st : PSt) (A : World) : Prop where
  kr : Kr [g + 3, g + 4, g + 5, g + 6, b, W1.heap.size - 1] W1.heap.size W1 A
  all : ∃ va, Bk A (g + 3) 63 #[va] (0, 0) ∧ Own W1 A 49 10 va st.all.length (flatI st.all)
  begins : ∃ vb, Bk A (g + 4) 64 #[vb] (0, 0) ∧ Own W1 A 3 1 vb st.begins.length (natsV st.begins)
  said : Bk A (g + 5) 65 (st.said.map Value.bool).toArray (0, 0)
  no : Bk A (g + 6) 3 #[.int .i64 st.no] (0, 0)
/-- what holds of the state itself -/
structure PS (st : PSt) : Prop where
  ten : ∀ l ∈ st.all, l.length = 10
  len : st.said.length = 10
  beg : st.begins.length = st.all.length
  most : st.all.length ≤ 16
/-- the loop was left: the results -/
structure PX (g b : Nat) (W1 : World) (k e : Nat) (A : World) : Prop where
  kr : Kr [g, g + 1, g + 2, g + 3, g + 4, g + 5, g + 6, b, W1.heap.size - 1] W1.heap.size W1 A
  r0 : Bk A g 32 #[.slice none 0 0] (0, 0)
  r1 : Bk A (g + 1) 3 #[.int .i64 k] (0, 0)
  r2 : Bk A (g + 2) 28 #[.int .i64 e] (0, 0)
theorem bk_by {A B : World} {g t cs fr} {r : Option Nat} (h : Bk A g t cs fr) (k : A.grownBy B r) (hr : r ≠ some g) : Bk B g t cs fr := (k.block g h.lt (Ne.symm hr)).trans h
theorem PI.by {g b : Nat} {W1 : World} {st : PSt} {A B : World} (h : PI g b W1 st A) {r : Nat} (k : A.grownBy B (some r)) (hr : r = b ∨ r = W1.heap.size - 1) (hb : g + 6 < b) (hW : b + 2 < W1.heap.size - 1) : PI g b W1 st B := by
  have hne : ∀ j, j ≤ 6 → (some r : Option Nat) ≠ some (g + j) := fun j hj e => by cases e; omega
  obtain ⟨va, h1, h2⟩ := h.all
  obtain ⟨vb, h3, h4⟩ := h.begins
  refine ⟨h.kr.by k (fun j e => by cases e; rcases hr with rfl | rfl <;> simp), ⟨va, bk_by h1 k (hne 3 (by omega)), own_kr h2 k (.inr (own_ne h2 (by omega)))⟩, ⟨vb, bk_by h3 k (hne 4 (by omega)), own_kr h4 k (.inr (own_ne h4 (by omega)))⟩,
    bk_by h.said k (hne 5 (by omega)), bk_by h.no k (hne 6 (by omega))⟩
theorem PX.by {g b : Nat} {W1 : World} {m e : Nat} {A B : World} (h : PX g b W1 m e A) {r : Nat} (k : A.grownBy B (some r)) (hr : r = b ∨ r = W1.heap.size - 1) (hb : g + 6 < b) (hW : b + 2 < W1.heap.size - 1) : PX g b W1 m e B := by
  have hne : ∀ j, j ≤ 6 → (some r : Option Nat) ≠ some (g + j) := fun j hj e => by cases e; omega
  exact ⟨h.kr.by k (fun j e => by cases e; rcases hr with rfl | rfl <;> simp), bk_by h.r0 k (hne 0 (by omega)), bk_by h.r1 k (hne 1 (by omega)), bk_by h.r2 k (hne 2 (by omega))⟩
/-- what the loop keeps -/
def PInv (g b : Nat) (W1 : World) (pre : List (List UInt8)) (A : World) : Prop := ∃ st, runC PSt.start pre = .inl st ∧ PI g b W1 st A ∧ PS st
def PInx (g b : Nat) (W1 : World) (c : Code) (pre : List (List UInt8)) (A : World) : Prop := c = .ret ∧ ∃ k e, runC PSt.start pre = .inr (k, e) ∧ PX g b W1 k e A
theorem runC_append (s : PSt) (a b : List (List UInt8)) : runC s (a ++ b) = match runC s a with | .inl s' => runC s' b | .inr e => .inr e := by
  induction a generalizing s with
  | nil => rfl
  | cons t a ih =>
    simp only [List.cons_append, runC]
    cases stepC s t with
    | inl s' => exact ih s'
    | inr e => rfl
theorem runC_snoc {s s' : PSt} {a : List (List UInt8)} {t : List UInt8} (h : runC s a = .inl s') : runC s (a ++ [t]) = match stepC s' t with | .inl x => .inl x | .inr e => .inr (s'.no + 1, e) := by
  rw [runC_append, h]; simp only [runC]
  cases stepC s' t <;> rfl
theorem runC_no {s s' : PSt} {a : List (List UInt8)} (h : runC s a = .inl s') : s'.no = s.no + a.length := by
  induction a generalizing s with
  | nil => injection h with h; subst h; rfl
  | cons t a ih =>
    simp only [runC] at h
    have : ∀ x, stepC s t = .inl x → x.no = s.no + 1 := fun x hx => by
      unfold stepC at hx
      split at hx
      · injection hx with hx; subst hx; rfl
      · split at hx
        · split at hx
          · cases hx
          · injection hx with hx; subst hx; rfl
        · split at hx
          · cases hx
          · split at hx
            · cases hx
            · injection hx with hx; subst hx; rfl
    cases hs : stepC s t with
    | inl x =>
      rw [hs] at h
      have h1 := ih h
      have h2 := this x hs
      simp only [List.length_cons]; omega
    | inr e => rw [hs] at h; cases h
theorem runC_stop {s : PSt} {a b : List (List UInt8)} {k e : Nat} (h : runC s a = .inr (k, e)) : runC s (a ++ b) = .inr (k, e) := by rw [runC_append, h]
theorem stepC_blank {st : PSt} {x : List UInt8} (h : cleanL x = []) : stepC st x = .inl { st with no := st.no + 1 } := by unfold stepC; rw [if_pos h]
theorem node_ne : nodeL ≠ [] := by decide
theorem stepC_many {st : PSt} {x : List UInt8} (h : cleanL x = nodeL) (hl : st.all.length = 16) : stepC st x = .inr 4 := by unfold stepC; rw [h, if_neg node_ne, if_pos rfl, if_pos hl]
theorem stepC_node {st : PSt} {x : List UInt8} (h : cleanL x = nodeL) (hl : ¬ st.all.length = 16) : stepC st x = .inl ⟨st.all ++ [Cfg.dflt.nums], st.begins ++ [st.no + 1], List.replicate 10 false, st.no + 1⟩ := by unfold stepC; rw [h, if_neg node_ne, if_pos rfl, if_neg hl]
theorem stepC_bad {st : PSt} {x : List UInt8} (h0 : ¬ cleanL x = []) (h1 : ¬ cleanL x = nodeL) (h2 : sayL (cleanL x) = none) : stepC st x = .inr 2 := by unfold stepC; rw [if_neg h0, if_neg h1, h2]
theorem stepC_twice {st : PSt} {x : List UInt8} (h0 : ¬ cleanL x = []) (h1 : ¬ cleanL x = nodeL) {p : Nat × Nat} (h2 : sayL (cleanL x) = some p) (h3 : st.said.getD p.1 false = true ∨ st.all = []) : stepC st x = .inr 2 := by unfold stepC; rw [if_neg h0, if_neg h1, h2]; simp only; rw [if_pos h3]
theorem stepC_say {st : PSt} {x : List UInt8} (h0 : ¬ cleanL x = []) (h1 : ¬ cleanL x = nodeL) {p : Nat × Nat} (h2 : sayL (cleanL x) = some p) (h3 : ¬ (st.said.getD p.1 false = true ∨ st.all = [])) : stepC st x = .inl ⟨setLast st.all p.1 p.2, st.begins, st.said.set p.1 true, st.no + 1⟩ := by unfold stepC; rw [if_neg h0, if_neg h1, h2]; simp only; rw [if_neg h3]
theorem splitN_len (s : List UInt8) : (splitN s).length ≤ s.length + 1 := by
  induction s with
  | nil => simp [splitN]
  | cons c t ih =>
    unfold splitN
    split
    · simp; omega
    · cases h : splitN t with
      | nil => simp
      | cons x r => rw [h] at ih; simp at ih ⊢; omega
theorem splitN_mem (s : List UInt8) : ∀ t ∈ splitN s, t.length ≤ s.length := by
  induction s with
  | nil => simp [splitN]
  | cons c t ih =>
    unfold splitN
    split
    · intro y hy
      rcases List.mem_cons.1 hy with rfl | hy
      · simp
      · have := ih y hy; simp; omega
    · cases h : splitN t with
      | nil => simp
      | cons x r =>
        rw [h] at ih
        intro y hy
        rcases List.mem_cons.1 hy with rfl | hy
        · have := ih x (by simp); simp; omega
        · have := ih y (by simp [hy]); simp; omega
theorem upto_len (c : UInt8) (s : List UInt8) : (upto c s).length ≤ s.length := (List.takeWhile_sublist _).length_le
theorem PI.gr {g b : Nat} {W1 : World} {st : PSt} {A B : World} (h : PI g b W1 st A) (k : Gr A B) : PI g b W1 st B := by
  obtain ⟨va, h1, h2⟩ := h.all
  obtain ⟨vb, h3, h4⟩ := h.begins
  exact ⟨h.kr.gr k, ⟨va, h1.gr k, h2.gr k⟩, ⟨vb, h3.gr k, h4.gr k⟩, h.said.gr k, h.no.gr k⟩
/-- one more line -/
theorem PI.next {g b : Nat} {W1 : World} {st : PSt} {A : World} (h : PI g b W1 st A) (hb : g + 6 < b) (hW : b + 2 < W1.heap.size - 1) (n : Nat) : PI g b W1 { st with no := n } (A.setCell ⟨g + 6, 0, none⟩ (.int .i64 n)) := by
  obtain ⟨va, h1, h2⟩ := h.all
  obtain ⟨vb, h3, h4⟩ := h.begins
  exact ⟨h.kr.set (.inl (by simp)) _ _, ⟨va, h1.far (p := ⟨g + 6, 0, none⟩) (by simp) _, own_kr h2 (by_st ((Gr.refl A).by (some (g + 6))) 0 _) (.inr (own_ne h2 (by omega)))⟩, ⟨vb, h3.far (p := ⟨g + 6, 0, none⟩) (by simp) _, own_kr h4 (by_st ((Gr.refl A).by (some (g + 6))) 0 _) (.inr (own_ne h4 (by omega)))⟩,
    h.said.far (p := ⟨g + 6, 0, none⟩) (by simp) _, h.no.set 0 _⟩
theorem ne_ten_int : (49 : Nat) ≠ 3 := by decide
theorem PI.setAll {g b : Nat} {W1 : World} {st : PSt} {A B : World} {va va' : Value} (h : PI g b W1 st A) (hb : g + 6 < b) (hW : b + 2 < W1.heap.size - 1) (hown : Own W1 A 49 10 va st.all.length (flatI st.all))
    {all' : List (List Int)} (hown' : Own W1 B 49 10 va' all'.length (flatI all')) (happ : App va va' A B) (hb3 : Bk A (g + 3) 63 #[va] (0, 0)) : PI g b W1 { st with all := all' } (B.setCell ⟨g + 3, 0, none⟩ va') := by
  obtain ⟨vb, h3, h4⟩ := h.begins
  have hne : ∀ j, j ≤ 6 → va.ownBlock ≠ some (g + j) := fun j hj => own_ne hown (by omega)
  have hst := by_st ((Gr.refl B).by (some (g + 3))) 0 va'
  refine ⟨(h.kr.by happ.grown (fun k hk => .inr (World.ownsRow.lt hown k hk).1)).set (.inl (by simp)) _ _, ⟨va', (bk_by hb3 happ.grown (hne 3 (by omega))).set 0 _, own_kr hown' hst (.inr (own_ne hown' (by omega)))⟩,
    ⟨vb, (bk_by h3 happ.grown (hne 4 (by omega))).far (p := ⟨g + 3, 0, none⟩) (by simp) _, ?_⟩,
    (bk_by h.said happ.grown (hne 5 (by omega))).far (p := ⟨g + 3, 0, none⟩) (by simp) _, (bk_by h.no happ.grown (hne 6 (by omega))).far (p := ⟨g + 3, 0, none⟩) (by simp) _⟩
  have h5 := own_kr h4 happ.grown (own_own h4 hown (Ne.symm ne_ten_int))
  exact own_kr h5 hst (.inr (own_ne h5 (by omega)))
theorem PI.setBegins {g b : Nat} {W1 : World} {st : PSt} {A B : World} {vb vb' : Value} (h : PI g b W1 st A) (hb : g + 6 < b) (hW : b + 2 < W1.heap.size - 1) (hown : Own W1 A 3 1 vb st.begins.length (natsV st.begins))
    {beg' : List Nat} (hown' : Own W1 B 3 1 vb' beg'.length (natsV beg')) (happ : App vb vb' A B) (hb4 : Bk A (g + 4) 64 #[vb] (0, 0)) : PI g b W1 { st with begins := beg' } (B.setCell ⟨g + 4, 0, none⟩ vb') := by
  obtain ⟨va, h3, h4⟩ := h.all
  have hne : ∀ j, j ≤ 6 → vb.ownBlock ≠ some (g + j) := fun j hj => own_ne hown (by omega)
  have hst := by_st ((Gr.refl B).by (some (g + 4))) 0 vb'
  have h5 := own_kr h4 happ.grown (own_own h4 hown ne_ten_int)
  exact ⟨(h.kr.by happ.grown (fun k hk => .inr (World.ownsRow.lt hown k hk).1)).set (.inl (by simp)) _ _,
    ⟨va, (bk_by h3 happ.grown (hne 3 (by omega))).far (p := ⟨g + 4, 0, none⟩) (by simp) _, own_kr h5 hst (.inr (own_ne h5 (by omega)))⟩,
    ⟨vb', (bk_by hb4 happ.grown (hne 4 (by omega))).set 0 _, own_kr hown' hst (.inr (own_ne hown' (by omega)))⟩,
    (bk_by h.said happ.grown (hne 5 (by omega))).far (p := ⟨g + 4, 0, none⟩) (by simp) _, (bk_by h.no happ.grown (hne 6 (by omega))).far (p := ⟨g + 4, 0, none⟩) (by simp) _⟩
/-- the results, as they were at the start -/
structure R0 (g : Nat) (A : World) : Prop where
  r0 : Bk A g 32 #[.slice none 0 0] (0, 0)
  r1 : Bk A (g + 1) 3 #[.int .i64 0] (0, 0)
  r2 : Bk A (g + 2) 28 #[.int .i64 0] (0, 0)
theorem PI.res {g b : Nat} {W1 : World} {st : PSt} {A : World} (h : PI g b W1 st A) (r : R0 g W1) (hb : g + 6 < b) (hW : b + 2 < W1.heap.size - 1) : R0 g A :=
  ⟨h.kr.bk r.r0 (by omega) (by simp; omega), h.kr.bk r.r1 (by omega) (by simp; omega), h.kr.bk r.r2 (by omega) (by simp; omega)⟩
def stopW (A : World) (g k e : Nat) : World := ((A.setCell ⟨g, 0, none⟩ (.slice none 0 0)).setCell ⟨g + 1, 0, none⟩ (.int .i64 k)).setCell ⟨g + 2, 0, none⟩ (.int .i64 e)
theorem PX.of {g b : Nat} {W1 : World} {st : PSt} {A : World} (h : PI g b W1 st A) (r : R0 g A) (k e : Nat) : PX g b W1 k e (stopW A g k e) := by
  unfold stopW
  refine ⟨(((h.kr.more (by simp)).set (.inl (by simp)) _ _).set (.inl (by simp)) _ _).set (.inl (by simp)) _ _, ?_, ?_, ?_⟩
  · exact ((r.r0.set 0 _).far (p := ⟨g + 1, 0, none⟩) (by simp) _).far (p := ⟨g + 2, 0, none⟩) (by simp) _
  · exact ((r.r1.far (p := ⟨g, 0, none⟩) (by simp) _).set 0 _).far (p := ⟨g + 2, 0, none⟩) (by simp) _
  · exact ((r.r2.far (p := ⟨g, 0, none⟩) (by simp) _).far (p := ⟨g + 1, 0, none⟩) (by simp) _).set 0 _
theorem keepStop {g N : Nat} {A B : World} (h : Kr [g + 3, g + 4, g + 5, g + 6] N A B) (k e : Nat) : Kr [g, g + 1, g + 2, g + 3, g + 4, g + 5, g + 6] N A (stopW B g k e) :=
  (((h.more (by simp)).set (.inl (by simp)) _ _).set (.inl (by simp)) _ _).set (.inl (by simp)) _ _
theorem keep3 {g b D N : Nat} {A B : World} (h : Kr [g + 3, g + 4, g + 5, g + 6] N A B) (hN : N = D + 2) (hb : g + 6 < b) (hW : b + 2 < D) : ∀ k, (k = D ∨ k = D + 1 ∨ some b = some k) → B.heap[k]? = A.heap[k]? := by
  rintro k (rfl | rfl | hk)
  · exact h.block _ (by omega) (by simp; omega)
  · exact h.block _ (by omega) (by simp; omega)
  · cases hk; exact h.block _ (by omega) (by simp; omega)
theorem keep3x {g b D N : Nat} {A B : World} (h : Kr [g, g + 1, g + 2, g + 3, g + 4, g + 5, g + 6] N A B) (hN : N = D + 2) (hb : g + 6 < b) (hW : b + 2 < D) : ∀ k, (k = D ∨ k = D + 1 ∨ some b = some k) → B.heap[k]? = A.heap[k]? := by
  rintro k (rfl | rfl | hk)
  · exact h.block _ (by omega) (by simp; omega)
  · exact h.block _ (by omega) (by simp; omega)
  · cases hk; exact h.block _ (by omega) (by simp; omega)
theorem PX.dr {g b : Nat} {W1 : World} {m e : Nat} {A : World} (h : PX g b W1 m e A) : PX g b W1 m e A.drew := ⟨h.kr.dr, h.r0, h.r1, h.r2⟩
theorem stop_end {g b D : Nat} {W1 A w3 : World} {st : PSt} {xs : List (List UInt8)} {k e : Nat} {a : Act} (hk : Kr [g + 3, g + 4, g + 5, g + 6] W1.heap.size A w3) (hp : PI g b W1 st w3) (hr : R0 g w3) (hN : W1.heap.size = D + 2) (hb : g + 6 < b) (hW : b + 2 < D) (hx : runC PSt.start xs = .inr (k, e)) :
    itPost D (some b) (PInv g b W1) (PInx g b W1) xs A .ret a (stopW w3 g k e).drew :=
  ⟨keep3x (keepStop hk k e).dr hN hb hW, rfl, k, e, hx, (PX.of hp hr k e).dr⟩
end Go.Proofs.YtghopokdfjcjlaaDoor
