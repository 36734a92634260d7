/- A range over a function, in the plain walk: a round's body region by region as any other code; the statement over an iterator that may write its own block; a function's contract where the body holds such a statement. No conditions. -/
import Derived.Test.YtnmfmcmokdoieaaGreatDoorRegion
import Derived.RangeFuncLeaves
import Derived.RangeFuncOwn
import Derived.RangeFuncCalls
import Derived.TacticsIn
import Derived.OrdersIn
import Derived.Sort.CutIn
set_option linter.unusedVariables false
set_option linter.unusedSimpArgs false
namespace Go.Proofs.YtnmfmcmokdoieaaGreatDoor
open Go.RowKit

/-! ### A round's regions, walked as any other -/
def noDefer : List Oper → Bool := fun l => l.all fun o => match o.op with | .defer _ => false | _ => true
theorem semAt_of {l : Nat} {ρ : Operand → Value} {o : Oper} (h : (match o.op with | .defer _ => false | _ => true) = true) : Oper.semAt (some l) ρ o = execOp ρ o :=
  Oper.semAt_some l ρ o fun c hc => by rw [hc] at h; cases h
theorem rowsIn_round {l n : Nat} {P : Program} {row : String} {args : Array Value} {w : World} {R : Value → World → Prop} (h : Rows P row args w R) : RowsIn (Fence.wide.inRound l) n P row args w R :=
  fun c cs _ => let ⟨v, w', r, s⟩ := h c cs; ⟨v, w', r, stepsIn_wide.2 s⟩
theorem callsIn_round {l n : Nat} {P : Program} {f : FuncId} {args : Array Value} {w : World} {R : Ending → World → Prop} (h : Calls P f args w R) : CallsIn (Fence.wide.inRound l) n P f args w R :=
  CallsIn.inRound l (callsIn_wide.2 h)
theorem wpR_oper {l n : Nat} {P : Program} {o : Oper} {a : Act} {w : World} {K : Act → World → Prop} {Q : Exit → Act → World → Prop} (hd : (match o.op with | .defer _ => false | _ => true) = true)
    (h : o.wp P a w K Q) : o.wpIn (Fence.wide.inRound l) n P a w K Q := by
  refine ⟨fun _ _ => trivial, ?_⟩
  rw [Fence.inRound_round, semAt_of hd]
  unfold Oper.wp at h
  generalize (execOp a.eval o).run P w = r at *
  cases r with
  | ok x w' =>
    cases x <;> simp only [Oper.upon] at h <;> simp only [Oper.uponIn] <;>
      first
        | exact h
        | exact ⟨fun hx => by simp [Fence.inRound, Fence.wide] at hx, callsIn_round h⟩
        | exact ⟨fun hx => by simp [Fence.inRound, Fence.wide] at hx, rowsIn_round h⟩
  | halt x w' => cases x <;> simp only [Oper.upon] at h <;> simp only [Oper.uponIn] <;> exact h
theorem wpR_list {l n : Nat} {P : Program} {ops : Array Oper} {Q : Exit → Act → World → Prop} (hQ : ∀ a w, Q .outgrown a w → False) : ∀ (os : List Oper), noDefer os = true → ∀ (a : Act) (w : World), wpList P ops Q os a w → wpListIn (Fence.wide.inRound l) n P ops Q os a w
  | [], _, _, _, h => h
  | o :: os, hd, a, w, h => by
    simp only [noDefer, List.all_cons, Bool.and_eq_true] at hd
    simp only [wpList] at h
    simp only [wpListIn]
    by_cases hw : Region.wanted o (yielded ops a.tmps) = true
    · simp only [hw, if_true] at h ⊢
      rcases h with h | ⟨_, a', w', h⟩
      · exact Oper.wpIn_mono (fun a w => wpR_list hQ os hd.2 a w) (wpR_oper hd.1 h)
      · exact (hQ _ _ h).elim
    · simp only [hw, if_false, Bool.false_eq_true] at h ⊢
      exact ⟨fun _ _ => trivial, wpR_list hQ os hd.2 _ _ h⟩
/-- a region of a round's body that draws no order -/
theorem wpR_region {l n id : Nat} {P : Program} {os : List Oper} {Q : Exit → Act → World → Prop} {a : Act} {w : World} (hd : noDefer os = true) (hQ : ∀ a w, Q .outgrown a w → False)
    (h : wpList P os.toArray Q os a w) : (Code.region id os.toArray false).wpIn (Fence.wide.inRound l) n P Q a w := wpIn_region_lit (wpR_list hQ os hd a w h)
theorem wpR_any {l n : Nat} {P : Program} {md : Region.Mode} {os : List Oper} {Q : Exit → Act → World → Prop} (hd : noDefer os = true) (hQ : ∀ a w, Q .outgrown a w → False) :
    ∀ (fuel : Nat) (listed : Array Bool) (a : Act) (w : World), wpAny P md os.toArray Q fuel listed a w → wpAnyIn (Fence.wide.inRound l) n P md os.toArray Q fuel listed a w
  | 0, _, _, _, h => h
  | fuel + 1, listed, a, w, h => by
    refine ⟨h.1, fun i hi => ?_⟩
    have h2 := h.2 i hi
    unfold wpOp at h2
    unfold wpOpIn
    cases ho : os.toArray[i]? with
    | none => simp only [ho] at h2 ⊢; exact wpR_any hd hQ fuel _ _ _ h2
    | some o =>
      simp only [ho] at h2 ⊢
      have hdo : (match o.op with | .defer _ => false | _ => true) = true := by
        have hm : o ∈ os := by
          have : os[i]? = some o := by simpa using ho
          exact List.mem_of_getElem? this
        exact (List.all_eq_true.1 hd) o hm
      by_cases hw : Region.wanted o (yielded os.toArray a.tmps) = true
      · simp only [hw, if_true] at h2 ⊢
        rcases h2 with h2 | ⟨_, a', w', h2⟩
        · exact Oper.wpIn_mono (fun a w => wpR_any hd hQ fuel _ a w) (wpR_oper hdo h2)
        · exact (hQ _ _ h2).elim
      · simp only [hw, if_false, Bool.false_eq_true] at h2 ⊢
        exact ⟨fun _ _ => trivial, wpR_any hd hQ fuel _ _ _ h2⟩
/-- a region of a round's body that draws its order -/
theorem wpR_region_any {l n id : Nat} {P : Program} {os : List Oper} {Q : Exit → Act → World → Prop} {a : Act} {w : World} (hm : P.follows .mixedOrders = true) (hd : noDefer os = true) (hQ : ∀ a w, Q .outgrown a w → False)
    (h : wpAny P .any os.toArray Q os.toArray.size (Array.replicate os.toArray.size false) a { w with drawn := w.drawn + 1 }) : (Code.region id os.toArray true).wpIn (Fence.wide.inRound l) n P Q a w :=
  wpIn_region_any hm (wpR_any hd hQ _ _ _ _ h)
theorem wpR_region_gw {l n id : Nat} {P : Program} {Q : Exit → Act → World → Prop} {a : Act} {w : World} {os : List Oper} (hd : noDefer os = true) (hQ : ∀ a w, Q .outgrown a w → False) (hm : P.follows .mixedOrders = true) (hB : Region.lexB .any os.toArray = true)
    (h : wpQuiet P os.toArray (fun w' => ∃ i, w' = gw w i) (fun a' => ∀ w', (∃ i, w' = gw w i) → Q .normal a' w') os a) : (Code.region id os.toArray true).wpIn (Fence.wide.inRound l) n P Q a w := by
  simp only [Region.lexB, Bool.and_eq_true] at hB
  refine wpR_region_any hm hd hQ (wpAny_of_quiet (C := fun w' => ∃ i, w' = gw w i) (Q := fun a' => ∀ w', (∃ i, w' = gw w i) → Q .normal a' w') (fun _ w' hw' h => h w' hw') _ _ _ _ (gw_ex (Gr.dr (Gr.refl w))) ?_)
  have := wpAnyQ_lex (C := fun w' => ∃ i, w' = gw w i) (md := .any) hB.1 os.toArray.toList 0 (Array.replicate os.toArray.size false) a (by simp) (by simpa using hB.2) (by simpa using h)
  simpa using this
theorem wpR_region_mix {l n' id : Nat} {P : Program} {Q : Exit → Act → World → Prop} {a : Act} {w : World} {os : List Oper} (idx : List Nat) (r : Option Nat) (n : Nat) (hd : noDefer os = true) (hQ' : ∀ a w, Q .outgrown a w → False) (hm : P.follows .mixedOrders = true) (hn : os.toArray.size = idx.length + n) (hB : mixB .any os.toArray idx = true)
    (hQ : ∀ (o : Option Tmp) (v : Value) c a w, Q (.panic c) (a.put o v) w → Q (.panic c) a w)
    (h : wpGq P os.toArray w r (fun a' => wpG P .any os.toArray Q w r n (mixAt idx (Array.replicate os.toArray.size false)) a' w) (pickOps os idx) a) : (Code.region id os.toArray true).wpIn (Fence.wide.inRound l) n' P Q a w := by
  simp only [mixB, Bool.and_eq_true] at hB
  refine wpR_region_any hm hd hQ' ?_
  have hlq : idx.map (os.toArray[·]?) = (pickOps os idx).map some := pick_some hB.2
  have h1 := wpG_lex (P := P) (md := .any) (ops := os.toArray) (Q := Q) (w0 := w) (r := r) hB.1 hQ (w := w) ((Gr.refl w).by r) n idx (pickOps os idx) _ a hlq hB.2 h
  rw [hn]
  rw [hn] at h1
  exact wpG_any _ _ _ _ (wpG_mono (Gr.dr (Gr.refl w)) h1)

/-! ### The iterator's contract and the statement -/
/-- an iterator that yields xs: it writes no block that was there but bo, whose content is that of w0 at first; what else it reads is said by G -/
def IterC {α : Type} (P : Program) (gf : Nat) (lb : Array Value) (enc : α → Array Value) (xs : List α) (w0 : World) (bo : Option Nat) (G : World → Prop) : Prop :=
  ∀ (l : Nat) (J Jx : List α → World → Prop) (W : World),
    (∀ pre A B, J pre A → A.grownBy B bo → J pre B) → (∀ pre A B, Jx pre A → A.grownBy B bo → Jx pre B) →
    (∀ pre A, J pre A → G A) →
    (∀ pre x post A, xs = pre ++ x :: post → J pre A → YieldAt Fence.wide 0 P l (enc x) A fun e B =>
      (e = .returned (.bool true) ∧ J (pre ++ [x]) B ∧ ∀ k, bo = some k → B.heap[k]? = A.heap[k]?) ∨ (e = .returned (.bool false) ∧ Jx (pre ++ [x]) B)) →
    (∀ k, bo = some k → W.heap[k]? = w0.heap[k]?) → J [] W →
    Calls P gf (#[.func (.yield l) #[] #[]] ++ lb) W fun e B => (∃ v, e = .returned v) ∧ (J xs B ∨ ∃ pre x post, xs = pre ++ x :: post ∧ Jx (pre ++ [x]) B)

/-- how a round's body may be left: the loop's own blocks, and the iterator's, as they were -/
def itPost {α : Type} (D : Nat) (bo : Option Nat) (I : List α → World → Prop) (Ix : Code → List α → World → Prop) (xs : List α) (W : World) : Exit → Act → World → Prop
  | .normal, _, B => (∀ k, (k = D ∨ k = D + 1 ∨ bo = some k) → B.heap[k]? = W.heap[k]?) ∧ I xs B
  | .ret, _, B => (∀ k, (k = D ∨ k = D + 1 ∨ bo = some k) → B.heap[k]? = W.heap[k]?) ∧ Ix .ret xs B
  | .exit id, _, B => (∀ k, (k = D ∨ k = D + 1 ∨ bo = some k) → B.heap[k]? = W.heap[k]?) ∧ Ix (.exit id) xs B
  | .goto t, _, B => (∀ k, (k = D ∨ k = D + 1 ∨ bo = some k) → B.heap[k]? = W.heap[k]?) ∧ Ix (.goto t) xs B
  | .panic _, _, _ => False
  | .outgrown, _, _ => False

theorem wp_rangeFunc_it {α : Type} {P : Program} {g : Operand} {ps : Array Tmp} {assign body : Code} {Q : Exit → Act → World → Prop} {a : Act} {w : World}
    {gf : Nat} {lb : Array Value} (hg : a.eval g = .func (.func gf) #[] lb) (eg : ∀ args w, (callFunc gf args).run P w = .ok (.enter gf args) w)
    {enc : α → Array Value} {xs : List α} {w0 : World} {bo : Option Nat} {G : World → Prop} (hit : IterC P gf lb enc xs w0 bo G) (hps : ∀ x, (enc x).size = ps.size)
    (hw0 : ∀ k, bo = some k → k < w.heap.size ∧ w.heap[k]? = w0.heap[k]?)
    (I : World → List α → World → Prop) (Ix : World → Code → List α → World → Prop)
    (hI : ∀ W1 pre A B, Gr w W1 → W1.heap.size = w.heap.size + 2 → I W1 pre A → A.grownBy B bo → I W1 pre B) (hIx : ∀ W1 c pre A B, Gr w W1 → W1.heap.size = w.heap.size + 2 → Ix W1 c pre A → A.grownBy B bo → Ix W1 c pre B)
    (hIL : ∀ W1 pre A k o, Gr w W1 → W1.heap.size = w.heap.size + 2 → I W1 pre A → k = w.heap.size + 1 → I W1 pre (A.putObj k o)) (hIxL : ∀ W1 c pre A k o, Gr w W1 → W1.heap.size = w.heap.size + 2 → Ix W1 c pre A → k = w.heap.size + 1 → Ix W1 c pre (A.putObj k o))
    (hI0 : ∀ W1 pre A, Gr w W1 → W1.heap.size = w.heap.size + 2 → I W1 pre A → G A)
    (h0 : ∀ W1, Gr w W1 → W1.heap.size = w.heap.size + 2 → I W1 [] W1) (a₁ : α → Act)
    (hassign : ∀ (l : Nat) (x : α) (W : World) (K : Act → World → Prop), K (a₁ x) W →
      assign.wpIn (Fence.wide.inRound l) 0 P (Exit.then K (fun _ _ _ => False)) { tmps := (ps.zip (enc x)).foldl (fun t (p, v) => t.setIfInBounds p v) a.tmps, defers := [] } W)
    (hbody : ∀ (W1 : World) (l : Nat) (pre : List α) (x : α) (post : List α) (A : World), Gr w W1 → W1.heap.size = w.heap.size + 2 → xs = pre ++ x :: post → I W1 pre A → W1.heap.size ≤ A.heap.size →
      body.wpIn (Fence.wide.inRound l) 0 P (itPost w.heap.size bo (I W1) (Ix W1) (pre ++ [x]) A) (a₁ x) A)
    (hdone : ∀ (W1 A : World), Gr w W1 → W1.heap.size = w.heap.size + 2 → I W1 xs A → A.heap[w.heap.size]? = some (.deferred (some [])) → Q .normal { a with defers := { target := .collected w.heap.size, args := #[] } :: a.defers } A)
    (hstop : ∀ (W1 A : World) (c : Code) (pre : List α) (x : α) (post : List α), Gr w W1 → W1.heap.size = w.heap.size + 2 → xs = pre ++ x :: post → Ix W1 c (pre ++ [x]) A → A.heap[w.heap.size]? = some (.deferred (some [])) →
      c.wp P Q { a with defers := { target := .collected w.heap.size, args := #[] } :: a.defers } A) :
    (Code.rangeFunc g ps assign body).wp P Q a w := by
  refine (wpIn_wide (n := 0)).1 (wpIn_rangeFunc ?_)
  intro fn hfn
  rw [Fence.wide_round]
  obtain ⟨rec, hrec⟩ : ∃ rec : LoopState → Option Code → Loop, rec = fun st pe => { state := st, pending := pe, fn, tmps := a.tmps, params := ps, assign, body, defers := w.heap.size } := ⟨_, rfl⟩
  obtain ⟨W1, hW1⟩ : ∃ W1, (w.alloc (.deferred (some []))).alloc (.loop (rec .ready none)) = W1 := ⟨_, rfl⟩
  have hL1 : W1.heap[w.heap.size + 1]? = some (.loop (rec .ready none)) := by
    rw [← hW1]; have := World.alloc_heap_new (w.alloc (.deferred (some []))) (.loop (rec .ready none)); rwa [World.size_alloc] at this
  have hK1 : W1.heap[w.heap.size]? = some (.deferred (some [])) := by
    rw [← hW1]; exact (Below.heap_alloc _ _ _ (by simp)).trans (World.alloc_heap_new w _)
  have hG1 : Gr w W1 := by rw [← hW1]; exact Gr.al (Gr.al (Gr.refl w) _) _
  have hS1 : W1.heap.size = w.heap.size + 2 := by rw [← hW1]; simp [World.size_alloc]
  have hI1 : I W1 [] W1 := h0 W1 hG1 hS1
  have hbd : ∀ k, bo = some k → k ≠ w.heap.size ∧ k ≠ w.heap.size + 1 := fun k hk => by have := (hw0 k hk).1; omega
  refine ⟨w.heap.size + 1, [{ target := .collected w.heap.size, args := #[] }], W1, { target := .fn (.func gf) lb, args := #[.func (.yield (w.heap.size + 1)) #[] #[]] }, W1, gf,
    #[.func (.yield (w.heap.size + 1)) #[] #[]] ++ lb, W1, ?_, ?_, ?_, ?_, fun hx => by simp [Fence.wide] at hx, ?_⟩
  · rw [← hW1, hrec]; exact run_enterLoop_outer _ _ _ _ _
  · simp only [resolve, hg]
    simp [go_sem]
  · intro f' hf'; trivial
  · simp [invoke, go_sem, eg]
  · refine callsIn_wide.2 ((hit (w.heap.size + 1)
      (fun pre A => I W1 pre A ∧ A.heap[w.heap.size + 1]? = some (.loop (rec .ready none)) ∧ A.heap[w.heap.size]? = some (.deferred (some [])) ∧ W1.heap.size ≤ A.heap.size)
      (fun pre A => ∃ c, Ix W1 c pre A ∧ A.heap[w.heap.size + 1]? = some (.loop (rec .done (some c))) ∧ A.heap[w.heap.size]? = some (.deferred (some [])))
      W1 ?_ ?_ ?_ ?_ ?_ ⟨hI1, hL1, hK1, Nat.le_refl _⟩).mono ?_)
    · rintro pre A B ⟨h1, h2, h3, h4⟩ hgr
      refine ⟨hI W1 pre A B hG1 hS1 h1 hgr, ?_, ?_, Nat.le_trans h4 hgr.size⟩
      · rw [hgr.block _ (Array.getElem?_eq_some_iff.1 h2).1 (fun e => (hbd _ e.symm).2 rfl)]; exact h2
      · rw [hgr.block _ (Array.getElem?_eq_some_iff.1 h3).1 (fun e => (hbd _ e.symm).1 rfl)]; exact h3
    · rintro pre A B ⟨c, h1, h2, h3⟩ hgr
      refine ⟨c, hIx W1 c pre A B hG1 hS1 h1 hgr, ?_, ?_⟩
      · rw [hgr.block _ (Array.getElem?_eq_some_iff.1 h2).1 (fun e => (hbd _ e.symm).2 rfl)]; exact h2
      · rw [hgr.block _ (Array.getElem?_eq_some_iff.1 h3).1 (fun e => (hbd _ e.symm).1 rfl)]; exact h3
    · rintro pre A ⟨h1, _⟩; exact hI0 W1 pre A hG1 hS1 h1
    · rintro pre x post A hxs ⟨hi, hl, hk, hsz⟩
      have hlt : w.heap.size + 1 < A.heap.size := (Array.getElem?_eq_some_iff.1 hl).1
      have hy := run_yield (P := P) (args := enc x) hl (by rw [hrec]; exact hps x)
      rw [hrec] at hy
      refine ⟨fn, _, assign, body, hy, roundIn_of_wpIn hfn (hassign _ x A _ ⟨_, run_beginRound hl (by rw [hrec]), ?_⟩)⟩
      have hl2 : (A.putObj (w.heap.size + 1) (.loop { rec .ready none with state := .busy })).heap[w.heap.size + 1]? = some (.loop { rec .ready none with state := .busy }) := World.putObj_heap_same hlt
      have hk2 : (A.putObj (w.heap.size + 1) (.loop { rec .ready none with state := .busy })).heap[w.heap.size]? = some (.deferred (some [])) := (World.putObj_heap_other (by omega)).trans hk
      have hb2 : ∀ k, bo = some k → (A.putObj (w.heap.size + 1) (.loop { rec .ready none with state := .busy })).heap[k]? = A.heap[k]? := fun k hk => World.putObj_heap_other (hbd k hk).2
      have hsz2 : W1.heap.size ≤ (A.putObj (w.heap.size + 1) (.loop { rec .ready none with state := .busy })).heap.size := Nat.le_trans hsz (grownBy_putObj' _ _ _).size
      refine wpIn_mono (hbody W1 _ pre x post _ hG1 hS1 hxs (hIL W1 pre A _ _ hG1 hS1 hi rfl) hsz2) ?_
      have fin : ∀ (jump : Option Code) (W3 : World), (∀ k, (k = w.heap.size ∨ k = w.heap.size + 1 ∨ bo = some k) → W3.heap[k]? = (A.putObj (w.heap.size + 1) (.loop { rec .ready none with state := .busy })).heap[k]?) →
          (Instr.endRound (w.heap.size + 1) jump).run P W3 = .ok (.bool jump.isNone) (W3.putObj (w.heap.size + 1) (.loop (rec (if jump.isNone then .ready else .done) jump))) ∧
          (W3.putObj (w.heap.size + 1) (.loop (rec (if jump.isNone then .ready else .done) jump))).heap[w.heap.size + 1]? = some (.loop (rec (if jump.isNone then .ready else .done) jump)) ∧
          (W3.putObj (w.heap.size + 1) (.loop (rec (if jump.isNone then .ready else .done) jump))).heap[w.heap.size]? = some (.deferred (some [])) ∧
          (∀ k, bo = some k → (W3.putObj (w.heap.size + 1) (.loop (rec (if jump.isNone then .ready else .done) jump))).heap[k]? = A.heap[k]?) := fun jump W3 hk3 => by
        have hl3 := (hk3 _ (.inr (.inl rfl))).trans hl2
        have := run_endRound (P := P) jump hl3
        have hlt3 := (Array.getElem?_eq_some_iff.1 hl3).1
        refine ⟨?_, World.putObj_heap_same hlt3, (World.putObj_heap_other (by omega)).trans ((hk3 _ (.inl rfl)).trans hk2), fun k hk => (World.putObj_heap_other (hbd k hk).2).trans ((hk3 k (.inr (.inr hk))).trans (hb2 k hk))⟩
        rw [hrec] at this ⊢
        exact this
      have hsz3 : ∀ (W3 : World) (o : Obj), (∀ k, (k = w.heap.size ∨ k = w.heap.size + 1 ∨ bo = some k) → W3.heap[k]? = (A.putObj (w.heap.size + 1) (.loop { rec .ready none with state := .busy })).heap[k]?) → W1.heap.size ≤ (W3.putObj (w.heap.size + 1) o).heap.size := fun W3 o hk3 => by
        have hl3 := (hk3 _ (.inr (.inl rfl))).trans hl2
        have := (Array.getElem?_eq_some_iff.1 hl3).1
        have := (grownBy_putObj' W3 (w.heap.size + 1) o).size
        omega
      rintro e a3 W3 hp
      cases e with
      | normal =>
        obtain ⟨hk3, hi3⟩ := hp
        obtain ⟨hr, hl4, hk4, hb4⟩ := fin none W3 hk3
        exact ⟨_, _, hr, .inl ⟨rfl, ⟨hIL W1 _ _ _ _ hG1 hS1 hi3 rfl, hl4, hk4, hsz3 _ _ hk3⟩, hb4⟩⟩
      | ret =>
        obtain ⟨hk3, hi3⟩ := hp
        obtain ⟨hr, hl4, hk4, hb4⟩ := fin (some .ret) W3 hk3
        exact ⟨_, _, hr, .inr ⟨rfl, .ret, hIxL W1 _ _ _ _ _ hG1 hS1 hi3 rfl, hl4, hk4⟩⟩
      | exit id =>
        obtain ⟨hk3, hi3⟩ := hp
        obtain ⟨hr, hl4, hk4, hb4⟩ := fin (some (.exit id)) W3 hk3
        exact ⟨_, _, hr, .inr ⟨rfl, .exit id, hIxL W1 _ _ _ _ _ hG1 hS1 hi3 rfl, hl4, hk4⟩⟩
      | goto t =>
        obtain ⟨hk3, hi3⟩ := hp
        obtain ⟨hr, hl4, hk4, hb4⟩ := fin (some (.goto t)) W3 hk3
        exact ⟨_, _, hr, .inr ⟨rfl, .goto t, hIxL W1 _ _ _ _ _ hG1 hS1 hi3 rfl, hl4, hk4⟩⟩
      | panic ch => exact hp.elim
      | outgrown => exact hp.elim
    · intro k hk
      have hh := hw0 k hk
      rw [hG1.block k hh.1]; exact hh.2
    · rintro e W2 ⟨⟨v, rfl⟩, (⟨hi, hl, hk, hsz⟩ | ⟨pre, x, post, hxs, c, hi, hl, hk⟩)⟩
      · exact ⟨none, _, by have := run_endLoop (P := P) hl (by rw [hrec]; simp); rw [hrec] at this; exact this, hdone W1 _ hG1 hS1 (hIL W1 _ _ _ _ hG1 hS1 hi rfl) ((World.putObj_heap_other (by omega)).trans hk)⟩
      · exact ⟨some c, _, by have := run_endLoop (P := P) hl (by rw [hrec]; simp); rw [hrec] at this; exact this, wpIn_wide.2 (hstop W1 _ c pre x post hG1 hS1 hxs (hIxL W1 _ _ _ _ _ hG1 hS1 hi rfl) ((World.putObj_heap_other (by omega)).trans hk))⟩

/-! ### The function that holds the statement -/
theorem calls_of_wp_marks {P : Program} {f : FuncId} {fn : Func} {c : Code} {args : Array Value} {w : World} {R : Ending → World → Prop}
    (hf : P.funcs[f]? = some fn) (hb : fn.body = some c)
    (h : c.wp P (bodyPostM Fence.wide 0 P fn R) { tmps := args ++ Array.replicate (fn.ntmps - args.size) undef, defers := [] } w) : Calls P f args w R :=
  (callsIn_wide (n := 0)).1 (callsIn_of_wp_marks hf hb trivial (wpIn_wide.2 h))
/-- returning without a loop behind -/
theorem bodyM_ret {P : Program} {fn : Func} {R : Ending → World → Prop} {a : Act} {w : World} {v : Value} (hr : (results fn a.tmps).run P w = .ok v w) (hd : a.defers = []) (h : R (.returned v) w) : bodyPostM Fence.wide 0 P fn R .ret a w := by
  show LeavesInM Fence.wide 0 P fn a.tmps R a.defers .returning w
  rw [hd]; exact ⟨v, hr, h⟩
/-- returning behind a loop: the loop's block is shut first -/
theorem bodyM_mark {P : Program} {fn : Func} {R : Ending → World → Prop} {a : Act} {w : World} {v : Value} {D : Nat} (hD : w.heap[D]? = some (.deferred (some []))) (hd : a.defers = [{ target := .collected D, args := #[] }])
    (hr : (results fn a.tmps).run P (w.putObj D (.deferred none)) = .ok v (w.putObj D (.deferred none))) (h : R (.returned v) (w.putObj D (.deferred none))) : bodyPostM Fence.wide 0 P fn R .ret a w := by
  show LeavesInM Fence.wide 0 P fn a.tmps R a.defers .returning w
  rw [hd]
  exact ⟨by simp, .inl ⟨D, _, rfl, run_takeDeferred hD, v, hr, h⟩⟩
end Go.Proofs.YtnmfmcmokdoieaaGreatDoor
