/- A region that draws its order, in which some operations make memory or write new blocks: what only reads, or calls what only makes new memory, is walked once; the others are met with whatever may have grown between. No conditions. -/
import Derived.Test.YtnmfmcmokdoieaaGreatDoorBase
set_option linter.unusedVariables false
set_option linter.unusedSimpArgs false
namespace Go.Proofs.YtnmfmcmokdoieaaGreatDoor
open Go.RowKit

theorem by_tr {a b c : World} {r : Option Nat} (h : a.grownBy b r) (k : Gr b c) : a.grownBy c r :=
  ⟨k.os.trans h.os, k.tape.trans h.tape, k.output.trans h.output, Nat.le_trans h.size k.size, fun i hi hr => (k.block i (Nat.lt_of_lt_of_le hi h.size)).trans (h.block i hi hr)⟩
theorem by_cell {a b : World} {r : Option Nat} (h : a.grownBy b r) {p : Addr} {v : Value} (hc : a.cell? p = some v) (hr : some p.block ≠ r) : b.cell? p = some v := by
  have hl : p.block < a.heap.size := by
    rcases Nat.lt_or_ge p.block a.heap.size with hl | hg
    · exact hl
    · simp [World.cell?, Array.getElem?_eq_none hg] at hc
  rw [World.cell?_of_block (h.block p.block hl hr)]; exact hc
theorem by_st {a b : World} {g : Nat} (h : a.grownBy b (some g)) (i : Nat) (u : Value) : a.grownBy (b.setCell ⟨g, i, none⟩ u) (some g) :=
  ⟨h.os, h.tape, h.output, by simpa [World.setCell] using h.size, fun k hk hr => (Below.heap_setCell b ⟨g, i, none⟩ u k (by rintro rfl; exact hr rfl)).trans (h.block k hk hr)⟩
/-- a world that is w but for new blocks and block r -/
structure Gxw (w : World) (r : Option Nat) where
  val : World
  ok : w.grownBy val r
instance (w : World) (r : Option Nat) : Nonempty (Gxw w r) := ⟨⟨w, (Gr.refl w).by r⟩⟩
def gx (w : World) (r : Option Nat) (i : Gxw w r) : World := i.val
theorem gx_by (w : World) (r : Option Nat) (i : Gxw w r) : w.grownBy (gx w r i) r := i.ok
theorem gx_cell {w : World} {r : Option Nat} {p : Addr} {v : Value} (hc : w.cell? p = some v) (hr : some p.block ≠ r) (i : Gxw w r) : (gx w r i).cell? p = some v := by_cell i.ok hc hr

def gqUpon (P : Program) (w : World) (v : Value) : Result Next → Prop
  | .ok (.value u) w' => w' = w ∧ u = v
  | .ok .skip w' => w' = w ∧ v = undef
  | .ok (.enter f args) w' => w' = w ∧ Calls P f args w (fun e w'' => e = .returned v ∧ Gr w w'')
  | _ => False
def gqOp (P : Program) (o : Oper) (a : Act) (w : World) (r : Option Nat) (next : Act → Prop) : Prop :=
  ∃ v, (∀ i : Gxw w r, gqUpon P (gx w r i) v ((execOp a.eval o).run P (gx w r i))) ∧ next (a.put o.dst v)
def wpGq (P : Program) (ops : Array Oper) (w : World) (r : Option Nat) (Q : Act → Prop) : List Oper → Act → Prop
  | [], a => Q a
  | o :: rest, a => if Region.wanted o (yielded ops a.tmps) then gqOp P o a w r (wpGq P ops w r Q rest) else wpGq P ops w r Q rest (a.put o.dst undef)
attribute [go_sem] gqUpon gqOp
theorem wpGq_nil {P : Program} {ops : Array Oper} {w : World} {r : Option Nat} {Q : Act → Prop} {a : Act} (h : Q a) : wpGq P ops w r Q [] a := h
theorem wpGq_step {P : Program} {ops : Array Oper} {w : World} {r : Option Nat} {Q : Act → Prop} {a : Act} {o : Oper} {rest : List Oper}
    (h : ∀ K : Act → Prop, (∀ a, wpGq P ops w r Q rest a → K a) → if Region.wanted o (yielded ops a.tmps) then gqOp P o a w r K else K (a.put o.dst undef)) : wpGq P ops w r Q (o :: rest) a := h _ (fun _ h => h)

section
variable {P : Program} {ops : Array Oper} {md : Region.Mode} {Q : Exit → Act → World → Prop} {w0 : World} {r : Option Nat}
/-- whatever order is picked, whatever grows between -/
def wpG (P : Program) (md : Region.Mode) (ops : Array Oper) (Q : Exit → Act → World → Prop) (w0 : World) (r : Option Nat) : Nat → Array Bool → Act → World → Prop
  | 0, listed, a, w => ∀ w', Gr w w' → Region.ready md ops listed = [] ∧ Q .normal a w'
  | fuel + 1, listed, a, w => ∀ w', Gr w w' → (Region.ready md ops listed = [] → Q .normal a w') ∧
    ∀ i ∈ Region.ready md ops listed, wpOp P ops Q i (fun a'' w'' => w0.grownBy w'' r ∧ wpG P md ops Q w0 r fuel (listed.setIfInBounds i true) a'' w'') a w'
theorem wpG_any : ∀ (fuel : Nat) (listed : Array Bool) (a : Act) (w : World), wpG P md ops Q w0 r fuel listed a w → wpAny P md ops Q fuel listed a w
  | 0, _, _, w, h => h w (Gr.refl w)
  | fuel + 1, _, _, w, h => ⟨(h w (Gr.refl w)).1, fun i hi => wpOp_mono (fun a' w' h' => wpG_any fuel _ a' w' h'.2) ((h w (Gr.refl w)).2 i hi)⟩
theorem wpG_mono {fuel : Nat} {listed : Array Bool} {a : Act} {w w1 : World} (hg : Gr w w1) (h : wpG P md ops Q w0 r fuel listed a w) : wpG P md ops Q w0 r fuel listed a w1 := by
  cases fuel with
  | zero => intro w' hw'; exact h w' (Gr.tr hg hw')
  | succ fuel => intro w' hw'; exact h w' (Gr.tr hg hw')
def YieldsG (P : Program) (ops : Array Oper) (w0 : World) (r : Option Nat) (o : Oper) (v : Value) (a : Act) : Prop :=
  (Region.wanted o (yielded ops a.tmps) = true ∧ ∀ w', w0.grownBy w' r → gqUpon P w' v ((execOp a.eval o).run P w')) ∨ (Region.wanted o (yielded ops a.tmps) = false ∧ v = undef)
theorem YieldsG.of_same {o : Oper} {v : Value} {a a' : Act} (hy : YieldsG P ops w0 r o v a) (he : execOp a'.eval o = execOp a.eval o)
    (hw : Region.wanted o (yielded ops a'.tmps) = Region.wanted o (yielded ops a.tmps)) : YieldsG P ops w0 r o v a' := by
  unfold YieldsG at *; rw [he, hw]; exact hy
theorem YieldsG.wpOp {i : Nat} {o : Oper} {v : Value} {a : Act} (hi : ops[i]? = some o) (hy : YieldsG P ops w0 r o v a) {K : Act → World → Prop} {w : World} (hw0 : w0.grownBy w r)
    (h : ∀ w', Gr w w' → K (a.put o.dst v) w') : Go.wpOp P ops Q i K a w := by
  unfold Go.wpOp
  simp only [hi]
  rcases hy with ⟨hw, hv⟩ | ⟨hw, rfl⟩
  · simp only [hw, if_true]
    refine .inl ?_
    have h3 := hv w hw0
    unfold Oper.wp
    generalize (execOp a.eval o).run P w = res at *
    cases res with
    | ok n w' =>
      cases n <;> simp only [gqUpon] at h3 <;> simp only [Oper.upon]
      case value u =>
        obtain ⟨e1, e2⟩ := h3
        rw [e1, e2]; exact h _ (Gr.refl _)
      case skip =>
        obtain ⟨e1, e2⟩ := h3
        rw [e1, ← e2]; exact h _ (Gr.refl _)
      case enter f args =>
        obtain ⟨e1, hc⟩ := h3
        rw [e1]
        exact hc.mono fun e w'' ⟨he, hw''⟩ => by subst he; exact h _ hw''
    | halt x w' => simp only [gqUpon] at h3
  · simp only [hw, Bool.false_eq_true, if_false]; exact h _ (Gr.refl _)
theorem wpOp_putG {j : Nat} {oi oj : Oper} {v : Value} (hj : ops[j]? = some oj) (hap : oi.apart ops oj = true)
    (hsi : ∀ cs b, oi.op ≠ .select cs b) (hsj : ∀ cs b, oj.op ≠ .select cs b)
    (hQ : ∀ c a w, Q (.panic c) (a.put oi.dst v) w → Q (.panic c) a w) {K : Act → World → Prop} {a : Act} {w : World}
    (hy : YieldsG P ops w0 r oi v a) (h : wpOp P ops Q j K (a.put oi.dst v) w) :
    wpOp P ops Q j (fun a' w' => YieldsG P ops w0 r oi v a' ∧ K (a'.put oi.dst v) w') a w := by
  obtain ⟨h1, h2, h3⟩ := Oper.apart_spec hap
  have keep : ∀ (a : Act), YieldsG P ops w0 r oi v a → ∀ u, YieldsG P ops w0 r oi v (a.put oj.dst u) := fun a hy u =>
    hy.of_same (execOp_put oi hsi a oj.dst u h3) (wanted_put oi a oj.dst u h3)
  have keepD : ∀ d, YieldsG P ops w0 r oi v { a with defers := d :: a.defers } := fun d => hy.of_same rfl rfl
  unfold wpOp at *
  simp only [hj] at *
  rw [wanted_put oj a oi.dst v h1] at h
  split
  · rename_i hw
    simp only [hw, if_true] at h
    rcases h with h | ⟨hasks, hlets⟩
    case inr => exact .inr ⟨by unfold Oper.asks at *; rw [execOp_put oj hsj a oi.dst v h1] at hasks; exact hasks, hlets⟩
    refine .inl ?_
    unfold Oper.wp at *
    rw [execOp_put oj hsj a oi.dst v h1] at h
    generalize (execOp a.eval oj).run P w = res at *
    cases res with
    | ok n w' =>
      cases n <;> simp only [Oper.upon] at h ⊢
      case value u => exact ⟨keep a hy u, by rw [← Act.put_comm a v u h2]; exact h⟩
      case skip => exact ⟨keep a hy _, by rw [← Act.put_comm a v undef h2]; exact h⟩
      case defer d =>
        refine ⟨keep _ (keepD d) _, ?_⟩
        rw [← Act.put_comm _ v undef h2, ← Act.put_defers]
        exact h
      case enter f args =>
        refine Calls.mono h fun e w'' he => ?_
        cases e with
        | returned u => exact ⟨keep a hy u, by rw [← Act.put_comm a v u h2]; exact he⟩
        | panicked c => exact hQ _ _ _ he
        | outgrown => exact he
      case row row args => exact Rows.mono h fun u w'' he => ⟨keep a hy u, by rw [← Act.put_comm a v u h2]; exact he⟩
    | halt x w' =>
      cases x <;> simp only [Oper.upon] at h ⊢
      case panic u => exact hQ _ _ _ h
  · rename_i hw
    simp only [hw] at h
    exact ⟨keep a hy _, by rw [← Act.put_comm a v undef h2]; exact h⟩
theorem wpG_first {i : Nat} {oi : Oper} {v : Value} (hi : ops[i]? = some oi) (hsel : ∀ (j : Nat) (o : Oper) cs b, ops[j]? = some o → o.op ≠ .select cs b)
    (hQ : ∀ c a w, Q (.panic c) (a.put oi.dst v) w → Q (.panic c) a w) :
    ∀ (fuel : Nat) (listed : Array Bool) (a : Act) (w : World),
      (∀ j oj, ops[j]? = some oj → j ≠ i → listed.getD j true = false → (∀ e ∈ oj.after, Region.binds md e = true → e.on ≠ i) → oi.apart ops oj = true) →
      i ∈ Region.ready md ops listed → YieldsG P ops w0 r oi v a → w0.grownBy w r →
      wpG P md ops Q w0 r fuel (listed.setIfInBounds i true) (a.put oi.dst v) w → wpG P md ops Q w0 r (fuel + 1) listed a w := by
  intro fuel
  induction fuel with
  | zero =>
    intro listed a w _ hr hy hw0 H w' hw'
    refine ⟨fun h => (by rw [h] at hr; cases hr), fun j hj => ?_⟩
    by_cases hji : j = i
    · subst hji; exact hy.wpOp hi (by_tr hw0 hw') (fun w2 h2 => ⟨by_tr (by_tr hw0 hw') h2, wpG_mono (Gr.tr hw' h2) H⟩)
    · have := ready_mono hj hji
      rw [(H w (Gr.refl w)).1] at this
      cases this
  | succ fuel ih =>
    intro listed a w hfree hr hy hw0 H w' hw'
    refine ⟨fun h => (by rw [h] at hr; cases hr), fun j hj => ?_⟩
    by_cases hji : j = i
    · subst hji; exact hy.wpOp hi (by_tr hw0 hw') (fun w2 h2 => ⟨by_tr (by_tr hw0 hw') h2, wpG_mono (Gr.tr hw' h2) H⟩)
    · have h1 := (H w' hw').2 j (ready_mono hj hji)
      obtain ⟨hjun, oj, hoj, hall⟩ := mem_ready.1 hj
      have hnot : ∀ e ∈ oj.after, Region.binds md e = true → e.on ≠ i := fun e he hb heq => by
        have h1 := hall e he hb
        have h0 := (mem_ready.1 hr).1
        rw [heq] at h1
        rcases Nat.lt_or_ge i listed.size with h' | h'
        · simp [h'] at h0 h1; rw [h0] at h1; cases h1
        · simp [Array.getElem?_eq_none h'] at h1
      have h2 := wpOp_putG hoj (hfree j oj hoj hji hjun hnot) (fun cs b => hsel i oi cs b hi) (fun cs b => hsel j oj cs b hoj) hQ hy h1
      have hfree' : ∀ k ok, ops[k]? = some ok → k ≠ i → (listed.setIfInBounds j true).getD k true = false →
          (∀ e ∈ ok.after, Region.binds md e = true → e.on ≠ i) → oi.apart ops ok = true := fun k ok hk hki hun hno => by
        refine hfree k ok hk hki ?_ hno
        by_cases hjk : j = k
        · subst hjk; exact hjun
        · rw [getD_set_ne true hjk] at hun; exact hun
      refine wpOp_mono (fun a' w2 h3 => ⟨h3.2.1, ih (listed.setIfInBounds j true) a' w2 hfree' (ready_mono hr (Ne.symm hji)) h3.1 h3.2.1 ?_⟩) h2
      rw [Array.setIfInBounds_comm _ _ hji]
      exact h3.2.2

/-- the operations that are walked once, by their numbers: each may come up, and is apart from what may come up beside it -/
def mixGo (md : Region.Mode) (ops : Array Oper) : List Nat → Array Bool → Bool
  | [], _ => true
  | k :: idx, listed => (Region.ready md ops listed).contains k && Region.free md ops listed k && mixGo md ops idx (listed.setIfInBounds k true)
def mixB (md : Region.Mode) (ops : Array Oper) (idx : List Nat) : Bool := Region.noSelect ops && mixGo md ops idx (Array.replicate ops.size false)
def mixAt (idx : List Nat) (listed : Array Bool) : Array Bool := idx.foldl (fun l k => l.setIfInBounds k true) listed
theorem wpG_lex (hs : Region.noSelect ops = true) (hQ : ∀ (o : Option Tmp) (v : Value) c a w, Q (.panic c) (a.put o v) w → Q (.panic c) a w) {w : World} (hw0 : w0.grownBy w r) (n : Nat) : ∀ (idx : List Nat) (lq : List Oper) (listed : Array Bool) (a : Act),
    idx.map (ops[·]?) = lq.map some → mixGo md ops idx listed = true →
    wpGq P ops w0 r (fun a' => wpG P md ops Q w0 r n (mixAt idx listed) a' w) lq a → wpG P md ops Q w0 r (idx.length + n) listed a w
  | [], [], _, _, _, _, h => by
    rw [List.length_nil, Nat.zero_add]; exact h
  | k :: idx, o :: lq, listed, a, hl, hB, h => by
    simp only [List.map_cons, List.cons.injEq] at hl
    simp only [mixGo, Bool.and_eq_true] at hB
    obtain ⟨⟨hr, hf⟩, hB'⟩ := hB
    have hstep : ∃ v, YieldsG P ops w0 r o v a ∧ wpGq P ops w0 r (fun a' => wpG P md ops Q w0 r n (mixAt (k :: idx) listed) a' w) lq (a.put o.dst v) := by
      unfold wpGq at h
      by_cases hw : Region.wanted o (yielded ops a.tmps) = true
      · simp only [hw, if_true] at h
        obtain ⟨v, h1, h2⟩ := h
        exact ⟨v, .inl ⟨hw, fun w' hw' => h1 ⟨w', hw'⟩⟩, h2⟩
      · simp only [hw] at h
        exact ⟨undef, .inr ⟨by simpa using hw, rfl⟩, h⟩
    obtain ⟨v, hy, hK⟩ := hstep
    rw [List.length_cons, show idx.length + 1 + n = (idx.length + n) + 1 from by omega]
    exact wpG_first hl.1 (Region.noSelect_spec hs) (hQ _ v) _ listed a w (Region.free_spec hl.1 hf) (by simpa using hr) hy hw0 (wpG_lex hs hQ hw0 n idx lq _ _ hl.2 hB' hK)
  | [], _ :: _, _, _, hl, _, _ => by simp at hl
  | _ :: _, [], _, _, hl, _, _ => by simp at hl
/-- the operations of these numbers -/
def pickOps (l : List Oper) (idx : List Nat) : List Oper := idx.filterMap (l[·]?)
theorem pick_some {l : List Oper} : ∀ {idx : List Nat} {listed : Array Bool}, mixGo md l.toArray idx listed = true → idx.map (l.toArray[·]?) = (pickOps l idx).map some
  | [], _, _ => rfl
  | k :: idx, listed, h => by
    simp only [mixGo, Bool.and_eq_true] at h
    obtain ⟨⟨hr, _⟩, h'⟩ := h
    have hr' : k ∈ Region.ready md l.toArray listed := by simpa using hr
    obtain ⟨_, o, ho, _⟩ := mem_ready.1 hr'
    have ho' : l[k]? = some o := by simpa using ho
    rw [List.map_cons, pick_some h', ho]
    simp [pickOps, ho']
/-- THE REGION: the operations numbered in idx are walked once, in that order; then the others -/
theorem wp_region_mix {id : Nat} {a : Act} {w : World} {l : List Oper} (idx : List Nat) (r : Option Nat) (n : Nat) (hm : P.follows .mixedOrders = true) (hn : l.toArray.size = idx.length + n) (hB : mixB .any l.toArray idx = true)
    (hQ : ∀ (o : Option Tmp) (v : Value) c a w, Q (.panic c) (a.put o v) w → Q (.panic c) a w)
    (h : wpGq P l.toArray w r (fun a' => wpG P .any l.toArray Q w r n (mixAt idx (Array.replicate l.toArray.size false)) a' w) (pickOps l idx) a) : (Code.region id l.toArray true).wp P Q a w := by
  simp only [mixB, Bool.and_eq_true] at hB
  refine wp_region_any hm ?_
  have hlq : idx.map (l.toArray[·]?) = (pickOps l idx).map some := pick_some hB.2
  have h1 := wpG_lex (P := P) (md := .any) (ops := l.toArray) (Q := Q) (w0 := w) (r := r) hB.1 hQ (w := w) ((Gr.refl w).by r) n idx (pickOps l idx) _ a hlq hB.2 h
  rw [hn]
  rw [hn] at h1
  exact wpG_any _ _ _ _ (wpG_mono (Gr.dr (Gr.refl w)) h1)
/-- one operation that alone may come up -/
theorem wpG_one {fuel : Nat} {listed : Array Bool} {a : Act} {w : World} (i : Nat) {o : Oper} (hr : Region.ready md ops listed = [i]) (ho : ops[i]? = some o) (hg : o.guard = none)
    (h : ∀ (K : Act → World → Prop), (∀ a'' w'', w0.grownBy w'' r → wpG P md ops Q w0 r fuel (listed.setIfInBounds i true) a'' w'' → K a'' w'') → ∀ w', Gr w w' → o.wp P a w' K Q) : wpG P md ops Q w0 r (fuel + 1) listed a w := by
  intro w' hw'
  rw [hr]
  refine ⟨fun h => by simp at h, fun j hj => ?_⟩
  simp only [List.mem_singleton] at hj
  subst hj
  unfold wpOp
  simp only [ho]
  have : Region.wanted o (yielded ops a.tmps) = true := by simp [Region.wanted, hg]
  rw [if_pos this]
  exact .inl (h _ (fun a'' w'' h1 h2 => ⟨h1, h2⟩) w' hw')
theorem wpG_done {fuel : Nat} {listed : Array Bool} {a : Act} {w : World} (hr : Region.ready md ops listed = []) (h : ∀ w', Gr w w' → Q .normal a w') : wpG P md ops Q w0 r fuel listed a w := by
  cases fuel with
  | zero => intro w' hw'; exact ⟨hr, h w' hw'⟩
  | succ fuel => intro w' hw'; exact ⟨fun _ => h w' hw', fun i hi => by rw [hr] at hi; cases hi⟩
end
end Go.Proofs.YtnmfmcmokdoieaaGreatDoor
