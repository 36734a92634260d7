/- Rows that a call makes and appends to: the laws of the kit, bundled with 'all that was there is as it was'. No conditions. -/
import Derived.Test.YtnmfmcmokdoieaaGreatDoorSlice
import Derived.Maps.AppendAt
set_option linter.unusedVariables false
set_option linter.unusedSimpArgs false
namespace Go.Proofs.YtnmfmcmokdoieaaGreatDoor
open Go.RowKit
/-- what the element type of a slice type is -/
structure ElemOk (P : Program) (t e : TypeId) (z : Value) (size bytes : Nat) : Prop where
  ht : P.underlying t = some (.slice e)
  hi : (P.info? e).map (fun i => (i.zero, i.size, i.bytes)) = some (some z, size, bytes)
  hzs : z.cells.size = size
  hsz : 0 < size
/-- the row that a call that began in W0 owns -/
abbrev Own (W0 w : World) (e : TypeId) (size : Nat) (v : Value) (n : Nat) (xs : List Value) : Prop := w.ownsRow W0.heap.size e size v n xs
theorem Own.nil (W0 w : World) (e : TypeId) (size : Nat) : Own W0 w e size (.slice none 0 0) 0 [] := ⟨by simp, .inl ⟨rfl, rfl⟩⟩
theorem Own.gr {W0 w w' : World} {e : TypeId} {size : Nat} {v : Value} {n : Nat} {xs : List Value} (h : Own W0 w e size v n xs) (g : Gr w w') : Own W0 w' e size v n xs := by
  refine ⟨h.1, ?_⟩
  rcases h.2 with hn | ⟨b, cap, cur, hv, hb, hh, r⟩
  · exact .inl hn
  · refine .inr ⟨b, cap, cur, hv, hb, ?_, r⟩
    rw [g.block b (by rcases Nat.lt_or_ge b w.heap.size with hl | hl
                      · exact hl
                      · rw [Array.getElem?_eq_none hl] at hh; cases hh)]
    exact hh
theorem Own.al {W0 w : World} {e : TypeId} {size : Nat} {v : Value} {n : Nat} {xs : List Value} (h : Own W0 w e size v n xs) (o : Obj) : Own W0 (w.alloc o) e size v n xs := World.ownsRow.alloc h o
theorem Own.dr {W0 w : World} {e : TypeId} {size : Nat} {v : Value} {n : Nat} {xs : List Value} (h : Own W0 w e size v n xs) : Own W0 w.drew e size v n xs := h
theorem Own.sl {W0 w : World} {e : TypeId} {size : Nat} {v : Value} {n : Nat} {xs : List Value} (h : Own W0 w e size v n xs) (_hs : 0 < size) : Sl w v n xs := by
  rcases h.2 with ⟨hv, hn⟩ | ⟨b, cap, cur, hv, hb, hh, hc, hm, hz, ht⟩
  · subst hn
    have : xs = [] := List.eq_nil_of_length_eq_zero (by rw [h.1]; omega)
    exact ⟨none, 0, hv, Nat.le_refl _, by omega, .inl this⟩
  · refine ⟨_, cap, hv, hc, by unfold maxLen at hm; omega, .inr ⟨b, 0, rfl, ?_, fun j u hu => ?_⟩⟩
    · rcases Nat.lt_or_ge b w.heap.size with hl | hl
      · exact hl
      · rw [Array.getElem?_eq_none hl] at hh; cases hh
    · rw [Nat.zero_add, (show Bk w b e cur (0, 0) from hh).cell j, ← Array.getElem?_toList]
      rw [← ht] at hu
      rw [List.getElem?_take] at hu
      split at hu
      · exact hu
      · cases hu
theorem Own.form {W0 w : World} {e : TypeId} {size : Nat} {v : Value} {n : Nat} {xs : List Value} (h : Own W0 w e size v n xs) : ∃ A c, v = .slice A n c := by
  rcases h.2 with ⟨hv, hn⟩ | ⟨b, cap, cur, hv, _⟩
  · subst hn; exact ⟨none, 0, hv⟩
  · exact ⟨_, cap, hv⟩
theorem gr_append {W0 w w' : World} {e : TypeId} {size : Nat} {v : Value} {n : Nat} {xs : List Value} (g : Gr W0 w) (h : Own W0 w e size v n xs) (k : w.grownBy w' v.ownBlock) : Gr W0 w' :=
  Below.grown g k g.size (fun b hb => (World.ownsRow.lt h b hb).1)
/-- 'out = append(out, x)' -/
theorem wpList_app1 {P : Program} {ops : Array Oper} {rest : List Oper} {o : Oper} {a : Act} {Q : Exit → Act → World → Prop} {W0 W : World} {t e : TypeId} {z : Value} {size bytes : Nat} {v : Value} {n : Nat} {xs news : List Value}
    (hE : ElemOk P t e z size bytes) (hgd : o.guard = none) (s x : Operand) (ho : o.op = .call { callee := .builtin .append, args := #[s, x], argTypes := #[t, t] })
    (hs : a.eval s = v) (hx : a.eval x = .slice (some ⟨W.heap.size, 0, none⟩) 1 1) (hG : Gr W0 W) (hown : Own W0 W e size v n xs) (hl : news.length = size) (h1 : ∀ u ∈ news, u.oneCell' = true)
    (hn : n ≤ 1000000000) (hb : bytes ≤ 1000)
    (h : ∀ v' w', Own W0 w' e size v' (n + 1) (xs ++ news) → Gr W0 w' → wpList P ops Q rest (a.put o.dst v') w') : wpList P ops Q (o :: rest) a (W.alloc (.cells news.toArray e)) := by
  obtain ⟨i, hi, hz0, hz1, hz2⟩ := info_parts hE.hi
  refine wpList_append_own (W.alloc (.cells news.toArray e)) hgd s x t ho W0.heap.size e i z size bytes hE.ht hi hz0 hz1 hz2 hE.hzs hE.hsz v n xs hs (hown.al _) ⟨W.heap.size, 0, none⟩ 1 1 news hx (by omega) ?_ h1 (by unfold maxLen; omega) ?_ ?_ ?_
  · intro j u hu
    have e1 : (Addr.mk W.heap.size 0 none).add j = ⟨W.heap.size, j, none⟩ := by unfold Addr.add; split <;> simp_all
    rw [e1, (Bk.new W e news.toArray (0, 0)).cell j]
    simpa using hu
  · have : (n + 1) * bytes ≤ 1000000001 * 1000 := Nat.mul_le_mul (by omega) hb
    omega
  · have := (Gr.al hG (.cells news.toArray e)).size; omega
  · intro v' w' h2 h3 _
    exact h v' w' h2 (gr_append (Gr.al hG _) (hown.al _) h3)
/-- what an append leaves of the rest: only the row itself is written; it lies where it lay, or is new -/
structure App (v v' : Value) (W w' : World) : Prop where
  grown : W.grownBy w' v.ownBlock
  at_ : v'.ownBlock = v.ownBlock ∨ ∃ b, v'.ownBlock = some b ∧ W.heap.size ≤ b
theorem by_of_alloc {w w' : World} {o : Obj} {r : Option Nat} (h : (w.alloc o).grownBy w' r) : w.grownBy w' r := by
  have hs := (Gr.al (Gr.refl w) o)
  exact ⟨h.os, h.tape, h.output, Nat.le_trans hs.size h.size, fun k hk hr => (h.block k (Nat.lt_of_lt_of_le hk hs.size) hr).trans (hs.block k hk)⟩
/-- 'out = append(out, x)', with more said -/
theorem wpList_app1x {P : Program} {ops : Array Oper} {rest : List Oper} {o : Oper} {a : Act} {Q : Exit → Act → World → Prop} {W0 W : World} {t e : TypeId} {z : Value} {size bytes : Nat} {v : Value} {n : Nat} {xs news : List Value}
    (hE : ElemOk P t e z size bytes) (hgd : o.guard = none) (s x : Operand) (ho : o.op = .call { callee := .builtin .append, args := #[s, x], argTypes := #[t, t] })
    (hs : a.eval s = v) (hx : a.eval x = .slice (some ⟨W.heap.size, 0, none⟩) 1 1) (hB : W0.heap.size ≤ W.heap.size) (hown : Own W0 W e size v n xs) (hl : news.length = size) (h1 : ∀ u ∈ news, u.oneCell' = true)
    (hn : n ≤ 1000000000) (hb : bytes ≤ 1000)
    (h : ∀ v' w', Own W0 w' e size v' (n + 1) (xs ++ news) → App v v' W w' → wpList P ops Q rest (a.put o.dst v') w') : wpList P ops Q (o :: rest) a (W.alloc (.cells news.toArray e)) := by
  obtain ⟨i, hi, hz0, hz1, hz2⟩ := info_parts hE.hi
  obtain ⟨v', w', hr, h2, h3, _, h5⟩ := run_append_own_at (P := P) (W.alloc (.cells news.toArray e)) W0.heap.size t o.type e i z size bytes hE.ht hi hz0 hz1 hz2 hE.hzs hE.hsz v n xs (hown.al _) ⟨W.heap.size, 0, none⟩ 1 1 news (by omega)
    (by
      intro j u hu
      have e1 : (Addr.mk W.heap.size 0 none).add j = ⟨W.heap.size, j, none⟩ := by unfold Addr.add; split <;> simp_all
      rw [e1, (Bk.new W e news.toArray (0, 0)).cell j]
      simpa using hu) h1 (by unfold maxLen; omega)
    (by have : (n + 1) * bytes ≤ 1000000001 * 1000 := Nat.mul_le_mul (by omega) hb
        omega)
    (by have := (Gr.al (Gr.refl W) (.cells news.toArray e)).size; omega)
  refine wpList_plain hgd fun K hK => ?_
  unfold Oper.wp execOp
  simp only [ho, resolve, invoke, builtin, Sem.run_bind, Sem.run_pure, Result.andThen_ok, List.map_toArray, List.map_cons, List.map_nil, hs, hx, hr]
  refine hK _ _ (h v' w' h2 ⟨by_of_alloc h3, ?_⟩)
  rcases h5 with h5 | h5
  · exact .inl h5
  · exact .inr ⟨_, h5, by have := (Gr.al (Gr.refl W) (.cells news.toArray e)).size; omega⟩
theorem App.gr {W0 W w' : World} {v v' : Value} {e : TypeId} {size n : Nat} {xs : List Value} (h : App v v' W w') (g : Gr W0 W) (ho : Own W0 W e size v n xs) : Gr W0 w' := gr_append g ho h.grown
/-- a slice that is not the row that is appended to -/
theorem Sl.kept {w w' : World} {v : Value} {n : Nat} {cs : List Value} {r : Option Nat} (h : Sl w v n cs) (g : w.grownBy w' r) (hr : v.ownBlock = none ∨ v.ownBlock ≠ r) : Sl w' v n cs := by
  obtain ⟨A, c, rfl, hc, hm, h⟩ := h
  refine ⟨A, c, rfl, hc, hm, ?_⟩
  rcases h with h | ⟨b, o, hA, hb, hj⟩
  · exact .inl h
  · subst hA
    have hne : some b ≠ r := by
      rcases hr with hr | hr
      · simp [Value.ownBlock] at hr
      · simpa [Value.ownBlock] using hr
    refine .inr ⟨b, o, rfl, Nat.lt_of_lt_of_le hb g.size, fun j u hu => ?_⟩
    rw [World.cell?_of_block (g.block b hb hne)]; exact hj j u hu
/-- two rows that lie apart -/
def Off (v u : Value) : Prop := u.ownBlock = none ∨ u.ownBlock ≠ v.ownBlock
theorem Off.app {v v' u : Value} {W w' : World} {n : Nat} {cs : List Value} (h : Off v u) (a : App v v' W w') (hs : Sl W u n cs) (hc : cs ≠ []) : Off v' u := by
  rcases a.at_ with e | ⟨b, e, hb⟩
  · unfold Off; rw [e]; exact h
  · right
    obtain ⟨A, c, rfl, _, _, hh⟩ := hs
    rcases hh with hh | ⟨b', o, hA, hb', _⟩
    · exact absurd hh hc
    · subst hA
      rw [e]; simp only [Value.ownBlock, ne_eq, Option.some.injEq]; omega
theorem Off.new {W0 w w' : World} {v u : Value} {e e' : TypeId} {size size' n n' : Nat} {xs ys : List Value} (h : Own W0 w e size v n xs) (k : Own w w' e' size' u n' ys) : Off v u := by
  unfold Off
  cases hu : u.ownBlock with
  | none => exact .inl rfl
  | some b =>
    right
    have h1 := (World.ownsRow.lt k b hu).1
    intro he
    have h2 := (World.ownsRow.lt h b he.symm).2
    omega
theorem run_append_src {P : Program} {W0 W : World} {t ty e : TypeId} {z : Value} {size bytes : Nat} {v u : Value} {n m : Nat} {xs news : List Value}
    (hE : ElemOk P t e z size bytes) (hB : W0.heap.size ≤ W.heap.size) (hown : Own W0 W e size v n xs) (hu : Sl W u m news) (hl : news.length = m * size) (h1 : ∀ u ∈ news, u.oneCell' = true)
    (hn : n + m ≤ 1000000000) (hb : bytes ≤ 1000) :
    ∃ v' w', (Builtin.append_ #[t, t] ty #[v, u]).run P W = .ok v' w' ∧ Own W0 w' e size v' (n + m) (xs ++ news) ∧ App v v' W w' := by
  obtain ⟨i, hi, hz0, hz1, hz2⟩ := info_parts hE.hi
  have hsz := hE.hsz
  obtain ⟨A, c, rfl, hc, hm, hh⟩ := hu
  have key : ∀ ad : Addr, A = some ad → (∀ j u, news[j]? = some u → W.cell? (ad.add j) = some u) → ∃ v' w', (Builtin.append_ #[t, t] ty #[v, .slice A m c]).run P W = .ok v' w' ∧ Own W0 w' e size v' (n + m) (xs ++ news) ∧ App v v' W w' := by
    intro ad hA hcells
    subst hA
    obtain ⟨v', w', hr, h2, h3, _, h5⟩ := run_append_own_at (P := P) W W0.heap.size t ty e i z size bytes hE.ht hi hz0 hz1 hz2 hE.hzs hsz v n xs hown ad m c news hl hcells h1 (by unfold maxLen; omega)
      (by have : (n + m) * bytes ≤ 1000000000 * 1000 := Nat.mul_le_mul hn hb
          omega) hB
    refine ⟨v', w', hr, h2, h3, ?_⟩
    rcases h5 with h5 | h5
    · exact .inl h5
    · exact .inr ⟨_, h5, Nat.le_refl _⟩
  cases A with
  | none =>
    have hnews : news = [] := by
      rcases hh with hh | ⟨b, o, hA, _⟩
      · exact hh
      · cases hA
    subst hnews
    have hm0 : m = 0 := by
      simp only [List.length_nil] at hl
      rcases Nat.eq_zero_or_pos m with h | h
      · exact h
      · have := Nat.mul_pos h hsz; omega
    subst hm0
    refine ⟨v, W, ?_, by simpa using hown, (Gr.refl W).by _, .inl rfl⟩
    rcases hown.2 with ⟨rfl, rfl⟩ | ⟨g, cap, cur, rfl, _, _, hnc, _⟩
    · simp [Builtin.append_, run_underlying hE.ht, sizeOf, typeInfo, hi, Builtin.lenOf, Builtin.firstCells]
    · simp [Builtin.append_, run_underlying hE.ht, sizeOf, typeInfo, hi, Builtin.lenOf, Builtin.firstCells, hnc, storeCells]
  | some ad =>
    refine key ad rfl (fun j u hu => ?_)
    rcases hh with hh | ⟨b, o, hA, _, hj⟩
    · rw [hh] at hu; simp at hu
    · injection hA with hA
      subst hA
      have e1 : (Addr.mk b o none).add j = ⟨b, o + j, none⟩ := by unfold Addr.add; split <;> simp_all
      rw [e1]; exact hj j u hu
/-- 'out = append(out, xs...)', whatever xs is -/
theorem wpList_appS {P : Program} {ops : Array Oper} {rest : List Oper} {o : Oper} {a : Act} {Q : Exit → Act → World → Prop} {W0 W : World} {t e : TypeId} {z : Value} {size bytes : Nat} {v u : Value} {n m : Nat} {xs news : List Value}
    (hE : ElemOk P t e z size bytes) (hgd : o.guard = none) (s x : Operand) (ho : o.op = .call { callee := .builtin .append, args := #[s, x], argTypes := #[t, t] })
    (hs : a.eval s = v) (hx : a.eval x = u) (hB : W0.heap.size ≤ W.heap.size) (hown : Own W0 W e size v n xs) (hu : Sl W u m news) (hl : news.length = m * size) (h1 : ∀ u ∈ news, u.oneCell' = true)
    (hn : n + m ≤ 1000000000) (hb : bytes ≤ 1000)
    (h : ∀ v' w', Own W0 w' e size v' (n + m) (xs ++ news) → App v v' W w' → wpList P ops Q rest (a.put o.dst v') w') : wpList P ops Q (o :: rest) a W := by
  obtain ⟨v', w', hr, h2, h3⟩ := run_append_src (ty := o.type) hE hB hown hu hl h1 hn hb
  refine wpList_plain hgd fun K hK => ?_
  unfold Oper.wp execOp
  simp only [ho, resolve, invoke, builtin, Sem.run_bind, Sem.run_pure, Result.andThen_ok, List.map_toArray, List.map_cons, List.map_nil, hs, hx, hr]
  exact hK _ _ (h v' w' h2 h3)
/-- the same, as one operation -/
theorem op_appS {P : Program} {o : Oper} {a : Act} {K : Act → World → Prop} {Q : Exit → Act → World → Prop} {W0 W : World} {t e : TypeId} {z : Value} {size bytes : Nat} {v u : Value} {n m : Nat} {xs news : List Value}
    (hE : ElemOk P t e z size bytes) (s x : Operand) (ho : o.op = .call { callee := .builtin .append, args := #[s, x], argTypes := #[t, t] })
    (hs : a.eval s = v) (hx : a.eval x = u) (hB : W0.heap.size ≤ W.heap.size) (hown : Own W0 W e size v n xs) (hu : Sl W u m news) (hl : news.length = m * size) (h1 : ∀ u ∈ news, u.oneCell' = true)
    (hn : n + m ≤ 1000000000) (hb : bytes ≤ 1000)
    (h : ∀ v' w', Own W0 w' e size v' (n + m) (xs ++ news) → App v v' W w' → K (a.put o.dst v') w') : o.wp P a W K Q := by
  obtain ⟨v', w', hr, h2, h3⟩ := run_append_src (P := P) (ty := o.type) hE hB hown hu hl h1 hn hb
  unfold Oper.wp execOp
  simp only [ho, resolve, invoke, builtin, Sem.run_bind, Sem.run_pure, Result.andThen_ok, List.map_toArray, List.map_cons, List.map_nil, hs, hx, hr]
  exact h v' w' h2 h3
end Go.Proofs.YtnmfmcmokdoieaaGreatDoor
