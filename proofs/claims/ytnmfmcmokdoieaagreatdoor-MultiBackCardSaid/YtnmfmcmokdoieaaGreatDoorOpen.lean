/- The arguments of a law, opened: texts, fields, lists of them, as the walks take them. No conditions beyond the row's own reach. -/
import Derived.Test.YtnmfmcmokdoieaaGreatDoorRow
import Derived.Test.YtnmfmcmokdoieaaGreatDoorSlice
import Derived.SliceStrings
import Derived.Deep.Slices
import Derived.Deep.Fields
import Derived.Lib.SmallJoins
set_option linter.unusedVariables false
set_option linter.unusedSimpArgs false
namespace Go.Proofs.YtnmfmcmokdoieaaGreatDoor
open Go.ChangeShapes Go.WideShapes Go.ChangeAt Go.RowKit Go.Deep Go.Joins
open Go.ChangeMaps (open_string shut_string)
section
variable {H : Type} {enc : TypeId × Value → H} {P : Program}
theorem ba_eta (s : ByteArray) : Value.string s = str s.data.toList := by simp [str]
theorem reach_le {n : Nat} (h : n ≤ reachBytes) : n ≤ 140737488355328 := by unfold reachBytes at h; omega
/-- a text -/
theorem open_text {W : World} {b0 : Nat} {t : TypeId} {v : Value} {d : DataW H} {ps : List MemPlace} (ht : P.underlying t = some .string) (hval : Value.okWide P W .any b0 t v) (hd : DataW.Trod enc P W 0 (fun _ => true) true t v d ps)
    (hz : ∀ n ∈ d.weights P t, n ≤ reachBytes) : ∃ l, v = str l ∧ l.length ≤ 140737488355328 := by
  obtain ⟨s, rfl, rfl, _, _⟩ := open_string ht hval hd
  exact ⟨s.data.toList, ba_eta s, reach_le (hz _ (by simp [DataW.weights]))⟩
/-- a field -/
theorem open_fld {W : World} {b0 : Nat} {t : TypeId} {f0 f1 : Field} {v : Value} {d : DataW H} {ps : List MemPlace} (hs : P.underlying t = some (.struct #[f0, f1])) (hone : oneCellFields P #[f0, f1] = true) (hC : P.cellsOf t = 2)
    (h0 : P.underlying f0.type = some .string) (h1 : P.underlying f1.type = some .string)
    (hval : Value.okWide P W .any b0 t v) (hd : DataW.Trod enc P W 0 (fun _ => true) true t v d ps) (hz : ∀ n ∈ d.weights P t, n ≤ reachBytes) :
    ∃ a b, v = .agg #[str a, str b] ∧ a.length ≤ 140737488355328 ∧ b.length ≤ 140737488355328 := by
  obtain ⟨v0, v1, y0, y1, n, rfl, rfl, _, hy0, hy1⟩ := open_agg2 hs hone hC hval hd
  obtain ⟨s0, e0, rfl, _⟩ := DataW.trod_string h0 hy0
  obtain ⟨s1, e1, rfl, _⟩ := DataW.trod_string h1 hy1
  simp only [List.cons.injEq, and_true] at e0 e1
  subst e0 e1
  refine ⟨s0.data.toList, s1.data.toList, by rw [← ba_eta, ← ba_eta], reach_le (hz _ ?_), reach_le (hz _ ?_)⟩ <;> simp [DataW.weights, hs, DataW.weightsEach]
theorem list_of {α : Type} {R : Nat → α → Prop} : ∀ n : Nat, (∀ i, i < n → ∃ x, R i x) → ∃ xs : List α, xs.length = n ∧ ∀ (i : Nat) (h : i < xs.length), R i xs[i]
  | 0, _ => ⟨[], rfl, fun i h => by simp at h⟩
  | n + 1, h => by
    obtain ⟨xs, hl, hx⟩ := list_of n (fun i hi => h i (by omega))
    obtain ⟨x, hxn⟩ := h n (by omega)
    refine ⟨xs ++ [x], by simp [hl], fun i hi => ?_⟩
    by_cases e : i < xs.length
    · rw [List.getElem_append_left e]; exact hx i e
    · have : i = n := by simp at hi; omega
      subst this
      rw [List.getElem_append_right (by omega)]; simpa [hl] using hxn
theorem weightsAll_mem {e : TypeId} {l : List (DataW H)} {d : DataW H} (h : d ∈ l) {n : Nat} (hn : n ∈ d.weights P e) : n ∈ DataW.weightsAll P e l := by
  induction l with
  | nil => cases h
  | cons x r ih =>
    simp only [DataW.weightsAll, List.mem_append]
    rcases List.mem_cons.1 h with rfl | h
    · exact .inl hn
    · exact .inr (ih h)
theorem add_none {W : World} {a : Addr} {v : Value} (h : W.cell? a = some v) : a = ⟨a.block, a.off, none⟩ := by
  obtain ⟨b, o, s⟩ := a
  cases s with
  | none => rfl
  | some s => unfold World.cell? at h; simp at h; split at h <;> simp_all
theorem add_at (b o j : Nat) : (Addr.mk b o none).add j = ⟨b, o + j, none⟩ := by unfold Addr.add; split <;> simp_all
/-- a list of texts -/
theorem open_texts {W : World} {b0 : Nat} {t e : TypeId} {v : Value} {d : DataW H} {ps : List MemPlace} (ht : P.underlying t = some (.slice e)) (he : P.underlying e = some .string) (hc : P.cellsOf e = 1) (hby : P.bytesOf e = 16)
    (hval : Value.okWide P W .any b0 t v) (hd : DataW.Trod enc P W 0 (fun _ => true) true t v d ps) (hz : ∀ n ∈ d.weights P t, n ≤ reachBytes) :
    ∃ xs, Strs W v xs ∧ Short xs ∧ xs.length ≤ 140737488355328 := by
  obtain ⟨a0, len0, cap0, rfl⟩ := okWide_slice ht hval
  obtain ⟨fuel, hf⟩ := hd
  rcases open_slice ht hf with ⟨hcs, hx⟩ | ⟨a, len, cap, m, n, D, Pl, hcs, _, hl, hm, hmm, hx, hi⟩
  · simp [Value.cells] at hcs
    obtain ⟨rfl, rfl, rfl⟩ := hcs
    exact ⟨[], ⟨none, 0, rfl, Nat.le_refl _, by simp, .inl rfl⟩, fun x hx => by simp at hx, by simp⟩
  · simp [Value.cells] at hcs
    obtain ⟨rfl, rfl, rfl⟩ := hcs
    simp only [if_true] at hmm
    subst hmm
    simp only [Prod.mk.injEq] at hx
    obtain ⟨rfl, _⟩ := hx
    have hw : ∀ n, n ∈ (len0 + (m - len0)) * 16 :: (DataW.weightsAll P e ((List.range len0).map D)) → n ≤ reachBytes := fun n hn => hz n (by
      simp only [DataW.weights, ht, List.length_map, List.length_range, hby, List.mem_cons, List.mem_append] at hn ⊢
      rcases hn with h | h
      · exact .inl h
      · exact .inr (.inl h))
    obtain ⟨xs, hxl, hxs⟩ := list_of (R := fun i x => W.cell? (a.add i) = some (str x) ∧ x.length ≤ 140737488355328) len0 (fun i hil => by
      obtain ⟨cs', hcc, htt⟩ := hi i (by omega)
      obtain ⟨s, rfl, hds, _⟩ := DataW.trod_string he htt
      rw [hc] at hcc
      have hcell := (World.cells?_some hcc).2.2 0 (by omega)
      rw [Nat.mul_one] at hcell
      have e0 : (a.add i).add 0 = a.add i := by simp [Addr.add]
      rw [e0] at hcell
      simp only [Prod.mk.injEq] at hds
      refine ⟨s.data.toList, by rw [hcell, ← ba_eta]; rfl, reach_le (hw _ (List.mem_cons_of_mem _ (weightsAll_mem (d := D i) (List.mem_map.2 ⟨i, List.mem_range.2 hil, rfl⟩) ?_)))⟩
      rw [hds.1]; simp [DataW.weights])
    have hlen := hw _ (List.mem_cons_self ..)
    unfold reachBytes at hlen
    subst hxl
    refine ⟨xs, ?_, fun x hx => ?_, by omega⟩
    · refine ⟨_, _, rfl, hl, by omega, ?_⟩
      rcases Nat.eq_zero_or_pos xs.length with h0 | h0
      · left; rw [List.eq_nil_of_length_eq_zero h0]; rfl
      · right
        have ha := (hxs 0 h0).1
        have e0 : a.add 0 = a := by simp [Addr.add]
        rw [e0] at ha
        have hae := add_none ha
        refine ⟨a.block, a.off, by rw [← hae], ?_, fun j u hu => ?_⟩
        · rcases Nat.lt_or_ge a.block W.heap.size with h | h
          · exact h
          · simp [World.cell?, Array.getElem?_eq_none h] at ha
        · rw [← add_at, ← hae]
          have hj : j < xs.length := by
            have := (List.getElem?_eq_some_iff.1 hu).1; simpa using this
          rw [(hxs j hj).1]
          simp [List.getElem?_eq_getElem hj] at hu
          rw [← hu]
    · obtain ⟨i, hil, rfl⟩ := List.mem_iff_getElem.1 hx
      exact (hxs i hil).2
/-- a list of fields -/
theorem open_flds {W : World} {b0 : Nat} {t e : TypeId} {f0 f1 : Field} {v : Value} {d : DataW H} {ps : List MemPlace} (ht : P.underlying t = some (.slice e)) (hs : P.underlying e = some (.struct #[f0, f1])) (hone : oneCellFields P #[f0, f1] = true) (hc : P.cellsOf e = 2) (hby : P.bytesOf e = 32)
    (h0 : P.underlying f0.type = some .string) (h1 : P.underlying f1.type = some .string)
    (hval : Value.okWide P W .any b0 t v) (hd : DataW.Trod enc P W 0 (fun _ => true) true t v d ps) (hz : ∀ n ∈ d.weights P t, n ≤ reachBytes) :
    ∃ xs, Flds W v xs ∧ Short2 xs ∧ xs.length ≤ 140737488355328 := by
  obtain ⟨a0, len0, cap0, rfl⟩ := okWide_slice ht hval
  obtain ⟨fuel, hf⟩ := hd
  obtain ⟨o0, k0⟩ := hone_of hone 0 f0 rfl
  obtain ⟨o1, k1⟩ := hone_of hone 1 f1 rfl
  rcases open_slice ht hf with ⟨hcs, hx⟩ | ⟨a, len, cap, m, n, D, Pl, hcs, _, hl, hm, hmm, hx, hi⟩
  · simp [Value.cells] at hcs
    obtain ⟨rfl, rfl, rfl⟩ := hcs
    exact ⟨[], ⟨none, 0, rfl, Nat.le_refl _, by simp, .inl rfl⟩, fun x hx => by simp at hx, by simp⟩
  · simp [Value.cells] at hcs
    obtain ⟨rfl, rfl, rfl⟩ := hcs
    simp only [if_true] at hmm
    subst hmm
    simp only [Prod.mk.injEq] at hx
    obtain ⟨rfl, _⟩ := hx
    have hw : ∀ n, n ∈ (len0 + (m - len0)) * 32 :: (DataW.weightsAll P e ((List.range len0).map D)) → n ≤ reachBytes := fun n hn => hz n (by
      simp only [DataW.weights, ht, List.length_map, List.length_range, hby, List.mem_cons, List.mem_append] at hn ⊢
      rcases hn with h | h
      · exact .inl h
      · exact .inr (.inl h))
    obtain ⟨xs, hxl, hxs⟩ := list_of (R := fun i (x : List UInt8 × List UInt8) => W.cell? (a.add (i * 2)) = some (str x.1) ∧ W.cell? (a.add (i * 2 + 1)) = some (str x.2) ∧ x.1.length ≤ 140737488355328 ∧ x.2.length ≤ 140737488355328) len0 (fun i hil => by
      obtain ⟨cs', hcc, htt⟩ := hi i (by omega)
      rw [hc] at hcc
      obtain ⟨_, hcl, hat⟩ := World.cells?_some hcc
      obtain ⟨ys, n', _, hy, _, hyl, hff⟩ := DataW.trod_struct hs htt
      have g0 := hff 0 f0 rfl
      have g1 := hff 1 f1 rfl
      rw [o0, k0] at g0
      rw [o1, k1] at g1
      match cs', hcl with
      | [c0, c1], _ =>
        match ys, hyl with
        | [y0, y1], _ =>
          simp only [List.drop_zero, List.take_succ_cons, List.take_zero, List.getElem?_cons_zero, List.drop_succ_cons, List.getElem?_cons_succ] at g0 g1
          obtain ⟨s0, e0, rfl, _⟩ := DataW.trod_string h0 g0
          obtain ⟨s1, e1, rfl, _⟩ := DataW.trod_string h1 g1
          simp only [List.cons.injEq, and_true] at e0 e1
          subst e0 e1
          have q0 := hat 0 (by omega)
          have q1 := hat 1 (by omega)
          rw [show (a.add (i * 2)).add 0 = a.add (i * 2) from by simp [Addr.add]] at q0
          rw [Go.Deep.add_add] at q1
          simp only [List.map_cons, List.map_nil, Prod.mk.injEq] at hy
          refine ⟨(s0.data.toList, s1.data.toList), by rw [q0, ← ba_eta]; rfl, by rw [q1, ← ba_eta]; rfl, reach_le (hw _ (List.mem_cons_of_mem _ (weightsAll_mem (d := D i) (List.mem_map.2 ⟨i, List.mem_range.2 hil, rfl⟩) ?_))), reach_le (hw _ (List.mem_cons_of_mem _ (weightsAll_mem (d := D i) (List.mem_map.2 ⟨i, List.mem_range.2 hil, rfl⟩) ?_)))⟩ <;> (rw [hy.1]; simp [DataW.weights, hs, DataW.weightsEach]))
    have hlen := hw _ (List.mem_cons_self ..)
    unfold reachBytes at hlen
    subst hxl
    refine ⟨xs, ?_, fun x hx => ?_, by omega⟩
    · refine ⟨_, _, rfl, hl, by omega, ?_⟩
      rcases Nat.eq_zero_or_pos xs.length with h0 | h0
      · left; rw [List.eq_nil_of_length_eq_zero h0]; rfl
      · right
        have ha := (hxs 0 h0).1
        have e0 : a.add (0 * 2) = a := by simp [Addr.add]
        rw [e0] at ha
        have hae := add_none ha
        refine ⟨a.block, a.off, by rw [← hae], ?_, fun j u hu => ?_⟩
        · rcases Nat.lt_or_ge a.block W.heap.size with h | h
          · exact h
          · simp [World.cell?, Array.getElem?_eq_none h] at ha
        · rw [← add_at, ← hae]
          have hj : j < xs.length * 2 := by
            have := (List.getElem?_eq_some_iff.1 hu).1; rw [flat2_len] at this; exact this
          have hq : j / 2 < xs.length := by omega
          obtain ⟨e1, e2⟩ := flat2_at xs (j / 2) hq
          rcases Nat.mod_two_eq_zero_or_one j with hm2 | hm2
          · have hj2 : j = j / 2 * 2 := by omega
            rw [hj2, (hxs _ hq).1]
            rw [hj2] at hu
            exact e1.symm.trans hu
          · have hj2 : j = j / 2 * 2 + 1 := by omega
            rw [hj2, (hxs _ hq).2.1]
            rw [hj2] at hu
            exact e2.symm.trans hu
    · obtain ⟨i, hil, rfl⟩ := List.mem_iff_getElem.1 hx
      exact ⟨(hxs i hil).2.2.1, (hxs i hil).2.2.2⟩
end
end Go.Proofs.YtnmfmcmokdoieaaGreatDoor
