/- Arguments of a law, opened: slices of bytes. No conditions beyond the row's own reach. -/
import Derived.Test.YtnmfmcmokdoieaaGreatDoorOpen
import Derived.Test.YtnmfmcmokdoieaaGreatDoorBytes
set_option linter.unusedVariables false
set_option linter.unusedSimpArgs false
namespace Go.Proofs.YtnmfmcmokdoieaaGreatDoor
open Go.ChangeShapes Go.WideShapes Go.ChangeAt Go.RowKit Go.Deep Go.Joins
section
variable {H : Type} {enc : TypeId × Value → H} {P : Program}
theorem open_byts' {W : World} {fuel : Nat} {t e : TypeId} {a0 : Option Addr} {len0 cap0 : Nat} {x : DataW H × List MemPlace} (ht : P.underlying t = some (.slice e)) (he : P.underlying e = some (.int .u8)) (hc : P.cellsOf e = 1) (hby : P.bytesOf e = 1)
    (hf : DataW.trod enc P W 0 (fun _ => true) true fuel t [.slice a0 len0 cap0] = some x) (hz : ∀ n ∈ x.1.weights P t, n ≤ reachBytes) :
    ∃ l, Byts W (.slice a0 len0 cap0) l ∧ l.length ≤ 140737488355328 := by
  rcases open_slice ht hf with ⟨hcs, hx⟩ | ⟨a, len, cap, m, n, D, Pl, hcs, _, hl, hm, hmm, hx, hi⟩
  · simp at hcs
    obtain ⟨rfl, rfl, rfl⟩ := hcs
    exact ⟨[], Byts.nil _, by simp⟩
  · simp at hcs
    obtain ⟨rfl, rfl, rfl⟩ := hcs
    simp only [if_true] at hmm
    subst hmm
    subst hx
    have hlen : (len0 + (m - len0)) * 1 ≤ reachBytes := hz _ (by
      simp only [DataW.weights, ht, List.length_map, List.length_range, hby, List.mem_cons, List.mem_append]
      exact .inl trivial)
    unfold reachBytes at hlen
    obtain ⟨xs, hxl, hxs⟩ := list_of (R := fun i x => W.cell? (a.add i) = some (byt x)) len0 (fun i hil => by
      obtain ⟨cs', hcc, htt⟩ := hi i (by omega)
      obtain ⟨k, rfl, hds, hwf⟩ := DataW.trod_int he htt
      rw [hc] at hcc
      have hcell := (World.cells?_some hcc).2.2 0 (by omega)
      rw [Nat.mul_one] at hcell
      have e0 : (a.add i).add 0 = a.add i := by simp [Addr.add]
      rw [e0] at hcell
      have hb := bounds_u8 hwf
      refine ⟨UInt8.ofNat k.toNat, ?_⟩
      rw [hcell]
      simp only [List.getElem?_cons_zero, byt, Option.some.injEq, Value.int.injEq, true_and]
      rw [UInt8.toNat_ofNat']
      omega)
    subst hxl
    refine ⟨xs, ?_, by omega⟩
    refine ⟨_, _, rfl, hl, by omega, ?_⟩
    rcases Nat.eq_zero_or_pos xs.length with h0 | h0
    · left; rw [List.eq_nil_of_length_eq_zero h0]; rfl
    · right
      have ha := hxs 0 h0
      have e0 : a.add 0 = a := by simp [Addr.add]
      rw [e0] at ha
      have hae := add_none ha
      refine ⟨a.block, a.off, by rw [← hae], ?_, fun j u hu => ?_⟩
      · rcases Nat.lt_or_ge a.block W.heap.size with h | h
        · exact h
        · simp [World.cell?, Array.getElem?_eq_none h] at ha
      · rw [← add_at, ← hae]
        have hj : j < xs.length := by
          have := (List.getElem?_eq_some_iff.1 hu).1; simpa using this
        rw [hxs j hj]
        simp [List.getElem?_eq_getElem hj] at hu
        rw [← hu]
/-- a slice of bytes -/
theorem open_byts {W : World} {b0 : Nat} {t e : TypeId} {v : Value} {d : DataW H} {ps : List MemPlace} (ht : P.underlying t = some (.slice e)) (he : P.underlying e = some (.int .u8)) (hc : P.cellsOf e = 1) (hby : P.bytesOf e = 1)
    (hval : Value.okWide P W .any b0 t v) (hd : DataW.Trod enc P W 0 (fun _ => true) true t v d ps) (hz : ∀ n ∈ d.weights P t, n ≤ reachBytes) :
    ∃ l, Byts W v l ∧ l.length ≤ 140737488355328 := by
  obtain ⟨a0, len0, cap0, rfl⟩ := okWide_slice ht hval
  obtain ⟨fuel, hf⟩ := hd
  exact open_byts' ht he hc hby hf hz
/-- a list of fields, out of a struct -/
theorem open_flds' {W : World} {fuel : Nat} {t e : TypeId} {f0 f1 : Field} {v : Value} {x : DataW H × List MemPlace} (ht : P.underlying t = some (.slice e)) (hs : P.underlying e = some (.struct #[f0, f1])) (hone : oneCellFields P #[f0, f1] = true) (hc : P.cellsOf e = 2) (hby : P.bytesOf e = 32)
    (h0 : P.underlying f0.type = some .string) (h1 : P.underlying f1.type = some .string)
    (hf : DataW.trod enc P W 0 (fun _ => true) true fuel t [v] = some x) (hz : ∀ n ∈ x.1.weights P t, n ≤ reachBytes) :
    ∃ xs, Flds W v xs ∧ Short2 xs ∧ xs.length ≤ 140737488355328 := by
  obtain ⟨o0, k0⟩ := hone_of hone 0 f0 rfl
  obtain ⟨o1, k1⟩ := hone_of hone 1 f1 rfl
  rcases open_slice ht hf with ⟨hcs, hx⟩ | ⟨a, len, cap, m, n, D, Pl, hcs, _, hl, hm, hmm, hx, hi⟩
  · simp only [List.cons.injEq, and_true] at hcs
    subst hcs
    exact ⟨[], ⟨none, 0, rfl, Nat.le_refl _, by simp, .inl rfl⟩, fun x hx => by simp at hx, by simp⟩
  · simp only [List.cons.injEq, and_true] at hcs
    subst hcs
    simp only [if_true] at hmm
    subst hmm
    subst hx
    have hw : ∀ n, n ∈ (len + (m - len)) * 32 :: (DataW.weightsAll P e ((List.range len).map D)) → n ≤ reachBytes := fun n hn => hz n (by
      simp only [DataW.weights, ht, List.length_map, List.length_range, hby, List.mem_cons, List.mem_append] at hn ⊢
      rcases hn with h | h
      · exact .inl h
      · exact .inr (.inl h))
    obtain ⟨xs, hxl, hxs⟩ := list_of (R := fun i (x : List UInt8 × List UInt8) => W.cell? (a.add (i * 2)) = some (str x.1) ∧ W.cell? (a.add (i * 2 + 1)) = some (str x.2) ∧ x.1.length ≤ 140737488355328 ∧ x.2.length ≤ 140737488355328) len (fun i hil => by
      obtain ⟨cs', hcc, htt⟩ := hi i (by omega)
      rw [hc] at hcc
      obtain ⟨_, hcl, hat⟩ := World.cells?_some hcc
      obtain ⟨ys, n', _, hy, _, hyl, hff⟩ := DataW.trod_struct hs htt
      have g0 := hff 0 f0 rfl
      have g1 := hff 1 f1 rfl
      rw [o0, k0] at g0
      rw [o1, k1] at g1
      match cs', hcl with
      | [c0, c1], _ =>
        match ys, hyl with
        | [y0, y1], _ =>
          simp only [List.drop_zero, List.take_succ_cons, List.take_zero, List.getElem?_cons_zero, List.drop_succ_cons, List.getElem?_cons_succ] at g0 g1
          obtain ⟨s0, e0, rfl, _⟩ := DataW.trod_string h0 g0
          obtain ⟨s1, e1, rfl, _⟩ := DataW.trod_string h1 g1
          simp only [List.cons.injEq, and_true] at e0 e1
          subst e0 e1
          have q0 := hat 0 (by omega)
          have q1 := hat 1 (by omega)
          rw [show (a.add (i * 2)).add 0 = a.add (i * 2) from by simp [Addr.add]] at q0
          rw [Go.Deep.add_add] at q1
          simp only [List.map_cons, List.map_nil, Prod.mk.injEq] at hy
          refine ⟨(s0.data.toList, s1.data.toList), by rw [q0, ← ba_eta]; rfl, by rw [q1, ← ba_eta]; rfl, reach_le (hw _ (List.mem_cons_of_mem _ (weightsAll_mem (d := D i) (List.mem_map.2 ⟨i, List.mem_range.2 hil, rfl⟩) ?_))), reach_le (hw _ (List.mem_cons_of_mem _ (weightsAll_mem (d := D i) (List.mem_map.2 ⟨i, List.mem_range.2 hil, rfl⟩) ?_)))⟩ <;> (rw [hy.1]; simp [DataW.weights, hs, DataW.weightsEach]))
    have hlen := hw _ (List.mem_cons_self ..)
    unfold reachBytes at hlen
    subst hxl
    refine ⟨xs, ?_, fun x hx => ?_, by omega⟩
    · refine ⟨_, _, rfl, hl, by omega, ?_⟩
      rcases Nat.eq_zero_or_pos xs.length with h0 | h0
      · left; rw [List.eq_nil_of_length_eq_zero h0]; rfl
      · right
        have ha := (hxs 0 h0).1
        have e0 : a.add (0 * 2) = a := by simp [Addr.add]
        rw [e0] at ha
        have hae := add_none ha
        refine ⟨a.block, a.off, by rw [← hae], ?_, fun j u hu => ?_⟩
        · rcases Nat.lt_or_ge a.block W.heap.size with h | h
          · exact h
          · simp [World.cell?, Array.getElem?_eq_none h] at ha
        · rw [← add_at, ← hae]
          have hj : j < xs.length * 2 := by
            have := (List.getElem?_eq_some_iff.1 hu).1; rw [flat2_len] at this; exact this
          have hq : j / 2 < xs.length := by omega
          obtain ⟨e1, e2⟩ := flat2_at xs (j / 2) hq
          rcases Nat.mod_two_eq_zero_or_one j with hm2 | hm2
          · have hj2 : j = j / 2 * 2 := by omega
            rw [hj2, (hxs _ hq).1]
            rw [hj2] at hu
            exact e1.symm.trans hu
          · have hj2 : j = j / 2 * 2 + 1 := by omega
            rw [hj2, (hxs _ hq).2.1]
            rw [hj2] at hu
            exact e2.symm.trans hu
    · obtain ⟨i, hil, rfl⟩ := List.mem_iff_getElem.1 hx
      exact ⟨(hxs i hil).2.2.1, (hxs i hil).2.2.2⟩
/-- a head -/
theorem open_head {W : World} {b0 : Nat} {t : TypeId} {f0 f1 f2 f3 g0 g1 : Field} {tf e : TypeId} {v : Value} {d : DataW H} {ps : List MemPlace} (hs : P.underlying t = some (.struct #[f0, f1, f2, f3])) (hone : oneCellFields P #[f0, f1, f2, f3] = true) (hC : P.cellsOf t = 4)
    (h0 : P.underlying f0.type = some .string) (h1 : P.underlying f1.type = some .string) (h2 : P.underlying f2.type = some (.int .i64)) (h3 : f3.type = tf) (ht : P.underlying tf = some (.slice e)) (he : P.underlying e = some (.struct #[g0, g1])) (hone2 : oneCellFields P #[g0, g1] = true) (hc2 : P.cellsOf e = 2) (hby : P.bytesOf e = 32)
    (k0 : P.underlying g0.type = some .string) (k1 : P.underlying g1.type = some .string)
    (hval : Value.okWide P W .any b0 t v) (hd : DataW.Trod enc P W 0 (fun _ => true) true t v d ps) (hz : ∀ n ∈ d.weights P t, n ≤ reachBytes) :
    ∃ (m o : List UInt8) (st : Int) (A : Option Addr) (c : Nat) (fs : List (List UInt8 × List UInt8)), v = .agg #[str m, str o, .int .i64 st, .slice A fs.length c] ∧ Flds W (.slice A fs.length c) fs ∧ Short2 fs ∧ m.length ≤ 140737488355328 ∧ o.length ≤ 140737488355328 ∧ (Lit.int .i64 st).wf = true := by
  obtain ⟨v0, v1, v2, v3, y0, y1, y2, y3, n, rfl, rfl, _, hy0, hy1, hy2, hy3⟩ := open_agg4 hs hone hC hval hd
  obtain ⟨s0, e0, rfl, _⟩ := DataW.trod_string h0 hy0
  obtain ⟨s1, e1, rfl, _⟩ := DataW.trod_string h1 hy1
  obtain ⟨st, e2, rfl, hwf⟩ := DataW.trod_int h2 hy2
  rw [h3] at hy3
  obtain ⟨fs, hfl, hsh, _⟩ := open_flds' ht he hone2 hc2 hby k0 k1 hy3 (fun n hn => hz n (by simp [DataW.weights, hs, DataW.weightsEach, h3, hn]))
  obtain ⟨A, c, rfl, _⟩ := id hfl
  simp only [List.cons.injEq, and_true] at e0 e1 e2
  subst e0 e1 e2
  refine ⟨s0.data.toList, s1.data.toList, st, A, c, fs, by rw [← ba_eta, ← ba_eta], hfl, hsh, reach_le (hz _ ?_), reach_le (hz _ ?_), hwf⟩ <;> simp [DataW.weights, hs, DataW.weightsEach]
end
end Go.Proofs.YtnmfmcmokdoieaaGreatDoor
