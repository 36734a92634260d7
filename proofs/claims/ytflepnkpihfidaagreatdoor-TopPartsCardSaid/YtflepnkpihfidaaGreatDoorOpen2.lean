/- Arguments of a law, opened: slices of bytes. No conditions beyond the row's own reach. -/
import Derived.Test.YtflepnkpihfidaaGreatDoorJRow
import Derived.Test.YtflepnkpihfidaaGreatDoorJBytes
set_option linter.unusedVariables false
set_option linter.unusedSimpArgs false
namespace Go.Proofs.YtflepnkpihfidaaGreatDoor
open Go.ChangeShapes Go.WideShapes Go.ChangeAt Go.RowKit Go.Deep Go.Joins
section
variable {H : Type} {enc : TypeId × Value → H} {P : Program}
theorem open_byts' {W : World} {fuel : Nat} {t e : TypeId} {a0 : Option Addr} {len0 cap0 : Nat} {x : DataW H × List MemPlace} (ht : P.underlying t = some (.slice e)) (he : P.underlying e = some (.int .u8)) (hc : P.cellsOf e = 1) (hby : P.bytesOf e = 1)
    (hf : DataW.trod enc P W 0 (fun _ => true) true fuel t [.slice a0 len0 cap0] = some x) (hz : ∀ n ∈ x.1.weights P t, n ≤ reachBytes) :
    ∃ l, Byts W (.slice a0 len0 cap0) l ∧ l.length ≤ 140737488355328 := by
  rcases open_slice ht hf with ⟨hcs, hx⟩ | ⟨a, len, cap, m, n, D, Pl, hcs, _, hl, hm, hmm, hx, hi⟩
  · simp at hcs
    obtain ⟨rfl, rfl, rfl⟩ := hcs
    exact ⟨[], Byts.nil _, by simp⟩
  · simp at hcs
    obtain ⟨rfl, rfl, rfl⟩ := hcs
    simp only [if_true] at hmm
    subst hmm
    subst hx
    have hlen : (len0 + (m - len0)) * 1 ≤ reachBytes := hz _ (by
      simp only [DataW.weights, ht, List.length_map, List.length_range, hby, List.mem_cons, List.mem_append]
      exact .inl trivial)
    unfold reachBytes at hlen
    obtain ⟨xs, hxl, hxs⟩ := list_of (R := fun i x => W.cell? (a.add i) = some (byt x)) len0 (fun i hil => by
      obtain ⟨cs', hcc, htt⟩ := hi i (by omega)
      obtain ⟨k, rfl, hds, hwf⟩ := DataW.trod_int he htt
      rw [hc] at hcc
      have hcell := (World.cells?_some hcc).2.2 0 (by omega)
      rw [Nat.mul_one] at hcell
      have e0 : (a.add i).add 0 = a.add i := by simp [Addr.add]
      rw [e0] at hcell
      have hb := bounds_u8 hwf
      refine ⟨UInt8.ofNat k.toNat, ?_⟩
      rw [hcell]
      simp only [List.getElem?_cons_zero, byt, Option.some.injEq, Value.int.injEq, true_and]
      rw [UInt8.toNat_ofNat']
      omega)
    subst hxl
    refine ⟨xs, ?_, by omega⟩
    refine ⟨_, _, rfl, hl, by omega, ?_⟩
    rcases Nat.eq_zero_or_pos xs.length with h0 | h0
    · left; rw [List.eq_nil_of_length_eq_zero h0]; rfl
    · right
      have ha := hxs 0 h0
      have e0 : a.add 0 = a := by simp [Addr.add]
      rw [e0] at ha
      have hae := add_none ha
      refine ⟨a.block, a.off, by rw [← hae], ?_, fun j u hu => ?_⟩
      · rcases Nat.lt_or_ge a.block W.heap.size with h | h
        · exact h
        · simp [World.cell?, Array.getElem?_eq_none h] at ha
      · rw [← add_at, ← hae]
        have hj : j < xs.length := by
          have := (List.getElem?_eq_some_iff.1 hu).1; simpa using this
        rw [hxs j hj]
        simp [List.getElem?_eq_getElem hj] at hu
        rw [← hu]
/-- a slice of bytes -/
theorem open_byts {W : World} {b0 : Nat} {t e : TypeId} {v : Value} {d : DataW H} {ps : List MemPlace} (ht : P.underlying t = some (.slice e)) (he : P.underlying e = some (.int .u8)) (hc : P.cellsOf e = 1) (hby : P.bytesOf e = 1)
    (hval : Value.okWide P W .any b0 t v) (hd : DataW.Trod enc P W 0 (fun _ => true) true t v d ps) (hz : ∀ n ∈ d.weights P t, n ≤ reachBytes) :
    ∃ l, Byts W v l ∧ l.length ≤ 140737488355328 := by
  obtain ⟨a0, len0, cap0, rfl⟩ := okWide_slice ht hval
  obtain ⟨fuel, hf⟩ := hd
  exact open_byts' ht he hc hby hf hz
end
end Go.Proofs.YtflepnkpihfidaaGreatDoor
