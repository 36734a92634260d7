/- A head that is an argument, opened, with how many fields it may have. No conditions. -/
import Derived.Test.YtdmhjabnjbpliaaGreatDoorOpen2
set_option linter.unusedVariables false
set_option linter.unusedSimpArgs false
namespace Go.Proofs.YtdmhjabnjbpliaaGreatDoor
open Go.ChangeShapes Go.WideShapes Go.ChangeAt Go.RowKit Go.Deep Go.Joins
section
variable {H : Type} {enc : TypeId × Value → H} {P : Program}
theorem open_headN {W : World} {b0 : Nat} {t : TypeId} {f0 f1 f2 f3 g0 g1 : Field} {tf e : TypeId} {v : Value} {d : DataW H} {ps : List MemPlace} (hs : P.underlying t = some (.struct #[f0, f1, f2, f3])) (hone : oneCellFields P #[f0, f1, f2, f3] = true) (hC : P.cellsOf t = 4)
    (h0 : P.underlying f0.type = some .string) (h1 : P.underlying f1.type = some .string) (h2 : P.underlying f2.type = some (.int .i64)) (h3 : f3.type = tf) (ht : P.underlying tf = some (.slice e)) (he : P.underlying e = some (.struct #[g0, g1])) (hone2 : oneCellFields P #[g0, g1] = true) (hc2 : P.cellsOf e = 2) (hby : P.bytesOf e = 32)
    (k0 : P.underlying g0.type = some .string) (k1 : P.underlying g1.type = some .string)
    (hval : Value.okWide P W .any b0 t v) (hd : DataW.Trod enc P W 0 (fun _ => true) true t v d ps) (hz : ∀ n ∈ d.weights P t, n ≤ reachBytes) :
    ∃ (m o : List UInt8) (st : Int) (A : Option Addr) (c : Nat) (fs : List (List UInt8 × List UInt8)), v = .agg #[str m, str o, .int .i64 st, .slice A fs.length c] ∧ Flds W (.slice A fs.length c) fs ∧ Short2 fs ∧ m.length ≤ 140737488355328 ∧ o.length ≤ 140737488355328 ∧ (Lit.int .i64 st).wf = true ∧ fs.length ≤ 140737488355328 := by
  obtain ⟨v0, v1, v2, v3, y0, y1, y2, y3, n, rfl, rfl, _, hy0, hy1, hy2, hy3⟩ := open_agg4 hs hone hC hval hd
  obtain ⟨s0, e0, rfl, _⟩ := DataW.trod_string h0 hy0
  obtain ⟨s1, e1, rfl, _⟩ := DataW.trod_string h1 hy1
  obtain ⟨st, e2, rfl, hwf⟩ := DataW.trod_int h2 hy2
  rw [h3] at hy3
  obtain ⟨fs, hfl, hsh, hnn⟩ := open_flds' ht he hone2 hc2 hby k0 k1 hy3 (fun n hn => hz n (by simp [DataW.weights, hs, DataW.weightsEach, h3, hn]))
  obtain ⟨A, c, rfl, _⟩ := id hfl
  simp only [List.cons.injEq, and_true] at e0 e1 e2
  subst e0 e1 e2
  refine ⟨s0.data.toList, s1.data.toList, st, A, c, fs, by rw [← ba_eta, ← ba_eta], hfl, hsh, reach_le (hz _ ?_), reach_le (hz _ ?_), hwf, hnn⟩ <;> simp [DataW.weights, hs, DataW.weightsEach]
end
end Go.Proofs.YtdmhjabnjbpliaaGreatDoor
