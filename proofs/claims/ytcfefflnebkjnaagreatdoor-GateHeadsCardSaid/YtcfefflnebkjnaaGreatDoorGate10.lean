/- Layer 45: what an answer that is not too great keeps to. No conditions. -/
import Derived.Test.YtcfefflnebkjnaaGreatDoorGate7
import Derived.Test.YtcfefflnebkjnaaGreatDoorJGate3
set_option linter.unusedVariables false
set_option linter.unusedSimpArgs false
namespace Go.Proofs.YtcfefflnebkjnaaGreatDoor
theorem greatA_small {fs : List Fld} {ps : List PartT} {obj : List UInt8} (h : greatA fs ps obj = false) : fs.length ≤ 130 ∧ bulk2 fs ≤ 12000 ∧ ps.length ≤ 100 ∧ obj.length ≤ 1000 ∧ PartsLow obj ps := by
  obtain ⟨h1, h2, h3, h4⟩ := greatA_no h
  unfold great2 at h3
  simp only [Bool.or_eq_false_iff, decide_eq_false_iff_not] at h3
  exact ⟨by omega, by omega, by omega, by omega, fun p hp => by have := h4 p hp; omega⟩
end Go.Proofs.YtcfefflnebkjnaaGreatDoor
