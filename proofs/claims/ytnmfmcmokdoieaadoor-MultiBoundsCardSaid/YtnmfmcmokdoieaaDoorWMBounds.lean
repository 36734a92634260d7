/- Layer 11's law on boundaries: the walk. Conditions: the library's own variables hold what their types allow, its table what it holds. -/
import Derived.Test.YtnmfmcmokdoieaaDoorMulti12
import Derived.Test.YtnmfmcmokdoieaaDoorMulti19
set_option linter.unusedVariables false
set_option linter.unusedSimpArgs false
namespace Go.Proofs.YtnmfmcmokdoieaaDoor.lmbounds
open Go.RowKit
set_option maxHeartbeats 8000000 in
set_option maxRecDepth 100000 in
theorem walk (n m : Int) (w : World) (hv : Vars w) (hz : Tz w) (hn : -9223372036854775808 ≤ n ∧ n ≤ 9223372036854775807) (hm : -9223372036854775808 ≤ m ∧ m ≤ 9223372036854775807) :
    Calls Tryd.prog 6 #[.int .i64 n, .int .i64 m] w fun e w' => e = .returned (.bool true) ∧ Gr w w' := by
  have HZ := Lib.hid (fun (x : World) (h : Gr w x) => hz.gr h); clear hz
  have HAL := Lib.hid (alive11_any w hv)
  clear hv
  have HB := Lib.hid (fun (x : World) (h : Gr w x) => boundary_any n x (HZ.out x h))
  have HR := Lib.hid (fun (x : World) => refBoundary_any n x hn)
  have HB' := Lib.hid (fun (x : World) (h : Gr w x) => boundary_any m x (HZ.out x h))
  have HR' := Lib.hid (fun (x : World) => refBoundary_any m x hm)
  have hE : (boundN n == boundN m) = (n == m) := by
    by_cases h : n = m
    · subst h; simp
    · have h' : boundN n ≠ boundN m := fun e => h (boundN_inj hn hm e)
      rw [beq_false_of_ne h, beq_false_of_ne h']
  have HE := Lib.hid hE
  clear hE
  generalize boundN n = b at *
  generalize boundN m = c at *
  go_enter Tryd.func6, Tryd.ntmps6
  go_upto_region 3 with (go_at_call 7; refine HAL.out.mono ?_; rintro e w1 ⟨rfl, hG1⟩)
  clear HAL
  go_upto_region 4 with (go_at_call 19; first | (refine (HB'.out _ hG2).mono ?_; rintro e w3 ⟨rfl, hG3⟩; have hG3 := Gr.tr hG2 hG3) | (refine (HB.out _ hG1).mono ?_; rintro e w2 ⟨rfl, hG2⟩; have hG2 := Gr.tr hG1 hG2))
  go_wp2_with (go_at_call 20; first | ((with_reducible refine (HR.out _).mono ?_); rintro e w4 ⟨rfl, hG4⟩) | ((with_reducible refine (HR'.out _).mono ?_); rintro e w5 ⟨rfl, hG5⟩))
  go_ret
  rw [HE.out]
  exact ⟨by simp, Gr.tr (Gr.tr hG3 hG4) hG5⟩
end Go.Proofs.YtnmfmcmokdoieaaDoor.lmbounds
