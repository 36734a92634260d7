/- Layer 16's law: numbers in sixteens. A contract. No further conditions. -/
import Derived.Test.YtdmhjabnjbpliaaGreatDoorJChunk
set_option linter.unusedVariables false
set_option linter.unusedSimpArgs false
namespace Go.Proofs.YtdmhjabnjbpliaaGreatDoor
open Go.RowKit
set_option maxHeartbeats 2000000 in
theorem hex16_any (m : Nat) : ∀ (w : World), m ≤ 9223372036854775807 → Calls Tryz.prog 23 #[.int .i64 m] w fun e w' => e = .returned (str (hexT m)) ∧ Gr w w' := by
  induction m using Nat.strongRecOn with
  | _ m ih =>
    intro w hm
    have hlt := Nat.mod_lt m (show 16 > 0 by omega)
    by_cases h : m < 16
    · have k1 : decide ((m : Int) < 16) = true := decide_eq_true (by omega)
      have HS := Lib.hid (hexS h)
      have HD := Lib.hid (show hexT m = [hexD m] from by rw [hexT, if_pos h])
      go_enter Tryz.func23, Tryz.ntmps23
      go_wp2_with fail
      go_ret
      refine ⟨?_, Gr.refl _⟩
      rw [HD.out, ← HS.out]; rfl
    · have k1 : decide ((m : Int) < 16) = false := decide_eq_false (by omega)
      have HS1 := Lib.hid (hexS (Nat.mod_lt m (show 16 > 0 by omega)))
      have HI := Lib.hid (fun (w : World) => show Calls Tryz.prog 23 #[.int .i64 ((m : Int) / 16)] w fun e w' => e = .returned (str (hexT (m / 16))) ∧ Gr w w' from by
        rw [show (m : Int) / 16 = ((m / 16 : Nat) : Int) from by omega]
        exact ih (m / 16) (by omega) w (by omega))
      have HD := Lib.hid (show hexT m = hexT (m / 16) ++ [hexD (m % 16)] from by rw [hexT, if_neg h])
      have hl := (hexT_le (m / 16) (by omega)).2
      clear ih h
      go_enter Tryz.func23, Tryz.ntmps23
      go_upto_region 3 with fail
      refine wp_region_gw (by kernel_rfl) (by kernel_rfl) ?_
      repeat (first | go_big_quiet_step ((go_at_call 23; exact gw_call (HI.out _))) | quiet_step ((go_at_call 23; exact gw_call (HI.out _))))
      refine wpQuiet_nil ?_; intro wq hwq; obtain ⟨iq, rfl⟩ := hwq
      have hG1 := gw_gr w iq
      generalize gw w iq = wx at *
      go_wp2_with fail
      go_ret
      refine ⟨?_, hG1⟩
      rw [HD.out, ← HS1.out]; rfl
end Go.Proofs.YtdmhjabnjbpliaaGreatDoor
