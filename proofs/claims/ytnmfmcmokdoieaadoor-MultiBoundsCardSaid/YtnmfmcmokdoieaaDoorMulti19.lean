/- Layer 11: the boundary of a number, by the program. Conditions: the library's table holds what it holds. -/
import Derived.Test.YtnmfmcmokdoieaaDoorMulti18
set_option linter.unusedVariables false
set_option linter.unusedSimpArgs false
namespace Go.Proofs.YtnmfmcmokdoieaaDoor
open Go.RowKit
set_option maxHeartbeats 4000000 in
theorem formatUintI_16 (n : Nat) (w : World) (hn : n < 18446744073709551616) (hz : Tz w) : Calls Tryd.prog 49 #[.int .u64 n, .int .i64 16] w fun e w' => e = .returned (str (hexT n)) ∧ Gr w w' := by
  go_enter Tryd.func49, Tryd.ntmps49
  go_wp2_with (go_at_call 59; refine (formatBits_str _ _ hn hz).mono ?_; rintro e w' ⟨rfl, hG⟩)
  go_ret
  exact ⟨rfl, hG⟩
theorem formatUint_16 (n : Nat) (w : World) (hn : n < 18446744073709551616) (hz : Tz w) : Calls Tryd.prog 38 #[.int .u64 n, .int .i64 16] w fun e w' => e = .returned (str (hexT n)) ∧ Gr w w' := by
  go_enter Tryd.func38, Tryd.ntmps38
  go_wp2_with (go_at_call 49; refine (formatUintI_16 _ _ hn hz).mono ?_; rintro e w' ⟨rfl, hG⟩)
  go_ret
  exact ⟨rfl, hG⟩
theorem andM (m : Nat) (h : m < 4294967296) : bits .and .u64 (m : Int) 4294967295 = (m : Int) := by
  have := u64_and_nat m 4294967295 (by omega) (by omega)
  rw [show (4294967295 : Nat) = 2 ^ 32 - 1 from rfl, Nat.and_two_pow_sub_one_eq_mod, Nat.mod_eq_of_lt (by omega)] at this
  exact this
theorem mul64_small (c : Nat) (w : World) (hc : c ≤ 100) : Calls Tryd.prog 77 #[.int .u64 1, .int .u64 c] w fun e w' => e = .returned (.tuple #[.int .u64 0, .int .u64 c]) ∧ w = w' := by
  have h0 : bits .and .u64 0 4294967295 = 0 := andM 0 (by omega)
  have h1 : bits .and .u64 1 4294967295 = 1 := andM 1 (by omega)
  have h2 := andM c (by omega)
  have h3 : (c : Int) / 4294967296 = 0 := by omega
  go_enter Tryd.func77, Tryd.ntmps77
  go_wp2_with fail
  go_ret2
  exact ⟨rfl, rfl⟩
theorem mul_small (c : Nat) (w : World) (hc : c ≤ 100) : Calls Tryd.prog 50 #[.int .u64 1, .int .u64 c] w fun e w' => e = .returned (.tuple #[.int .u64 0, .int .u64 c]) ∧ w = w' := by
  go_enter Tryd.func50, Tryd.ntmps50
  go_wp2_with (go_at_call 77; refine (mul64_small _ _ hc).mono ?_; rintro e w' ⟨rfl, rfl⟩)
  go_ret2
  exact ⟨rfl, rfl⟩
theorem hp_zero (s : ByteArray) (b : Bool) (hb : Lib.hasPrefix s.data.toList [48] = b) (w : World) : Calls Tryd.prog 51 #[.string s, str [48]] w fun e w' => e = .returned (.bool b) ∧ w = w' :=
  (Tryd.strings_HasPrefix s ⟨#[48]⟩ w).mono fun _ _ ⟨h1, h2⟩ => ⟨by rw [h1]; exact congrArg (fun b => Ending.returned (.bool b)) hb, h2.symm⟩
set_option maxHeartbeats 4000000 in
set_option maxRecDepth 100000 in
theorem repeat_zero (c : Nat) (w : World) (hc : c ≤ 15) : Calls Tryd.prog 39 #[str [48], .int .i64 c] w fun e w' => e = .returned (str (List.replicate c 48)) ∧ Gr w w' := by
  rcases (show c = 0 ∨ c = 1 ∨ 2 ≤ c by omega) with rfl | rfl | h2
  · go_enter Tryd.func39, Tryd.ntmps39
    go_wp2_with fail
    go_ret
    exact ⟨rfl, Gr.refl _⟩
  · go_enter Tryd.func39, Tryd.ntmps39
    go_wp2_with fail
    go_ret
    exact ⟨rfl, Gr.refl _⟩
  · have e0 : ((c : Int) == 0) = false := by simp; omega
    have e1 : ((c : Int) == 1) = false := by simp; omega
    go_enter Tryd.func39, Tryd.ntmps39
    go_wp2_with (first | (go_at_call 50; refine (mul_small _ _ (by omega)).mono ?_; rintro e w' ⟨rfl, rfl⟩) | (go_at_call 51; (first | refine (hp_zero _ false (by rfl) _).mono ?_ | refine (hp_zero _ true (by rfl) _).mono ?_); rintro e w' ⟨rfl, rfl⟩))
    go_ret
    refine ⟨?_, Gr.refl _⟩
    have ht : List.take c (List.replicate 64 (48 : UInt8)) = List.replicate c 48 := by rw [List.take_replicate, Nat.min_eq_left (by omega)]
    rw [← ht]
    rfl
set_option maxHeartbeats 4000000 in
theorem boundary_any (k : Int) (w : World) (hz : Tz w) : Calls Tryd.prog 19 #[.int .i64 k] w fun e w' => e = .returned (str (boundN k)) ∧ Gr w w' := by
  have hwr : IntKind.u64.wrap k = ((u64N k : Nat) : Int) := by unfold u64N; simp [IntKind.wrap, IntKind.bits, IntKind.signed]; omega
  have hn := u64N_lt k
  have hl := hexT_le _ hn
  have HP := Lib.hid (hexT_pad _ hn)
  have hB : boundN k = sliceN ++ (List.replicate (16 - (hexT (u64N k)).length) 48 ++ hexT (u64N k)) := by rw [← HP.out]; rfl
  have HB := Lib.hid hB
  clear hB HP
  generalize u64N k = n at *
  have hc : (16 : Int) - ((hexT n).length : Int) = ((16 - (hexT n).length : Nat) : Int) := by omega
  have HC := Lib.hid hc
  clear hc
  go_enter Tryd.func19, Tryd.ntmps19
  go_upto_region 2 with (go_at_call 38; refine (formatUint_16 _ _ hn hz).mono ?_; rintro e w1 ⟨rfl, hG1⟩)
  have HR := Lib.hid (fun w => repeat_zero (16 - (hexT n).length) w (by omega))
  rw [← HC.out] at HR
  generalize hexT n = t at *
  go_wp2_with (go_at_call 39; refine (HR.out _).mono ?_; rintro e w2 ⟨rfl, hG2⟩)
  go_ret
  refine ⟨?_, Gr.tr hG1 hG2⟩
  rw [HB.out]
  refine congrArg (fun b => Ending.returned (.string b)) ?_
  apply ByteArray.ext
  simp [sliceN]
end Go.Proofs.YtnmfmcmokdoieaaDoor
