/- Layer 39's small functions: which numbers are sizes, how a node may work, numbers of up to 18 digits, sizes. No conditions but those that each theorem names. -/
import Derived.Test.YtghopokdfjcjlaaDoorShelf
import Derived.Test.YtghopokdfjcjlaaDoorJConfL
import Derived.Test.YtghopokdfjcjlaaDoorOwn
namespace Go.Proofs.YtghopokdfjcjlaaDoor
open Go.RowKit
def cfgV (c : Cfg) : Value := .agg #[.int .i64 c.u, .int .i64 c.wa, .int .i64 c.mo, .int .i64 c.sp, .int .i64 c.re, .int .i64 c.rt, .int .i64 c.li, .int .i64 c.bu, .int .i64 c.sh, .int .i64 c.ch]
def tenV (c : Cfg) : Value := .agg #[.int .i64 c.u, .int .i64 c.wa, .int .i64 c.mo, .int .i64 c.sp, .int .i64 c.re, .int .i64 c.rt, .int .i64 c.li, .int .i64 c.bu, .int .i64 c.sh, .int .i64 c.ch]
set_option maxHeartbeats 2000000 in
theorem c_sized_any (i : Nat) (w : World) : Calls Tryd.prog 30 #[.int .i64 i] w fun e w' => e = .returned (.bool (sizedI i)) ∧ w' = w := by
  have HS := Lib.hid (show sizedI i = (decide (i < 3) || decide (5 < i)) from rfl)
  by_cases h1 : i < 3
  · have k1 : decide ((i : Int) < 3) = true := decide_eq_true (by omega)
    go_enter Tryd.func30, Tryd.ntmps30
    go_wp2_with fail
    go_ret
    exact ⟨by rw [HS.out]; simp [h1], rfl⟩
  · have k1 : decide ((i : Int) < 3) = false := decide_eq_false (by omega)
    go_enter Tryd.func30, Tryd.ntmps30
    go_wp2_with fail
    go_ret
    refine ⟨?_, rfl⟩
    rw [HS.out, decide_eq_false h1, Bool.false_or]
    show Ending.returned (Value.bool (decide (5 < (i : Int)))) = _
    congr 2
    rw [decide_eq_decide]; omega
set_option maxHeartbeats 2000000 in
theorem c_in_any (n a b : Int) (w : World) : Calls Tryd.prog 21 #[.int .i64 n, .int .i64 a, .int .i64 b] w fun e w' => e = .returned (.bool (inB n a b)) ∧ w' = w := by
  have HS := Lib.hid (show inB n a b = (decide (a ≤ n) && decide (n ≤ b)) from rfl)
  by_cases h1 : a ≤ n
  · have k1 : decide (a ≤ n) = true := decide_eq_true h1
    go_enter Tryd.func21, Tryd.ntmps21
    go_wp2_with fail
    go_ret
    exact ⟨by rw [HS.out]; simp [h1], rfl⟩
  · have k1 : decide (a ≤ n) = false := decide_eq_false h1
    go_enter Tryd.func21, Tryd.ntmps21
    go_wp2_with fail
    go_ret
    exact ⟨by rw [HS.out, k1]; rfl, rfl⟩
set_option maxHeartbeats 2000000 in
theorem c_numbers_any (c : Cfg) (w : World) : Calls Tryd.prog 28 #[cfgV c] w fun e w' => e = .returned (tenV c) ∧ Gr w w' := by
  unfold cfgV tenV
  go_enter Tryd.func28, Tryd.ntmps28
  go_wp2_with fail
  refine bodyPost_ret (v := Value.agg #[.int .i64 c.u, .int .i64 c.wa, .int .i64 c.mo, .int .i64 c.sp, .int .i64 c.re, .int .i64 c.rt, .int .i64 c.li, .int .i64 c.bu, .int .i64 c.sh, .int .i64 c.ch]) (by simp [results, Tryd.results28, go_sem]) rfl ?_
  exact ⟨rfl, Gr.al (Gr.al (Gr.refl w) _) _⟩
set_option maxHeartbeats 2000000 in
theorem c_default_any (w : World) : Calls Tryd.prog 11 #[] w fun e w' => e = .returned (cfgV Cfg.dflt) ∧ Gr w w' := by
  unfold cfgV Cfg.dflt
  go_enter Tryd.func11, Tryd.ntmps11
  go_wp2_with fail
  refine bodyPost_ret (v := Value.agg #[.int .i64 65536, .int .i64 131072, .int .i64 8388608, .int .i64 16, .int .i64 2, .int .i64 2, .int .i64 262144, .int .i64 1073741824, .int .i64 536870912, .int .i64 32768]) (by simp [results, Tryd.results11, go_sem]) rfl ?_
  exact ⟨rfl, Gr.al (Gr.refl w) _⟩
set_option maxHeartbeats 2000000 in
theorem c_of_any (c : Cfg) (w : World) : Calls Tryd.prog 38 #[tenV c] w fun e w' => e = .returned (cfgV c) ∧ Gr w w' := by
  unfold cfgV tenV
  go_enter Tryd.func38, Tryd.ntmps38
  go_wp2_with fail
  refine bodyPost_ret (v := Value.agg #[.int .i64 c.u, .int .i64 c.wa, .int .i64 c.mo, .int .i64 c.sp, .int .i64 c.re, .int .i64 c.rt, .int .i64 c.li, .int .i64 c.bu, .int .i64 c.sh, .int .i64 c.ch]) (by simp [results, Tryd.results38, go_sem]) rfl ?_
  exact ⟨rfl, Gr.al (Gr.al (Gr.refl w) _) _⟩

theorem bits_and_i64 (a b : Nat) (ha : a < 9223372036854775808) (hb : b < 9223372036854775808) : bits .and .i64 (a : Int) (b : Int) = ((a &&& b : Nat) : Int) := by
  have hx : a &&& b < 2 ^ 63 := Nat.and_lt_two_pow _ (by omega)
  have h1 : (BitVec.ofInt 64 (a : Int)).toNat = a := by
    rw [BitVec.ofInt_natCast, BitVec.toNat_ofNat]; exact Nat.mod_eq_of_lt (by omega)
  have h2 : (BitVec.ofInt 64 (b : Int)).toNat = b := by
    rw [BitVec.ofInt_natCast, BitVec.toNat_ofNat]; exact Nat.mod_eq_of_lt (by omega)
  show IntKind.i64.wrap ((BitVec.ofInt 64 (a : Int) &&& BitVec.ofInt 64 (b : Int)).toNat : Int) = _
  rw [BitVec.toNat_and, h1, h2, IntKind.wrap_i64]
  omega
theorem and_pow (u : Int) (h : inB u 4 1048576 = true) : (bits .and .i64 u (wrap64 (u - 1)) = 0) ↔ powB u = true := by
  simp only [inB, Bool.and_eq_true, decide_eq_true_eq] at h
  obtain ⟨n, rfl⟩ : ∃ n : Nat, u = n := ⟨u.toNat, by omega⟩
  rw [IntWalk.wrap64_in _ (by omega), show (n : Int) - 1 = ((n - 1 : Nat) : Int) from by omega, bits_and_i64 _ _ (by omega) (by omega), ← pow_and n (by omega) (by omega)]
  omega
end Go.Proofs.YtghopokdfjcjlaaDoor
