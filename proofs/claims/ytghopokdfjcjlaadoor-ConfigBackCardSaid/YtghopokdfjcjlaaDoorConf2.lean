/- Layer 39: a number of up to 18 digits; a size, kindly read. No conditions. -/
import Derived.Test.YtghopokdfjcjlaaDoorConf1
import Derived.Test.YtghopokdfjcjlaaDoorField1
namespace Go.Proofs.YtghopokdfjcjlaaDoor
open Go.RowKit
/-- what number and loose hand back -/
def optV (o : Option Nat) : Value := .tuple #[.int .i64 ((o.getD 0 : Nat) : Int), .bool o.isSome]
theorem numberL_no {s : List UInt8} {k : Nat} (hk : k < s.length) (h : digC s[k] = false) : numberL s = none := by
  unfold numberL
  rw [if_neg]
  rintro ⟨_, _, h3⟩
  have := List.all_eq_true.1 h3 s[k] (List.getElem_mem hk)
  rw [h] at this; cases this
theorem pow18 (k : Nat) (h : k ≤ 17) : (10 : Nat) ^ k ≤ 100000000000000000 := by
  have : (10 : Nat) ^ k ≤ 10 ^ 17 := Nat.pow_le_pow_right (by omega) h
  simpa using this
set_option maxHeartbeats 4000000 in
theorem c_number_any (s : List UInt8) (w : World) : Calls Tryd.prog 40 #[str s] w fun e w' => e = .returned (optV (numberL s)) ∧ w' = w := by
  by_cases h1 : s.length < 1
  · have hn : numberL s = none := by unfold numberL; rw [if_neg (by omega)]
    have k1 : decide ((s.length : Int) < 1) = true := decide_eq_true (by omega)
    go_enter Tryd.func40, Tryd.ntmps40
    go_wp2_with fail
    go_ret2
    exact ⟨by rw [hn]; rfl, rfl⟩
  · have k1 : decide ((s.length : Int) < 1) = false := decide_eq_false (by omega)
    by_cases h2 : 18 < s.length
    · have hn : numberL s = none := by unfold numberL; rw [if_neg (by omega)]
      have k2 : decide (18 < (s.length : Int)) = true := decide_eq_true (by omega)
      go_enter Tryd.func40, Tryd.ntmps40
      go_wp2_with fail
      go_ret2
      exact ⟨by rw [hn]; rfl, rfl⟩
    · have k2 : decide (18 < (s.length : Int)) = false := decide_eq_false (by omega)
      go_enter Tryd.func40, Tryd.ntmps40
      go_upto_region 5 with fail
      go_loop [2, 3, 4, 5, 16] (fun x2 x3 n x5 i => ∃ k : Nat, k ≤ s.length ∧ i = .int .i64 k ∧ n = .int .i64 (numB (s.take k) : Nat) ∧ (s.take k).all digC = true) (fun _ _ _ _ i => s.length - (intOf i).toNat)
      case atStart => exact ⟨0, Nat.zero_le _, rfl, rfl, rfl⟩
      case round =>
        obtain ⟨k, hk, rfl, rfl, hE⟩ := hrel
        have HE := Lib.hid hE
        by_cases hlt : k < s.length
        · have hb := numB_lt (s.take k) hE
          rw [List.length_take, Nat.min_eq_left hk] at hb
          have hp := pow18 k (by omega)
          have HS := Lib.hid (numB_succ s k hlt)
          clear hE
          have hx : s[k].toNat ≤ 255 := by have := s[k].toNat_lt; omega
          by_cases c1 : s[k].toNat < 48
          · have HN := Lib.hid (numberL_no hlt (digC_no s[k] (by omega)))
            have ddlt48 : decide (((s[k].toNat : Nat) : Int) < 48) = true := decide_eq_true (by omega)
            have ddgt57 : decide (57 < ((s[k].toNat : Nat) : Int)) = false := decide_eq_false (by omega)
            go_wp2_with fail
            go_ret2
            exact ⟨by rw [HN.out]; rfl, rfl⟩
          · by_cases c2 : 57 < s[k].toNat
            · have HN := Lib.hid (numberL_no hlt (digC_no s[k] (by omega)))
              have ddlt48 : decide (((s[k].toNat : Nat) : Int) < 48) = false := decide_eq_false (by omega)
              have ddgt57 : decide (57 < ((s[k].toNat : Nat) : Int)) = true := decide_eq_true (by omega)
              go_wp2_with fail
              go_ret2
              exact ⟨by rw [HN.out]; rfl, rfl⟩
            · have HD := Lib.hid (digC_yes s[k] (by omega))
              have ddlt48 : decide (((s[k].toNat : Nat) : Int) < 48) = false := decide_eq_false (by omega)
              have ddgt57 : decide (57 < ((s[k].toNat : Nat) : Int)) = false := decide_eq_false (by omega)
              generalize numB (s.take k) = N at *
              have e1 : IntKind.i64.wrap ((N : Int) * 10) = (N : Int) * 10 := IntWalk.i64_in _ (by omega)
              have e2 : IntKind.u8.wrap ((s[k].toNat : Int) - 48) = (s[k].toNat : Int) - 48 := by rw [IntKind.wrap_u8]; omega
              have e3 : IntKind.i64.wrap ((N : Int) * 10 + ((s[k].toNat : Int) - 48)) = (N : Int) * 10 + ((s[k].toNat : Int) - 48) := IntWalk.i64_in _ (by omega)
              go_wp2_with fail
              exact ⟨⟨k + 1, by omega, by go_num, by rw [HS.out]; go_num, all_take_succ _ s k hlt HE.out HD.out⟩, by simp [intOf]; omega⟩
        · obtain rfl : k = s.length := by omega
          rw [List.take_length] at hE HE ⊢
          have HN := Lib.hid (show numberL s = some (numB s) from by unfold numberL; rw [if_pos ⟨by omega, by omega, hE⟩])
          clear hE
          go_wp2_with fail
          go_ret2
          exact ⟨by rw [HN.out]; rfl, rfl⟩
end Go.Proofs.YtghopokdfjcjlaaDoor
