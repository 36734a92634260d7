/- Layer 11: which texts may be boundaries and kinds; lines. Contracts; no conditions but that a text's length is an int's. -/
import Derived.Test.YtnmfmcmokdoieaaDoorMulti4
set_option linter.unusedVariables false
set_option linter.unusedSimpArgs false
namespace Go.Proofs.YtnmfmcmokdoieaaDoor
open Go.RowKit
theorem bound_len {l : List UInt8} (h : l.length < 1 ∨ 70 < l.length) : boundB l = false := by
  unfold boundB
  rcases h with h | h
  · rw [decide_eq_false (show ¬ 1 ≤ l.length by omega)]; simp
  · rw [decide_eq_false (show ¬ l.length ≤ 70 by omega)]; simp
theorem bound_no1 {l : List UInt8} (h : l.all letterC = false) : boundB l = false := by unfold boundB; rw [h]; rfl
theorem bound_yes {l : List UInt8} (h : l.all letterC = true) (h1 : 1 ≤ l.length) (h2 : l.length ≤ 70) : boundB l = true := by unfold boundB; rw [h, decide_eq_true h1, decide_eq_true h2]; rfl
set_option maxHeartbeats 4000000 in
theorem bounds_any (l : List UInt8) (w : World) (_hl : l.length ≤ 9223372036854775800) : Calls Tryd.prog 29 #[str l] w fun e w' => e = .returned (.bool (boundB l)) ∧ Gr w w' := by
  by_cases hs : l.length < 1
  · have d1 : decide ((l.length : Int) < 1) = true := decide_eq_true (by omega)
    go_enter Tryd.func29, Tryd.ntmps29
    go_wp2_with fail
    go_ret
    exact ⟨ret_bool (bound_len (by omega)).symm, Gr.refl _⟩
  have d1 : decide ((l.length : Int) < 1) = false := decide_eq_false (by omega)
  by_cases hs2 : 70 < l.length
  · have d2 : decide (70 < (l.length : Int)) = true := decide_eq_true (by omega)
    go_enter Tryd.func29, Tryd.ntmps29
    go_wp2_with fail
    go_ret
    exact ⟨ret_bool (bound_len (by omega)).symm, Gr.refl _⟩
  have d2 : decide (70 < (l.length : Int)) = false := decide_eq_false (by omega)
  go_enter Tryd.func29, Tryd.ntmps29
  go_wp2_with fail
  go_loopw [2, 3, 4, 15] (fun x0 x1 x2 i wr => ∃ k : Nat, k ≤ l.length ∧ i = .int .i64 k ∧ Gr w wr ∧ (l.take k).all letterC = true) (fun _ _ _ i _ => l.length - (intOf i).toNat)
  case atStart => exact ⟨0, Nat.zero_le _, rfl, Gr.refl _, rfl⟩
  case round =>
    obtain ⟨k, hk, rfl, hG, hE⟩ := hrel
    have HE := Lib.hid hE; clear hE
    by_cases hlt : k < l.length
    · have hx := l[k].toNat_lt
      rcases (show (48 ≤ l[k].toNat ∧ l[k].toNat ≤ 57) ∨ (65 ≤ l[k].toNat ∧ l[k].toNat ≤ 90) ∨ (97 ≤ l[k].toNat ∧ l[k].toNat ≤ 122) ∨ (0 ≤ l[k].toNat ∧ l[k].toNat ≤ 47) ∨ (58 ≤ l[k].toNat ∧ l[k].toNat ≤ 64) ∨ (91 ≤ l[k].toNat ∧ l[k].toNat ≤ 96) ∨ (123 ≤ l[k].toNat ∧ l[k].toNat ≤ 255) by omega) with ⟨h1, h2⟩ | ⟨h1, h2⟩ | ⟨h1, h2⟩ | ⟨h1, h2⟩ | ⟨h1, h2⟩ | ⟨h1, h2⟩ | ⟨h1, h2⟩
      · have ddlt48 : decide (((l[k].toNat : Nat) : Int) < 48) = false := decide_eq_false (by omega)
        have ddgt57 : decide (57 < ((l[k].toNat : Nat) : Int)) = false := decide_eq_false (by omega)
        have ddlt97 : decide (((l[k].toNat : Nat) : Int) < 97) = true := decide_eq_true (by omega)
        have ddgt122 : decide (122 < ((l[k].toNat : Nat) : Int)) = false := decide_eq_false (by omega)
        have ddlt65 : decide (((l[k].toNat : Nat) : Int) < 65) = true := decide_eq_true (by omega)
        have ddgt90 : decide (90 < ((l[k].toNat : Nat) : Int)) = false := decide_eq_false (by omega)
        have hc := Lib.hid (tokC_letter l[k] (by omega))
        clear hx
        go_wp2_with fail
        exact ⟨⟨k + 1, by omega, by go_num, hG, all_take_succ _ l k hlt HE.out hc.out⟩, by simp [intOf]; omega⟩
      · have ddlt48 : decide (((l[k].toNat : Nat) : Int) < 48) = false := decide_eq_false (by omega)
        have ddgt57 : decide (57 < ((l[k].toNat : Nat) : Int)) = true := decide_eq_true (by omega)
        have ddlt97 : decide (((l[k].toNat : Nat) : Int) < 97) = true := decide_eq_true (by omega)
        have ddgt122 : decide (122 < ((l[k].toNat : Nat) : Int)) = false := decide_eq_false (by omega)
        have ddlt65 : decide (((l[k].toNat : Nat) : Int) < 65) = false := decide_eq_false (by omega)
        have ddgt90 : decide (90 < ((l[k].toNat : Nat) : Int)) = false := decide_eq_false (by omega)
        have hc := Lib.hid (tokC_letter l[k] (by omega))
        clear hx
        go_wp2_with fail
        exact ⟨⟨k + 1, by omega, by go_num, hG, all_take_succ _ l k hlt HE.out hc.out⟩, by simp [intOf]; omega⟩
      · have ddlt48 : decide (((l[k].toNat : Nat) : Int) < 48) = false := decide_eq_false (by omega)
        have ddgt57 : decide (57 < ((l[k].toNat : Nat) : Int)) = true := decide_eq_true (by omega)
        have ddlt97 : decide (((l[k].toNat : Nat) : Int) < 97) = false := decide_eq_false (by omega)
        have ddgt122 : decide (122 < ((l[k].toNat : Nat) : Int)) = false := decide_eq_false (by omega)
        have ddlt65 : decide (((l[k].toNat : Nat) : Int) < 65) = false := decide_eq_false (by omega)
        have ddgt90 : decide (90 < ((l[k].toNat : Nat) : Int)) = true := decide_eq_true (by omega)
        have hc := Lib.hid (tokC_letter l[k] (by omega))
        clear hx
        go_wp2_with fail
        exact ⟨⟨k + 1, by omega, by go_num, hG, all_take_succ _ l k hlt HE.out hc.out⟩, by simp [intOf]; omega⟩
      · have ddlt48 : decide (((l[k].toNat : Nat) : Int) < 48) = true := decide_eq_true (by omega)
        have ddgt57 : decide (57 < ((l[k].toNat : Nat) : Int)) = false := decide_eq_false (by omega)
        have ddlt97 : decide (((l[k].toNat : Nat) : Int) < 97) = true := decide_eq_true (by omega)
        have ddgt122 : decide (122 < ((l[k].toNat : Nat) : Int)) = false := decide_eq_false (by omega)
        have ddlt65 : decide (((l[k].toNat : Nat) : Int) < 65) = true := decide_eq_true (by omega)
        have ddgt90 : decide (90 < ((l[k].toNat : Nat) : Int)) = false := decide_eq_false (by omega)
        have hc := Lib.hid (letterC_no l[k] (by omega))
        clear hx
        go_wp2_with fail
        go_ret
        exact ⟨ret_bool (bound_no1 (all_no _ l k hlt hc.out)).symm, hG⟩
      · have ddlt48 : decide (((l[k].toNat : Nat) : Int) < 48) = false := decide_eq_false (by omega)
        have ddgt57 : decide (57 < ((l[k].toNat : Nat) : Int)) = true := decide_eq_true (by omega)
        have ddlt97 : decide (((l[k].toNat : Nat) : Int) < 97) = true := decide_eq_true (by omega)
        have ddgt122 : decide (122 < ((l[k].toNat : Nat) : Int)) = false := decide_eq_false (by omega)
        have ddlt65 : decide (((l[k].toNat : Nat) : Int) < 65) = true := decide_eq_true (by omega)
        have ddgt90 : decide (90 < ((l[k].toNat : Nat) : Int)) = false := decide_eq_false (by omega)
        have hc := Lib.hid (letterC_no l[k] (by omega))
        clear hx
        go_wp2_with fail
        go_ret
        exact ⟨ret_bool (bound_no1 (all_no _ l k hlt hc.out)).symm, hG⟩
      · have ddlt48 : decide (((l[k].toNat : Nat) : Int) < 48) = false := decide_eq_false (by omega)
        have ddgt57 : decide (57 < ((l[k].toNat : Nat) : Int)) = true := decide_eq_true (by omega)
        have ddlt97 : decide (((l[k].toNat : Nat) : Int) < 97) = true := decide_eq_true (by omega)
        have ddgt122 : decide (122 < ((l[k].toNat : Nat) : Int)) = false := decide_eq_false (by omega)
        have ddlt65 : decide (((l[k].toNat : Nat) : Int) < 65) = false := decide_eq_false (by omega)
        have ddgt90 : decide (90 < ((l[k].toNat : Nat) : Int)) = true := decide_eq_true (by omega)
        have hc := Lib.hid (letterC_no l[k] (by omega))
        clear hx
        go_wp2_with fail
        go_ret
        exact ⟨ret_bool (bound_no1 (all_no _ l k hlt hc.out)).symm, hG⟩
      · have ddlt48 : decide (((l[k].toNat : Nat) : Int) < 48) = false := decide_eq_false (by omega)
        have ddgt57 : decide (57 < ((l[k].toNat : Nat) : Int)) = true := decide_eq_true (by omega)
        have ddlt97 : decide (((l[k].toNat : Nat) : Int) < 97) = false := decide_eq_false (by omega)
        have ddgt122 : decide (122 < ((l[k].toNat : Nat) : Int)) = true := decide_eq_true (by omega)
        have ddlt65 : decide (((l[k].toNat : Nat) : Int) < 65) = false := decide_eq_false (by omega)
        have ddgt90 : decide (90 < ((l[k].toNat : Nat) : Int)) = true := decide_eq_true (by omega)
        have hc := Lib.hid (letterC_no l[k] (by omega))
        clear hx
        go_wp2_with fail
        go_ret
        exact ⟨ret_bool (bound_no1 (all_no _ l k hlt hc.out)).symm, hG⟩
    · go_wp2_with fail
      go_ret
      exact ⟨ret_bool (bound_yes (all_end _ l k hlt HE.out) (by omega) (by omega)).symm, hG⟩
set_option maxHeartbeats 4000000 in
theorem refBounds_any (l : List UInt8) (w : World) (_hl : l.length ≤ 9223372036854775800) : Calls Tryd.prog 33 #[str l] w fun e w' => e = .returned (.bool (boundB l)) ∧ Gr w w' := by
  go_enter Tryd.func33, Tryd.ntmps33
  go_wp2_with fail
  go_loopw [2, 4, 3] (fun x0 x1 i wr => ∃ k : Nat, k ≤ l.length ∧ i = .int .i64 k ∧ Gr w wr ∧ (l.take k).all letterC = true) (fun _ _ i _ => l.length - (intOf i).toNat)
  case atStart => exact ⟨0, Nat.zero_le _, rfl, Gr.refl _, rfl⟩
  case round =>
    obtain ⟨k, hk, rfl, hG, hE⟩ := hrel
    have HE := Lib.hid hE; clear hE
    by_cases hlt : k < l.length
    · have hx := l[k].toNat_lt
      rcases (show (48 ≤ l[k].toNat ∧ l[k].toNat ≤ 57) ∨ (65 ≤ l[k].toNat ∧ l[k].toNat ≤ 90) ∨ (97 ≤ l[k].toNat ∧ l[k].toNat ≤ 122) ∨ (0 ≤ l[k].toNat ∧ l[k].toNat ≤ 47) ∨ (58 ≤ l[k].toNat ∧ l[k].toNat ≤ 64) ∨ (91 ≤ l[k].toNat ∧ l[k].toNat ≤ 96) ∨ (123 ≤ l[k].toNat ∧ l[k].toNat ≤ 255) by omega) with ⟨h1, h2⟩ | ⟨h1, h2⟩ | ⟨h1, h2⟩ | ⟨h1, h2⟩ | ⟨h1, h2⟩ | ⟨h1, h2⟩ | ⟨h1, h2⟩
      · have ddge48 : decide (48 ≤ ((l[k].toNat : Nat) : Int)) = true := decide_eq_true (by omega)
        have ddle57 : decide (((l[k].toNat : Nat) : Int) ≤ 57) = true := decide_eq_true (by omega)
        have ddge65 : decide (65 ≤ ((l[k].toNat : Nat) : Int)) = false := decide_eq_false (by omega)
        have ddle90 : decide (((l[k].toNat : Nat) : Int) ≤ 90) = true := decide_eq_true (by omega)
        have ddge97 : decide (97 ≤ ((l[k].toNat : Nat) : Int)) = false := decide_eq_false (by omega)
        have ddle122 : decide (((l[k].toNat : Nat) : Int) ≤ 122) = true := decide_eq_true (by omega)
        have hc := Lib.hid (tokC_letter l[k] (by omega))
        clear hx
        go_wp2_with fail
        exact ⟨⟨k + 1, by omega, by go_num, hG, all_take_succ _ l k hlt HE.out hc.out⟩, by simp [intOf]; omega⟩
      · have ddge48 : decide (48 ≤ ((l[k].toNat : Nat) : Int)) = true := decide_eq_true (by omega)
        have ddle57 : decide (((l[k].toNat : Nat) : Int) ≤ 57) = false := decide_eq_false (by omega)
        have ddge65 : decide (65 ≤ ((l[k].toNat : Nat) : Int)) = true := decide_eq_true (by omega)
        have ddle90 : decide (((l[k].toNat : Nat) : Int) ≤ 90) = true := decide_eq_true (by omega)
        have ddge97 : decide (97 ≤ ((l[k].toNat : Nat) : Int)) = false := decide_eq_false (by omega)
        have ddle122 : decide (((l[k].toNat : Nat) : Int) ≤ 122) = true := decide_eq_true (by omega)
        have hc := Lib.hid (tokC_letter l[k] (by omega))
        clear hx
        go_wp2_with fail
        exact ⟨⟨k + 1, by omega, by go_num, hG, all_take_succ _ l k hlt HE.out hc.out⟩, by simp [intOf]; omega⟩
      · have ddge48 : decide (48 ≤ ((l[k].toNat : Nat) : Int)) = true := decide_eq_true (by omega)
        have ddle57 : decide (((l[k].toNat : Nat) : Int) ≤ 57) = false := decide_eq_false (by omega)
        have ddge65 : decide (65 ≤ ((l[k].toNat : Nat) : Int)) = true := decide_eq_true (by omega)
        have ddle90 : decide (((l[k].toNat : Nat) : Int) ≤ 90) = false := decide_eq_false (by omega)
        have ddge97 : decide (97 ≤ ((l[k].toNat : Nat) : Int)) = true := decide_eq_true (by omega)
        have ddle122 : decide (((l[k].toNat : Nat) : Int) ≤ 122) = true := decide_eq_true (by omega)
        have hc := Lib.hid (tokC_letter l[k] (by omega))
        clear hx
        go_wp2_with fail
        exact ⟨⟨k + 1, by omega, by go_num, hG, all_take_succ _ l k hlt HE.out hc.out⟩, by simp [intOf]; omega⟩
      · have ddge48 : decide (48 ≤ ((l[k].toNat : Nat) : Int)) = false := decide_eq_false (by omega)
        have ddle57 : decide (((l[k].toNat : Nat) : Int) ≤ 57) = true := decide_eq_true (by omega)
        have ddge65 : decide (65 ≤ ((l[k].toNat : Nat) : Int)) = false := decide_eq_false (by omega)
        have ddle90 : decide (((l[k].toNat : Nat) : Int) ≤ 90) = true := decide_eq_true (by omega)
        have ddge97 : decide (97 ≤ ((l[k].toNat : Nat) : Int)) = false := decide_eq_false (by omega)
        have ddle122 : decide (((l[k].toNat : Nat) : Int) ≤ 122) = true := decide_eq_true (by omega)
        have hc := Lib.hid (letterC_no l[k] (by omega))
        clear hx
        go_wp2_with fail
        go_ret
        exact ⟨ret_bool (bound_no1 (all_no _ l k hlt hc.out)).symm, hG⟩
      · have ddge48 : decide (48 ≤ ((l[k].toNat : Nat) : Int)) = true := decide_eq_true (by omega)
        have ddle57 : decide (((l[k].toNat : Nat) : Int) ≤ 57) = false := decide_eq_false (by omega)
        have ddge65 : decide (65 ≤ ((l[k].toNat : Nat) : Int)) = false := decide_eq_false (by omega)
        have ddle90 : decide (((l[k].toNat : Nat) : Int) ≤ 90) = true := decide_eq_true (by omega)
        have ddge97 : decide (97 ≤ ((l[k].toNat : Nat) : Int)) = false := decide_eq_false (by omega)
        have ddle122 : decide (((l[k].toNat : Nat) : Int) ≤ 122) = true := decide_eq_true (by omega)
        have hc := Lib.hid (letterC_no l[k] (by omega))
        clear hx
        go_wp2_with fail
        go_ret
        exact ⟨ret_bool (bound_no1 (all_no _ l k hlt hc.out)).symm, hG⟩
      · have ddge48 : decide (48 ≤ ((l[k].toNat : Nat) : Int)) = true := decide_eq_true (by omega)
        have ddle57 : decide (((l[k].toNat : Nat) : Int) ≤ 57) = false := decide_eq_false (by omega)
        have ddge65 : decide (65 ≤ ((l[k].toNat : Nat) : Int)) = true := decide_eq_true (by omega)
        have ddle90 : decide (((l[k].toNat : Nat) : Int) ≤ 90) = false := decide_eq_false (by omega)
        have ddge97 : decide (97 ≤ ((l[k].toNat : Nat) : Int)) = false := decide_eq_false (by omega)
        have ddle122 : decide (((l[k].toNat : Nat) : Int) ≤ 122) = true := decide_eq_true (by omega)
        have hc := Lib.hid (letterC_no l[k] (by omega))
        clear hx
        go_wp2_with fail
        go_ret
        exact ⟨ret_bool (bound_no1 (all_no _ l k hlt hc.out)).symm, hG⟩
      · have ddge48 : decide (48 ≤ ((l[k].toNat : Nat) : Int)) = true := decide_eq_true (by omega)
        have ddle57 : decide (((l[k].toNat : Nat) : Int) ≤ 57) = false := decide_eq_false (by omega)
        have ddge65 : decide (65 ≤ ((l[k].toNat : Nat) : Int)) = true := decide_eq_true (by omega)
        have ddle90 : decide (((l[k].toNat : Nat) : Int) ≤ 90) = false := decide_eq_false (by omega)
        have ddge97 : decide (97 ≤ ((l[k].toNat : Nat) : Int)) = true := decide_eq_true (by omega)
        have ddle122 : decide (((l[k].toNat : Nat) : Int) ≤ 122) = false := decide_eq_false (by omega)
        have hc := Lib.hid (letterC_no l[k] (by omega))
        clear hx
        go_wp2_with fail
        go_ret
        exact ⟨ret_bool (bound_no1 (all_no _ l k hlt hc.out)).symm, hG⟩
    · have hA := Lib.hid (all_end _ l k hlt HE.out)
      by_cases hs : l.length < 1
      · have d1 : decide (1 ≤ (l.length : Int)) = false := decide_eq_false (by omega)
        go_wp2_with fail
        go_ret
        exact ⟨ret_bool (bound_len (by omega)).symm, hG⟩
      · have d1 : decide (1 ≤ (l.length : Int)) = true := decide_eq_true (by omega)
        by_cases hs2 : 70 < l.length
        · have d2 : decide ((l.length : Int) ≤ 70) = false := decide_eq_false (by omega)
          go_wp2_with fail
          go_ret
          exact ⟨ret_bool (bound_len (by omega)).symm, hG⟩
        · have d2 : decide ((l.length : Int) ≤ 70) = true := decide_eq_true (by omega)
          go_wp2_with fail
          go_ret
          exact ⟨ret_bool (bound_yes hA.out (by omega) (by omega)).symm, hG⟩
theorem kind_name {n s : List UInt8} (h1 : token n = true) (h2 : n.length ≤ 200) : right (n, s) = right ([97], s) := by
  unfold right; rw [h1, decide_eq_true h2]; rfl
theorem kind_len {l : List UInt8} (h : l.length < 1 ∨ 100 < l.length) : kindB l = false := by
  unfold kindB
  rcases h with h | h
  · rw [decide_eq_false (show ¬ 1 ≤ l.length by omega)]; simp
  · rw [decide_eq_false (show ¬ l.length ≤ 100 by omega)]; simp
theorem kind_in {l : List UInt8} (h1 : 1 ≤ l.length) (h2 : l.length ≤ 100) : kindB l = right ([97], l) := by unfold kindB; rw [decide_eq_true h1, decide_eq_true h2]; rfl
set_option maxHeartbeats 2000000 in
theorem kindly_any (l : List UInt8) (w : World) (_hl : l.length ≤ 9223372036854775800) : Calls Tryd.prog 37 #[str l] w fun e w' => e = .returned (.bool (kindB l)) ∧ Gr w w' := by
  have HR := Lib.hid (fun (w : World) => right_any [67, 111, 110, 116, 101, 110, 116, 45, 84, 121, 112, 101] l w (by decide) (by omega))
  rw [kind_name (n := [67, 111, 110, 116, 101, 110, 116, 45, 84, 121, 112, 101]) (by decide) (by decide)] at HR
  by_cases hs : l.length < 1
  · have d1 : decide (1 ≤ (l.length : Int)) = false := decide_eq_false (by omega)
    go_enter Tryd.func37, Tryd.ntmps37
    go_wp2_with fail
    go_ret
    exact ⟨ret_bool (kind_len (by omega)).symm, Gr.refl _⟩
  · have d1 : decide (1 ≤ (l.length : Int)) = true := decide_eq_true (by omega)
    by_cases hs2 : 100 < l.length
    · have d2 : decide ((l.length : Int) ≤ 100) = false := decide_eq_false (by omega)
      go_enter Tryd.func37, Tryd.ntmps37
      go_wp2_with fail
      go_ret
      exact ⟨ret_bool (kind_len (by omega)).symm, Gr.refl _⟩
    · have d2 : decide ((l.length : Int) ≤ 100) = true := decide_eq_true (by omega)
      go_enter Tryd.func37, Tryd.ntmps37
      go_wp2_with (go_at_call 48; refine (HR.out _).mono ?_; rintro e w2 ⟨rfl, hG2⟩)
      go_ret
      exact ⟨ret_bool (kind_in (by omega) (by omega)).symm, hG2⟩
set_option maxHeartbeats 2000000 in
theorem refKinds_any (l : List UInt8) (w : World) (_hl : l.length ≤ 9223372036854775800) : Calls Tryd.prog 36 #[str l] w fun e w' => e = .returned (.bool (kindB l)) ∧ Gr w w' := by
  have HR := Lib.hid (fun (w : World) => refRight_any [97] l w (by decide) (by omega))
  rw [kind_name (n := [97]) (by decide) (by decide)] at HR
  by_cases hs : l.length < 1
  · have d1 : decide (1 ≤ (l.length : Int)) = false := decide_eq_false (by omega)
    go_enter Tryd.func36, Tryd.ntmps36
    go_wp2_with fail
    go_ret
    exact ⟨ret_bool (kind_len (by omega)).symm, Gr.refl _⟩
  · have d1 : decide (1 ≤ (l.length : Int)) = true := decide_eq_true (by omega)
    by_cases hs2 : 100 < l.length
    · have d2 : decide ((l.length : Int) ≤ 100) = false := decide_eq_false (by omega)
      go_enter Tryd.func36, Tryd.ntmps36
      go_wp2_with fail
      go_ret
      exact ⟨ret_bool (kind_len (by omega)).symm, Gr.refl _⟩
    · have d2 : decide ((l.length : Int) ≤ 100) = true := decide_eq_true (by omega)
      go_enter Tryd.func36, Tryd.ntmps36
      go_wp2_with (go_at_call 47; refine (HR.out _).mono ?_; rintro e w2 ⟨rfl, hG2⟩)
      go_ret
      exact ⟨ret_bool (kind_in (by omega) (by omega)).symm, hG2⟩
/-! ### the document's lines -/
theorem lnL_lineAt (s : List UInt8) : lnL s = if lineAt s 0 < 0 then none else some (s.take (lineAt s 0).toNat, s.drop ((lineAt s 0).toNat + 2)) := by
  unfold lnL lineAt
  rw [List.drop_zero]
  cases crlf s with
  | none => simp
  | some i => simp
def lnV (s : List UInt8) : Value := match lnL s with
  | none => .tuple #[str [], str [], .bool false]
  | some x => .tuple #[str x.1, str x.2, .bool true]
set_option maxHeartbeats 2000000 in
theorem refLine11_any (l : List UInt8) (w : World) (_hl : l.length ≤ 9223372036854775000) : Calls Tryd.prog 34 #[str l] w fun e w' => e = .returned (lnV l) ∧ Gr w w' := by
  have HL := Lib.hid (lnL_lineAt l)
  go_enter Tryd.func34, Tryd.ntmps34
  go_wp2_with fail
  go_loopw [2, 3, 4, 5] (fun r2 r3 r4 j wr => ∃ k : Nat, k ≤ l.length ∧ j = .int .i64 k ∧ Gr w wr ∧ lineAt l k = lineAt l 0) (fun _ _ _ j _ => l.length - (intOf j).toNat)
  case atStart => exact ⟨0, Nat.zero_le _, rfl, Gr.refl _, rfl⟩
  case round =>
    obtain ⟨k, hk, rfl, hG, hE⟩ := hrel
    have HE := Lib.hid hE; clear hE
    by_cases hlt : k + 1 < l.length
    · by_cases h1 : (l[k].toNat : Int) = 13
      · by_cases h2 : (l[k + 1].toNat : Int) = 10
        · have hb1 : ((l[k].toNat : Int) == 13) = true := by simp [h1]
          have hb2 : ((l[k + 1].toNat : Int) == 10) = true := by simp [h2]
          have hit := Lib.hid (lineAt_hit hlt h1 h2)
          have HV := Lib.hid (show lnL l = some (l.take k, l.drop (k + 2)) from by rw [HL.out, ← HE.out, hit.out, if_neg (by omega)]; rfl)
          clear h1 h2
          go_upto_region 5 with fail
          refine wp_region_gw (by kernel_rfl) (by kernel_rfl) ?_
          repeat (first | go_big_quiet_step (fail) | quiet_step (fail))
          refine wpQuiet_nil ?_; intro wq hwq; obtain ⟨iq, rfl⟩ := hwq
          go_wp2_with fail
          go_ret3
          exact ⟨by unfold lnV; rw [HV.out]; rfl, Gr.tr hG (gw_gr _ _)⟩
        · have hb1 : ((l[k].toNat : Int) == 13) = true := by simp [h1]
          have hb2 : ((l[k + 1].toNat : Int) == 10) = false := by simp [h2]
          have hit := Lib.hid (lineAt_miss hlt (fun h => h2 h.2))
          clear h1 h2
          go_wp2_with fail
          exact ⟨⟨k + 1, by omega, by go_num, hG, by rw [← HE.out, hit.out]⟩, by simp [intOf]; omega⟩
      · have hb1 : ((l[k].toNat : Int) == 13) = false := by simp [h1]
        have hit := Lib.hid (lineAt_miss hlt (fun h => h1 h.1))
        clear h1
        go_wp2_with fail
        exact ⟨⟨k + 1, by omega, by go_num, hG, by rw [← HE.out, hit.out]⟩, by simp [intOf]; omega⟩
    · have he := Lib.hid (lineAt_end hlt)
      have HV := Lib.hid (show lnL l = none from by rw [HL.out, ← HE.out, he.out]; rfl)
      go_wp2_with fail
      go_ret3
      exact ⟨by unfold lnV; rw [HV.out]; rfl, hG⟩
def stripV (p s : List UInt8) : Value := match stripL p s with
  | none => .tuple #[str [], .bool false]
  | some x => .tuple #[str x, .bool true]
theorem pre_iff (p s : List UInt8) : p.isPrefixOf s = true ↔ s.take p.length = p := by
  rw [List.isPrefixOf_iff_prefix]
  constructor
  · rintro ⟨t, rfl⟩; simp
  · intro h; exact ⟨s.drop p.length, by have := List.take_append_drop p.length s; rw [h] at this; exact this⟩
theorem strip_no {p s : List UInt8} (h : s.take p.length ≠ p) : stripL p s = none := by
  unfold stripL; rw [if_neg]; intro hh; exact h ((pre_iff p s).1 hh)
theorem strip_yes {p s : List UInt8} (h : s.take p.length = p) : stripL p s = some (s.drop p.length) := by
  unfold stripL; rw [if_pos ((pre_iff p s).2 h)]
set_option maxHeartbeats 2000000 in
theorem refAfter_any (s p : List UInt8) (w : World) (_hl : s.length ≤ 9223372036854775000) (_hp : p.length ≤ 9223372036854775000) : Calls Tryd.prog 35 #[str s, str p] w fun e w' => e = .returned (stripV p s) ∧ Gr w w' := by
  by_cases h1 : s.length < p.length
  · have d1 : decide ((s.length : Int) < (p.length : Int)) = true := decide_eq_true (by omega)
    have HV := Lib.hid (show stripL p s = none from strip_no (by intro h; have := congrArg List.length h; rw [List.length_take] at this; omega))
    go_enter Tryd.func35, Tryd.ntmps35
    go_wp2_with fail
    go_ret2
    exact ⟨by unfold stripV; rw [HV.out]; rfl, Gr.refl _⟩
  · have d1 : decide ((s.length : Int) < (p.length : Int)) = false := decide_eq_false (by omega)
    by_cases h2 : s.take p.length = p
    · have k2 : (s.take p.length == p) = true := by simpa using h2
      have HV := Lib.hid (strip_yes h2)
      clear h2
      go_enter Tryd.func35, Tryd.ntmps35
      go_wp2_with fail
      go_ret2
      exact ⟨by unfold stripV; rw [HV.out]; rfl, Gr.refl _⟩
    · have k2 : (s.take p.length == p) = false := by simpa using h2
      have HV := Lib.hid (strip_no h2)
      clear h2
      go_enter Tryd.func35, Tryd.ntmps35
      go_wp2_with fail
      go_ret2
      exact ⟨by unfold stripV; rw [HV.out]; rfl, Gr.refl _⟩
end Go.Proofs.YtnmfmcmokdoieaaDoor
