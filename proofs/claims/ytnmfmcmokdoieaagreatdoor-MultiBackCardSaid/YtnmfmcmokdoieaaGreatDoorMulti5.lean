/- Layer 11: which texts may be boundaries and kinds; lines. Contracts; no conditions but that a text's length is an int's. -/
import Derived.Test.YtnmfmcmokdoieaaGreatDoorMulti4
set_option linter.unusedVariables false
set_option linter.unusedSimpArgs false
namespace Go.Proofs.YtnmfmcmokdoieaaGreatDoor
open Go.RowKit
theorem bound_len {l : List UInt8} (h : l.length < 1 ∨ 70 < l.length) : boundB l = false := by
  unfold boundB
  rcases h with h | h
  · rw [decide_eq_false (show ¬ 1 ≤ l.length by omega)]; simp
  · rw [decide_eq_false (show ¬ l.length ≤ 70 by omega)]; simp
theorem bound_no1 {l : List UInt8} (h : l.all letterC = false) : boundB l = false := by unfold boundB; rw [h]; rfl
theorem bound_yes {l : List UInt8} (h : l.all letterC = true) (h1 : 1 ≤ l.length) (h2 : l.length ≤ 70) : boundB l = true := by unfold boundB; rw [h, decide_eq_true h1, decide_eq_true h2]; rfl
set_option maxHeartbeats 4000000 in
theorem bounds_any (l : List UInt8) (w : World) (_hl : l.length ≤ 9223372036854775800) : Calls Tryz.prog 15 #[str l] w fun e w' => e = .returned (.bool (boundB l)) ∧ Gr w w' := by
  by_cases hs : l.length < 1
  · have d1 : decide ((l.length : Int) < 1) = true := decide_eq_true (by omega)
    go_enter Tryz.func15, Tryz.ntmps15
    go_wp2_with fail
    go_ret
    exact ⟨ret_bool (bound_len (by omega)).symm, Gr.refl _⟩
  have d1 : decide ((l.length : Int) < 1) = false := decide_eq_false (by omega)
  by_cases hs2 : 70 < l.length
  · have d2 : decide (70 < (l.length : Int)) = true := decide_eq_true (by omega)
    go_enter Tryz.func15, Tryz.ntmps15
    go_wp2_with fail
    go_ret
    exact ⟨ret_bool (bound_len (by omega)).symm, Gr.refl _⟩
  have d2 : decide (70 < (l.length : Int)) = false := decide_eq_false (by omega)
  go_enter Tryz.func15, Tryz.ntmps15
  go_wp2_with fail
  go_loopw [2, 3, 4, 15] (fun x0 x1 x2 i wr => ∃ k : Nat, k ≤ l.length ∧ i = .int .i64 k ∧ Gr w wr ∧ (l.take k).all letterC = true) (fun _ _ _ i _ => l.length - (intOf i).toNat)
  case atStart => exact ⟨0, Nat.zero_le _, rfl, Gr.refl _, rfl⟩
  case round =>
    obtain ⟨k, hk, rfl, hG, hE⟩ := hrel
    have HE := Lib.hid hE; clear hE
    by_cases hlt : k < l.length
    · have hx := l[k].toNat_lt
      rcases (show (48 ≤ l[k].toNat ∧ l[k].toNat ≤ 57) ∨ (65 ≤ l[k].toNat ∧ l[k].toNat ≤ 90) ∨ (97 ≤ l[k].toNat ∧ l[k].toNat ≤ 122) ∨ (0 ≤ l[k].toNat ∧ l[k].toNat ≤ 47) ∨ (58 ≤ l[k].toNat ∧ l[k].toNat ≤ 64) ∨ (91 ≤ l[k].toNat ∧ l[k].toNat ≤ 96) ∨ (123 ≤ l[k].toNat ∧ l[k].toNat ≤ 255) by omega) with ⟨h1, h2⟩ | ⟨h1, h2⟩ | ⟨h1, h2⟩ | ⟨h1, h2⟩ | ⟨h1, h2⟩ | ⟨h1, h2⟩ | ⟨h1, h2⟩
      · have ddlt48 : decide (((l[k].toNat : Nat) : Int) < 48) = false := decide_eq_false (by omega)
        have ddgt57 : decide (57 < ((l[k].toNat : Nat) : Int)) = false := decide_eq_false (by omega)
        have ddlt97 : decide (((l[k].toNat : Nat) : Int) < 97) = true := decide_eq_true (by omega)
        have ddgt122 : decide (122 < ((l[k].toNat : Nat) : Int)) = false := decide_eq_false (by omega)
        have ddlt65 : decide (((l[k].toNat : Nat) : Int) < 65) = true := decide_eq_true (by omega)
        have ddgt90 : decide (90 < ((l[k].toNat : Nat) : Int)) = false := decide_eq_false (by omega)
        have hc := Lib.hid (tokC_letter l[k] (by omega))
        clear hx
        go_wp2_with fail
        exact ⟨⟨k + 1, by omega, by go_num, hG, all_take_succ _ l k hlt HE.out hc.out⟩, by simp [intOf]; omega⟩
      · have ddlt48 : decide (((l[k].toNat : Nat) : Int) < 48) = false := decide_eq_false (by omega)
        have ddgt57 : decide (57 < ((l[k].toNat : Nat) : Int)) = true := decide_eq_true (by omega)
        have ddlt97 : decide (((l[k].toNat : Nat) : Int) < 97) = true := decide_eq_true (by omega)
        have ddgt122 : decide (122 < ((l[k].toNat : Nat) : Int)) = false := decide_eq_false (by omega)
        have ddlt65 : decide (((l[k].toNat : Nat) : Int) < 65) = false := decide_eq_false (by omega)
        have ddgt90 : decide (90 < ((l[k].toNat : Nat) : Int)) = false := decide_eq_false (by omega)
        have hc := Lib.hid (tokC_letter l[k] (by omega))
        clear hx
        go_wp2_with fail
        exact ⟨⟨k + 1, by omega, by go_num, hG, all_take_succ _ l k hlt HE.out hc.out⟩, by simp [intOf]; omega⟩
      · have ddlt48 : decide (((l[k].toNat : Nat) : Int) < 48) = false := decide_eq_false (by omega)
        have ddgt57 : decide (57 < ((l[k].toNat : Nat) : Int)) = true := decide_eq_true (by omega)
        have ddlt97 : decide (((l[k].toNat : Nat) : Int) < 97) = false := decide_eq_false (by omega)
        have ddgt122 : decide (122 < ((l[k].toNat : Nat) : Int)) = false := decide_eq_false (by omega)
        have ddlt65 : decide (((l[k].toNat : Nat) : Int) < 65) = false := decide_eq_false (by omega)
        have ddgt90 : decide (90 < ((l[k].toNat : Nat) : Int)) = true := decide_eq_true (by omega)
        have hc := Lib.hid (tokC_letter l[k] (by omega))
        clear hx
        go_wp2_with fail
        exact ⟨⟨k + 1, by omega, by go_num, hG, all_take_succ _ l k hlt HE.out hc.out⟩, by simp [intOf]; omega⟩
      · have ddlt48 : decide (((l[k].toNat : Nat) : Int) < 48) = true := decide_eq_true (by omega)
        have ddgt57 : decide (57 < ((l[k].toNat : Nat) : Int)) = false := decide_eq_false (by omega)
        have ddlt97 : decide (((l[k].toNat : Nat) : Int) < 97) = true := decide_eq_true (by omega)
        have ddgt122 : decide (122 < ((l[k].toNat : Nat) : Int)) = false := decide_eq_false (by omega)
        have ddlt65 : decide (((l[k].toNat : Nat) : Int) < 65) = true := decide_eq_true (by omega)
        have ddgt90 : decide (90 < ((l[k].toNat : Nat) : Int)) = false := decide_eq_false (by omega)
        have hc := Lib.hid (letterC_no l[k] (by omega))
        clear hx
        go_wp2_with fail
        go_ret
        exact ⟨ret_bool (bound_no1 (all_no _ l k hlt hc.out)).symm, hG⟩
      · have ddlt48 : decide (((l[k].toNat : Nat) : Int) < 48) = false := decide_eq_false (by omega)
        have ddgt57 : decide (57 < ((l[k].toNat : Nat) : Int)) = true := decide_eq_true (by omega)
        have ddlt97 : decide (((l[k].toNat : Nat) : Int) < 97) = true := decide_eq_true (by omega)
        have ddgt122 : decide (122 < ((l[k].toNat : Nat) : Int)) = false := decide_eq_false (by omega)
        have ddlt65 : decide (((l[k].toNat : Nat) : Int) < 65) = true := decide_eq_true (by omega)
        have ddgt90 : decide (90 < ((l[k].toNat : Nat) : Int)) = false := decide_eq_false (by omega)
        have hc := Lib.hid (letterC_no l[k] (by omega))
        clear hx
        go_wp2_with fail
        go_ret
        exact ⟨ret_bool (bound_no1 (all_no _ l k hlt hc.out)).symm, hG⟩
      · have ddlt48 : decide (((l[k].toNat : Nat) : Int) < 48) = false := decide_eq_false (by omega)
        have ddgt57 : decide (57 < ((l[k].toNat : Nat) : Int)) = true := decide_eq_true (by omega)
        have ddlt97 : decide (((l[k].toNat : Nat) : Int) < 97) = true := decide_eq_true (by omega)
        have ddgt122 : decide (122 < ((l[k].toNat : Nat) : Int)) = false := decide_eq_false (by omega)
        have ddlt65 : decide (((l[k].toNat : Nat) : Int) < 65) = false := decide_eq_false (by omega)
        have ddgt90 : decide (90 < ((l[k].toNat : Nat) : Int)) = true := decide_eq_true (by omega)
        have hc := Lib.hid (letterC_no l[k] (by omega))
        clear hx
        go_wp2_with fail
        go_ret
        exact ⟨ret_bool (bound_no1 (all_no _ l k hlt hc.out)).symm, hG⟩
      · have ddlt48 : decide (((l[k].toNat : Nat) : Int) < 48) = false := decide_eq_false (by omega)
        have ddgt57 : decide (57 < ((l[k].toNat : Nat) : Int)) = true := decide_eq_true (by omega)
        have ddlt97 : decide (((l[k].toNat : Nat) : Int) < 97) = false := decide_eq_false (by omega)
        have ddgt122 : decide (122 < ((l[k].toNat : Nat) : Int)) = true := decide_eq_true (by omega)
        have ddlt65 : decide (((l[k].toNat : Nat) : Int) < 65) = false := decide_eq_false (by omega)
        have ddgt90 : decide (90 < ((l[k].toNat : Nat) : Int)) = true := decide_eq_true (by omega)
        have hc := Lib.hid (letterC_no l[k] (by omega))
        clear hx
        go_wp2_with fail
        go_ret
        exact ⟨ret_bool (bound_no1 (all_no _ l k hlt hc.out)).symm, hG⟩
    · go_wp2_with fail
      go_ret
      exact ⟨ret_bool (bound_yes (all_end _ l k hlt HE.out) (by omega) (by omega)).symm, hG⟩
theorem kind_name {n s : List UInt8} (h1 : token n = true) (h2 : n.length ≤ 200) : right (n, s) = right ([97], s) := by
  unfold right; rw [h1, decide_eq_true h2]; rfl
theorem kind_len {l : List UInt8} (h : l.length < 1 ∨ 100 < l.length) : kindB l = false := by
  unfold kindB
  rcases h with h | h
  · rw [decide_eq_false (show ¬ 1 ≤ l.length by omega)]; simp
  · rw [decide_eq_false (show ¬ l.length ≤ 100 by omega)]; simp
theorem kind_in {l : List UInt8} (h1 : 1 ≤ l.length) (h2 : l.length ≤ 100) : kindB l = right ([97], l) := by unfold kindB; rw [decide_eq_true h1, decide_eq_true h2]; rfl
set_option maxHeartbeats 2000000 in
theorem kindly_any (l : List UInt8) (w : World) (_hl : l.length ≤ 9223372036854775800) : Calls Tryz.prog 14 #[str l] w fun e w' => e = .returned (.bool (kindB l)) ∧ Gr w w' := by
  have HR := Lib.hid (fun (w : World) => right_any [67, 111, 110, 116, 101, 110, 116, 45, 84, 121, 112, 101] l w (by decide) (by omega))
  rw [kind_name (n := [67, 111, 110, 116, 101, 110, 116, 45, 84, 121, 112, 101]) (by decide) (by decide)] at HR
  by_cases hs : l.length < 1
  · have d1 : decide (1 ≤ (l.length : Int)) = false := decide_eq_false (by omega)
    go_enter Tryz.func14, Tryz.ntmps14
    go_wp2_with fail
    go_ret
    exact ⟨ret_bool (kind_len (by omega)).symm, Gr.refl _⟩
  · have d1 : decide (1 ≤ (l.length : Int)) = true := decide_eq_true (by omega)
    by_cases hs2 : 100 < l.length
    · have d2 : decide ((l.length : Int) ≤ 100) = false := decide_eq_false (by omega)
      go_enter Tryz.func14, Tryz.ntmps14
      go_wp2_with fail
      go_ret
      exact ⟨ret_bool (kind_len (by omega)).symm, Gr.refl _⟩
    · have d2 : decide ((l.length : Int) ≤ 100) = true := decide_eq_true (by omega)
      go_enter Tryz.func14, Tryz.ntmps14
      go_wp2_with (go_at_call 25; refine (HR.out _).mono ?_; rintro e w2 ⟨rfl, hG2⟩)
      go_ret
      exact ⟨ret_bool (kind_in (by omega) (by omega)).symm, hG2⟩
/-! ### the document's lines -/
theorem lnL_lineAt (s : List UInt8) : lnL s = if lineAt s 0 < 0 then none else some (s.take (lineAt s 0).toNat, s.drop ((lineAt s 0).toNat + 2)) := by
  unfold lnL lineAt
  rw [List.drop_zero]
  cases crlf s with
  | none => simp
  | some i => simp
def lnV (s : List UInt8) : Value := match lnL s with
  | none => .tuple #[str [], str [], .bool false]
  | some x => .tuple #[str x.1, str x.2, .bool true]
def stripV (p s : List UInt8) : Value := match stripL p s with
  | none => .tuple #[str [], .bool false]
  | some x => .tuple #[str x, .bool true]
theorem pre_iff (p s : List UInt8) : p.isPrefixOf s = true ↔ s.take p.length = p := by
  rw [List.isPrefixOf_iff_prefix]
  constructor
  · rintro ⟨t, rfl⟩; simp
  · intro h; exact ⟨s.drop p.length, by have := List.take_append_drop p.length s; rw [h] at this; exact this⟩
theorem strip_no {p s : List UInt8} (h : s.take p.length ≠ p) : stripL p s = none := by
  unfold stripL; rw [if_neg]; intro hh; exact h ((pre_iff p s).1 hh)
theorem strip_yes {p s : List UInt8} (h : s.take p.length = p) : stripL p s = some (s.drop p.length) := by
  unfold stripL; rw [if_pos ((pre_iff p s).2 h)]
end Go.Proofs.YtnmfmcmokdoieaaGreatDoor
