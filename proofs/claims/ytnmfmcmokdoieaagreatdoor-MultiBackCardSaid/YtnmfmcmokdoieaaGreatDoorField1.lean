/- What the small functions of layer 7 on texts do: contracts, for every text. No conditions but that a text's length is an int's. -/
import Derived.Test.YtnmfmcmokdoieaaGreatDoorProg
import Derived.Test.YtnmfmcmokdoieaaGreatDoorBase
import Derived.Test.YtnmfmcmokdoieaaGreatDoorJLawA
import Derived.Test.YtnmfmcmokdoieaaGreatDoorShelf
set_option linter.unusedVariables false
set_option linter.unusedSimpArgs false
namespace Go.Proofs.YtnmfmcmokdoieaaGreatDoor
open Go.RowKit
theorem ret_int {k : IntKind} {a b : Int} (h : a = b) : Ending.returned (.int k a) = .returned (.int k b) := by rw [h]
theorem ret_bool {a b : Bool} (h : a = b) : Ending.returned (.bool a) = .returned (.bool b) := by rw [h]
theorem ret_str {a b : List UInt8} (h : a = b) : Ending.returned (str a) = .returned (str b) := by rw [h]
theorem indexByte_any (l : List UInt8) (c : UInt8) (w : World) : Calls Tryz.prog 57 #[str l, .int .u8 c.toNat] w fun e w' => e = .returned (.int .i64 (Lib.indexByte l c)) ∧ Gr w w' :=
  (Tryz.strings_IndexByte ⟨l.toArray⟩ (c.toNat : Int) w).mono fun e w' ⟨h1, h2⟩ => ⟨by rw [h1]; simp, by rw [h2]; exact Gr.refl _⟩
set_option maxHeartbeats 1000000 in
theorem token_any (l : List UInt8) (w : World) (_hl : l.length ≤ 9223372036854775807) : Calls Tryz.prog 38 #[str l] w fun e w' => e = .returned (.bool (token l)) ∧ Gr w w' := by
  cases hl : l with
  | nil =>
    go_enter Tryz.func38, Tryz.ntmps38
    go_wp2_with fail
    go_ret
    exact ⟨rfl, Gr.refl _⟩
  | cons c0 l0 =>
    have hne : l.isEmpty = false := by rw [hl]; rfl
    have hpos : 0 < l.length := by rw [hl]; simp
    rw [← hl]; clear hl c0 l0
    go_enter Tryz.func38, Tryz.ntmps38
    go_wp2_with fail
    go_loopw [2, 3, 4, 5, 10] (fun r x y z i wr => ∃ k : Nat, k ≤ l.length ∧ i = .int .i64 k ∧ r = .bool false ∧ Gr w wr ∧ (l.take k).all tokC = true) (fun _ _ _ _ i _ => l.length - (intOf i).toNat)
    case atStart => exact ⟨0, Nat.zero_le _, rfl, rfl, Gr.refl _, rfl⟩
    case round =>
      obtain ⟨k, hk, rfl, rfl, hG, hE⟩ := hrel
      have HE := Lib.hid hE; clear hE
      by_cases hlt : k < l.length
      · have hs : ((97 ≤ (l[k].toNat : Int) ∧ (l[k].toNat : Int) ≤ 122) ∨ (65 ≤ (l[k].toNat : Int) ∧ (l[k].toNat : Int) ≤ 90) ∨ (48 ≤ (l[k].toNat : Int) ∧ (l[k].toNat : Int) ≤ 57)) ∨ ((l[k].toNat : Int) < 48 ∨ (57 < (l[k].toNat : Int) ∧ (l[k].toNat : Int) < 65) ∨ (90 < (l[k].toNat : Int) ∧ (l[k].toNat : Int) < 97) ∨ 122 < (l[k].toNat : Int)) := by omega
        rcases hs with hs | hs
        · have hc := Lib.hid (tokC_of_letter (tokC_letter _ hs))
          rcases hs with ⟨h1, h2⟩ | ⟨h1, h2⟩ | ⟨h1, h2⟩
          · have ddge97 : decide (97 ≤ ((l[k].toNat : Nat) : Int)) = true := decide_eq_true (by omega)
            have ddle122 : decide (((l[k].toNat : Nat) : Int) ≤ 122) = true := decide_eq_true (by omega)
            have ddge65 : decide (65 ≤ ((l[k].toNat : Nat) : Int)) = true := decide_eq_true (by omega)
            have ddle90 : decide (((l[k].toNat : Nat) : Int) ≤ 90) = false := decide_eq_false (by omega)
            have ddge48 : decide (48 ≤ ((l[k].toNat : Nat) : Int)) = true := decide_eq_true (by omega)
            have ddle57 : decide (((l[k].toNat : Nat) : Int) ≤ 57) = false := decide_eq_false (by omega)
            go_wp2_with fail
            exact ⟨⟨k + 1, by omega, by go_num, rfl, hG, all_take_succ _ l k hlt HE.out hc.out⟩, by simp [intOf]; omega⟩
          · have ddge97 : decide (97 ≤ ((l[k].toNat : Nat) : Int)) = false := decide_eq_false (by omega)
            have ddle122 : decide (((l[k].toNat : Nat) : Int) ≤ 122) = true := decide_eq_true (by omega)
            have ddge65 : decide (65 ≤ ((l[k].toNat : Nat) : Int)) = true := decide_eq_true (by omega)
            have ddle90 : decide (((l[k].toNat : Nat) : Int) ≤ 90) = true := decide_eq_true (by omega)
            have ddge48 : decide (48 ≤ ((l[k].toNat : Nat) : Int)) = true := decide_eq_true (by omega)
            have ddle57 : decide (((l[k].toNat : Nat) : Int) ≤ 57) = false := decide_eq_false (by omega)
            go_wp2_with fail
            exact ⟨⟨k + 1, by omega, by go_num, rfl, hG, all_take_succ _ l k hlt HE.out hc.out⟩, by simp [intOf]; omega⟩
          · have ddge97 : decide (97 ≤ ((l[k].toNat : Nat) : Int)) = false := decide_eq_false (by omega)
            have ddle122 : decide (((l[k].toNat : Nat) : Int) ≤ 122) = true := decide_eq_true (by omega)
            have ddge65 : decide (65 ≤ ((l[k].toNat : Nat) : Int)) = false := decide_eq_false (by omega)
            have ddle90 : decide (((l[k].toNat : Nat) : Int) ≤ 90) = true := decide_eq_true (by omega)
            have ddge48 : decide (48 ≤ ((l[k].toNat : Nat) : Int)) = true := decide_eq_true (by omega)
            have ddle57 : decide (((l[k].toNat : Nat) : Int) ≤ 57) = true := decide_eq_true (by omega)
            go_wp2_with fail
            exact ⟨⟨k + 1, by omega, by go_num, rfl, hG, all_take_succ _ l k hlt HE.out hc.out⟩, by simp [intOf]; omega⟩
        · have hn := Lib.hid (letterC_no l[k] (by omega))
          have hx : (l[k].toNat : Int) ≤ 255 := by have := l[k].toNat_lt; omega
          by_cases hi : Lib.indexByte tokB l[k] < 0
          · have hc := Lib.hid (tokC_no hn.out hi)
            have hi2 : decide (Lib.indexByte tokB l[k] < 0) = true := by simp [hi]
            clear hn
            rcases hs with h1 | ⟨h1, h2⟩ | ⟨h1, h2⟩ | h1
            · have ddge97 : decide (97 ≤ ((l[k].toNat : Nat) : Int)) = false := decide_eq_false (by omega)
              have ddle122 : decide (((l[k].toNat : Nat) : Int) ≤ 122) = true := decide_eq_true (by omega)
              have ddge65 : decide (65 ≤ ((l[k].toNat : Nat) : Int)) = false := decide_eq_false (by omega)
              have ddle90 : decide (((l[k].toNat : Nat) : Int) ≤ 90) = true := decide_eq_true (by omega)
              have ddge48 : decide (48 ≤ ((l[k].toNat : Nat) : Int)) = false := decide_eq_false (by omega)
              have ddle57 : decide (((l[k].toNat : Nat) : Int) ≤ 57) = true := decide_eq_true (by omega)
              go_wp2_with (go_at_call 57; refine (indexByte_any tokB _ _).mono ?_; rintro e w1 ⟨rfl, hG1⟩)
              go_ret
              exact ⟨ret_bool (token_no hlt hc.out).symm, Gr.tr hG hG1⟩
            · have ddge97 : decide (97 ≤ ((l[k].toNat : Nat) : Int)) = false := decide_eq_false (by omega)
              have ddle122 : decide (((l[k].toNat : Nat) : Int) ≤ 122) = true := decide_eq_true (by omega)
              have ddge65 : decide (65 ≤ ((l[k].toNat : Nat) : Int)) = false := decide_eq_false (by omega)
              have ddle90 : decide (((l[k].toNat : Nat) : Int) ≤ 90) = true := decide_eq_true (by omega)
              have ddge48 : decide (48 ≤ ((l[k].toNat : Nat) : Int)) = true := decide_eq_true (by omega)
              have ddle57 : decide (((l[k].toNat : Nat) : Int) ≤ 57) = false := decide_eq_false (by omega)
              go_wp2_with (go_at_call 57; refine (indexByte_any tokB _ _).mono ?_; rintro e w1 ⟨rfl, hG1⟩)
              go_ret
              exact ⟨ret_bool (token_no hlt hc.out).symm, Gr.tr hG hG1⟩
            · have ddge97 : decide (97 ≤ ((l[k].toNat : Nat) : Int)) = false := decide_eq_false (by omega)
              have ddle122 : decide (((l[k].toNat : Nat) : Int) ≤ 122) = true := decide_eq_true (by omega)
              have ddge65 : decide (65 ≤ ((l[k].toNat : Nat) : Int)) = true := decide_eq_true (by omega)
              have ddle90 : decide (((l[k].toNat : Nat) : Int) ≤ 90) = false := decide_eq_false (by omega)
              have ddge48 : decide (48 ≤ ((l[k].toNat : Nat) : Int)) = true := decide_eq_true (by omega)
              have ddle57 : decide (((l[k].toNat : Nat) : Int) ≤ 57) = false := decide_eq_false (by omega)
              go_wp2_with (go_at_call 57; refine (indexByte_any tokB _ _).mono ?_; rintro e w1 ⟨rfl, hG1⟩)
              go_ret
              exact ⟨ret_bool (token_no hlt hc.out).symm, Gr.tr hG hG1⟩
            · have ddge97 : decide (97 ≤ ((l[k].toNat : Nat) : Int)) = true := decide_eq_true (by omega)
              have ddle122 : decide (((l[k].toNat : Nat) : Int) ≤ 122) = false := decide_eq_false (by omega)
              have ddge65 : decide (65 ≤ ((l[k].toNat : Nat) : Int)) = true := decide_eq_true (by omega)
              have ddle90 : decide (((l[k].toNat : Nat) : Int) ≤ 90) = false := decide_eq_false (by omega)
              have ddge48 : decide (48 ≤ ((l[k].toNat : Nat) : Int)) = true := decide_eq_true (by omega)
              have ddle57 : decide (((l[k].toNat : Nat) : Int) ≤ 57) = false := decide_eq_false (by omega)
              go_wp2_with (go_at_call 57; refine (indexByte_any tokB _ _).mono ?_; rintro e w1 ⟨rfl, hG1⟩)
              go_ret
              exact ⟨ret_bool (token_no hlt hc.out).symm, Gr.tr hG hG1⟩
          · have hc := Lib.hid (tokC_of_sign hi)
            have hi2 : decide (Lib.indexByte tokB l[k] < 0) = false := by simp; omega
            clear hn
            rcases hs with h1 | ⟨h1, h2⟩ | ⟨h1, h2⟩ | h1
            · have ddge97 : decide (97 ≤ ((l[k].toNat : Nat) : Int)) = false := decide_eq_false (by omega)
              have ddle122 : decide (((l[k].toNat : Nat) : Int) ≤ 122) = true := decide_eq_true (by omega)
              have ddge65 : decide (65 ≤ ((l[k].toNat : Nat) : Int)) = false := decide_eq_false (by omega)
              have ddle90 : decide (((l[k].toNat : Nat) : Int) ≤ 90) = true := decide_eq_true (by omega)
              have ddge48 : decide (48 ≤ ((l[k].toNat : Nat) : Int)) = false := decide_eq_false (by omega)
              have ddle57 : decide (((l[k].toNat : Nat) : Int) ≤ 57) = true := decide_eq_true (by omega)
              go_wp2_with (go_at_call 57; refine (indexByte_any tokB _ _).mono ?_; rintro e w1 ⟨rfl, hG1⟩)
              exact ⟨⟨k + 1, by omega, by go_num, rfl, Gr.tr hG hG1, all_take_succ _ l k hlt HE.out hc.out⟩, by simp [intOf]; omega⟩
            · have ddge97 : decide (97 ≤ ((l[k].toNat : Nat) : Int)) = false := decide_eq_false (by omega)
              have ddle122 : decide (((l[k].toNat : Nat) : Int) ≤ 122) = true := decide_eq_true (by omega)
              have ddge65 : decide (65 ≤ ((l[k].toNat : Nat) : Int)) = false := decide_eq_false (by omega)
              have ddle90 : decide (((l[k].toNat : Nat) : Int) ≤ 90) = true := decide_eq_true (by omega)
              have ddge48 : decide (48 ≤ ((l[k].toNat : Nat) : Int)) = true := decide_eq_true (by omega)
              have ddle57 : decide (((l[k].toNat : Nat) : Int) ≤ 57) = false := decide_eq_false (by omega)
              go_wp2_with (go_at_call 57; refine (indexByte_any tokB _ _).mono ?_; rintro e w1 ⟨rfl, hG1⟩)
              exact ⟨⟨k + 1, by omega, by go_num, rfl, Gr.tr hG hG1, all_take_succ _ l k hlt HE.out hc.out⟩, by simp [intOf]; omega⟩
            · have ddge97 : decide (97 ≤ ((l[k].toNat : Nat) : Int)) = false := decide_eq_false (by omega)
              have ddle122 : decide (((l[k].toNat : Nat) : Int) ≤ 122) = true := decide_eq_true (by omega)
              have ddge65 : decide (65 ≤ ((l[k].toNat : Nat) : Int)) = true := decide_eq_true (by omega)
              have ddle90 : decide (((l[k].toNat : Nat) : Int) ≤ 90) = false := decide_eq_false (by omega)
              have ddge48 : decide (48 ≤ ((l[k].toNat : Nat) : Int)) = true := decide_eq_true (by omega)
              have ddle57 : decide (((l[k].toNat : Nat) : Int) ≤ 57) = false := decide_eq_false (by omega)
              go_wp2_with (go_at_call 57; refine (indexByte_any tokB _ _).mono ?_; rintro e w1 ⟨rfl, hG1⟩)
              exact ⟨⟨k + 1, by omega, by go_num, rfl, Gr.tr hG hG1, all_take_succ _ l k hlt HE.out hc.out⟩, by simp [intOf]; omega⟩
            · have ddge97 : decide (97 ≤ ((l[k].toNat : Nat) : Int)) = true := decide_eq_true (by omega)
              have ddle122 : decide (((l[k].toNat : Nat) : Int) ≤ 122) = false := decide_eq_false (by omega)
              have ddge65 : decide (65 ≤ ((l[k].toNat : Nat) : Int)) = true := decide_eq_true (by omega)
              have ddle90 : decide (((l[k].toNat : Nat) : Int) ≤ 90) = false := decide_eq_false (by omega)
              have ddge48 : decide (48 ≤ ((l[k].toNat : Nat) : Int)) = true := decide_eq_true (by omega)
              have ddle57 : decide (((l[k].toNat : Nat) : Int) ≤ 57) = false := decide_eq_false (by omega)
              go_wp2_with (go_at_call 57; refine (indexByte_any tokB _ _).mono ?_; rintro e w1 ⟨rfl, hG1⟩)
              exact ⟨⟨k + 1, by omega, by go_num, rfl, Gr.tr hG hG1, all_take_succ _ l k hlt HE.out hc.out⟩, by simp [intOf]; omega⟩
      · go_wp2_with fail
        go_ret
        exact ⟨ret_bool (token_yes hpos hlt HE.out).symm, hG⟩
end Go.Proofs.YtnmfmcmokdoieaaGreatDoor
