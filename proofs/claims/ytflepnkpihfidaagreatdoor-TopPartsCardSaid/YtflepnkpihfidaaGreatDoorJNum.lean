/- Parts. No conditions but those that each theorem names. -/
import Derived.Test.YtflepnkpihfidaaGreatDoorJReq
import Derived.Test.YtflepnkpihfidaaGreatDoorJField1
import Derived.Test.YtflepnkpihfidaaGreatDoorJWords
set_option linter.unusedVariables false
set_option linter.unusedSimpArgs false
namespace Go.Proofs.YtflepnkpihfidaaGreatDoor
open Go.RowKit
end Go.Proofs.YtflepnkpihfidaaGreatDoor
namespace Go.Proofs.YtflepnkpihfidaaGreatDoor
open Go.RowKit
theorem specB_hi {a b : Int} (h : 999999999999999999 < a ∨ 999999999999999999 < b) : specB (a, b) = false := by
  cases hs : specB (a, b) with
  | false => rfl
  | true => have := specB_iff.1 hs; simp only at this; omega
theorem specB_in {a b : Int} (h1 : ¬ 999999999999999999 < a) (h2 : ¬ 999999999999999999 < b) (h3 : 0 ≤ a) (h4 : 0 ≤ b) : specB (a, b) = decide (a ≤ b) := by
  unfold specB
  simp only
  rw [decide_eq_true (show a ≤ 999999999999999999 by omega), decide_eq_true (show b ≤ 999999999999999999 by omega), if_neg (by omega), decide_eq_true h3, decide_eq_false (show ¬ b = -1 by omega)]; simp
theorem specB_from {a b : Int} (h1 : ¬ 999999999999999999 < a) (h2 : ¬ 999999999999999999 < b) (h3 : 0 ≤ a) (h4 : ¬ 0 ≤ b) : specB (a, b) = (b == -1) := by
  unfold specB
  simp only
  rw [decide_eq_true (show a ≤ 999999999999999999 by omega), decide_eq_true (show b ≤ 999999999999999999 by omega), if_neg (by omega), decide_eq_true h3, decide_eq_false (show ¬ a ≤ b by omega)]
  by_cases h : b = -1 <;> simp [h]
theorem specB_last {b : Int} (h2 : ¬ 999999999999999999 < b) : specB (-1, b) = decide (0 ≤ b) := by
  unfold specB
  simp only
  rw [decide_eq_true (show (-1 : Int) ≤ 999999999999999999 by omega), decide_eq_true (show b ≤ 999999999999999999 by omega)]; simp
theorem specB_neg {a b : Int} (h3 : ¬ 0 ≤ a) (h4 : ¬ a = -1) : specB (a, b) = false := by
  cases hs : specB (a, b) with
  | false => rfl
  | true => have := specB_iff.1 hs; simp only at this; omega
set_option maxHeartbeats 2000000 in
theorem specRight_any (a b : Int) (w : World) : Calls Tryz.prog 92 #[.agg #[.int .i64 a, .int .i64 b]] w fun e w' => e = .returned (.bool (specB (a, b))) ∧ Gr w w' := by
  have hG := Gr.al (Gr.refl w) (Obj.cells #[.int .i64 a, .int .i64 b] 96)
  have HG := Lib.hid hG; clear hG
  by_cases h1 : 999999999999999999 < a
  · have HS := Lib.hid (specB_hi (b := b) (.inl h1))
    have k1 : decide (999999999999999999 < a) = true := decide_eq_true h1
    go_enter Tryz.func92, Tryz.ntmps92
    go_wp2_with fail
    go_ret
    exact ⟨ret_bool HS.out.symm, HG.out⟩
  · have k1 : decide (999999999999999999 < a) = false := decide_eq_false h1
    by_cases h2 : 999999999999999999 < b
    · have HS := Lib.hid (specB_hi (a := a) (.inr h2))
      have k2 : decide (999999999999999999 < b) = true := decide_eq_true h2
      go_enter Tryz.func92, Tryz.ntmps92
      go_wp2_with fail
      go_ret
      exact ⟨ret_bool HS.out.symm, HG.out⟩
    · have k2 : decide (999999999999999999 < b) = false := decide_eq_false h2
      by_cases h3 : 0 ≤ a
      · have k3 : decide (0 ≤ a) = true := decide_eq_true h3
        by_cases h4 : 0 ≤ b
        · have HS := Lib.hid (specB_in h1 h2 h3 h4)
          have k4 : decide (0 ≤ b) = true := decide_eq_true h4
          go_enter Tryz.func92, Tryz.ntmps92
          go_wp2_with fail
          go_ret
          exact ⟨ret_bool HS.out.symm, HG.out⟩
        · have HS := Lib.hid (specB_from h1 h2 h3 h4)
          have k4 : decide (0 ≤ b) = false := decide_eq_false h4
          go_enter Tryz.func92, Tryz.ntmps92
          go_wp2_with fail
          go_ret
          exact ⟨ret_bool HS.out.symm, HG.out⟩
      · have k3 : decide (0 ≤ a) = false := decide_eq_false h3
        by_cases h5 : a = -1
        · subst h5
          have HS := Lib.hid (specB_last h2)
          go_enter Tryz.func92, Tryz.ntmps92
          go_wp2_with fail
          go_ret
          exact ⟨ret_bool HS.out.symm, HG.out⟩
        · have k5 : (a == -1) = false := by simpa using h5
          have HS := Lib.hid (specB_neg (b := b) h3 h5)
          go_enter Tryz.func92, Tryz.ntmps92
          go_wp2_with fail
          go_ret
          exact ⟨ret_bool HS.out.symm, HG.out⟩
set_option maxHeartbeats 2000000 in
theorem refSpecRight_any (a b : Int) (w : World) : Calls Tryz.prog 38 #[.agg #[.int .i64 a, .int .i64 b]] w fun e w' => e = .returned (.bool (specB (a, b))) ∧ Gr w w' := by
  have hG := Gr.al (Gr.refl w) (Obj.cells #[.int .i64 a, .int .i64 b] 96)
  have HG := Lib.hid hG; clear hG
  by_cases h1 : 999999999999999999 < a
  · have HS := Lib.hid (specB_hi (b := b) (.inl h1))
    have k1 : decide (999999999999999999 < a) = true := decide_eq_true h1
    go_enter Tryz.func38, Tryz.ntmps38
    go_wp2_with fail
    go_ret
    exact ⟨ret_bool HS.out.symm, HG.out⟩
  · have k1 : decide (999999999999999999 < a) = false := decide_eq_false h1
    by_cases h2 : 999999999999999999 < b
    · have HS := Lib.hid (specB_hi (a := a) (.inr h2))
      have k2 : decide (999999999999999999 < b) = true := decide_eq_true h2
      go_enter Tryz.func38, Tryz.ntmps38
      go_wp2_with fail
      go_ret
      exact ⟨ret_bool HS.out.symm, HG.out⟩
    · have k2 : decide (999999999999999999 < b) = false := decide_eq_false h2
      by_cases h5 : a = -1
      · subst h5
        have HS := Lib.hid (specB_last h2)
        go_enter Tryz.func38, Tryz.ntmps38
        go_wp2_with fail
        go_ret
        exact ⟨ret_bool HS.out.symm, HG.out⟩
      · have k5 : (a == -1) = false := by simpa using h5
        by_cases h3 : 0 ≤ a
        · have k3 : decide (0 ≤ a) = true := decide_eq_true h3
          by_cases h6 : b = -1
          · subst h6
            have HS := Lib.hid (specB_from h1 h2 h3 (by omega))
            go_enter Tryz.func38, Tryz.ntmps38
            go_wp2_with fail
            go_ret
            exact ⟨ret_bool HS.out.symm, HG.out⟩
          · have k6 : (b == -1) = false := by simpa using h6
            have HS := Lib.hid (show specB (a, b) = decide (a ≤ b) from by
              by_cases h4 : 0 ≤ b
              · exact specB_in h1 h2 h3 h4
              · rw [specB_from h1 h2 h3 h4, k6, decide_eq_false (by omega)])
            go_enter Tryz.func38, Tryz.ntmps38
            go_wp2_with fail
            go_ret
            exact ⟨ret_bool HS.out.symm, HG.out⟩
        · have k3 : decide (0 ≤ a) = false := decide_eq_false h3
          have HS := Lib.hid (specB_neg (b := b) h3 h5)
          go_enter Tryz.func38, Tryz.ntmps38
          go_wp2_with fail
          go_ret
          exact ⟨ret_bool HS.out.symm, HG.out⟩
end Go.Proofs.YtflepnkpihfidaaGreatDoor
