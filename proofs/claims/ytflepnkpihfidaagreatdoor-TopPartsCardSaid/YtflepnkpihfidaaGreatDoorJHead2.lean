/- Parts. No conditions but those that each theorem names. -/
import Derived.Test.YtflepnkpihfidaaGreatDoorJHead1
import Derived.StillTailTactics
set_option linter.unusedVariables false
set_option linter.unusedSimpArgs false
namespace Go.Proofs.YtflepnkpihfidaaGreatDoor
open Go.RowKit
end Go.Proofs.YtflepnkpihfidaaGreatDoor
namespace Go.Proofs.YtflepnkpihfidaaGreatDoor
open Go.RowKit
end Go.Proofs.YtflepnkpihfidaaGreatDoor
namespace Go.Proofs.YtflepnkpihfidaaGreatDoor
open Go.RowKit
set_option maxHeartbeats 1000000 in
theorem refObject_any (l : List UInt8) (w : World) (_hl : l.length ≤ 9223372036854775000) : Calls Tryz.prog 36 #[str l] w fun e w' => e = .returned (.bool (objB l)) ∧ Gr w w' := by
  by_cases h0 : l.length < 1
  · have hn : l = [] := List.eq_nil_of_length_eq_zero (by omega)
    subst hn
    go_enter Tryz.func36, Tryz.ntmps36
    go_wp2_with fail
    go_ret
    exact ⟨rfl, Gr.refl _⟩
  · have h0' : 0 < l.length := by omega
    have d0 : decide ((l.length : Int) < 1) = false := decide_eq_false (by omega)
    clear h0
    by_cases h2 : 200 < l.length
    · have HO := Lib.hid (objB_long h2)
      have d2 : decide (200 < (l.length : Int)) = true := decide_eq_true (by omega)
      go_enter Tryz.func36, Tryz.ntmps36
      go_wp2_with fail
      go_ret
      exact ⟨ret_bool HO.out.symm, Gr.refl _⟩
    · have d2 : decide (200 < (l.length : Int)) = false := decide_eq_false (by omega)
      by_cases h47 : (l[0].toNat : Int) = 47
      · have HO := Lib.hid (objB_rest h0' (by omega) h47)
        have hne : ((l[0].toNat : Int) != 47) = false := by simp [h47]
        clear h47
        go_enter Tryz.func36, Tryz.ntmps36
        go_wp2_with fail
        clear hne
        go_loop [3] (fun i => ∃ k : Nat, k ≤ l.length ∧ i = .int .i64 k ∧ (l.take k).all objC = true) (fun i => l.length - (intOf i).toNat)
        case atStart => exact ⟨0, Nat.zero_le _, rfl, rfl⟩
        case round =>
          obtain ⟨k, hk, rfl, hE⟩ := hrel
          have HE := Lib.hid hE; clear hE
          by_cases hlt : k < l.length
          · have hx : (l[k].toNat : Int) ≤ 255 := by have := l[k].toNat_lt; omega
            by_cases h33 : 33 ≤ (l[k].toNat : Int)
            · by_cases h126 : (l[k].toNat : Int) ≤ 126
              · have hc := Lib.hid (objC_yes l[k] ⟨h33, h126⟩)
                have ddle32 : decide (((l[k].toNat : Nat) : Int) ≤ 32) = false := decide_eq_false (by omega)
                have ddgt126 : decide (126 < ((l[k].toNat : Nat) : Int)) = false := decide_eq_false (by omega)
                go_wp2_with fail
                exact ⟨⟨k + 1, by omega, by go_num, all_take_succ _ l k hlt HE.out hc.out⟩, by simp [intOf]; omega⟩
              · have hc := Lib.hid (objC_no l[k] (fun h => h126 h.2))
                have ddle32 : decide (((l[k].toNat : Nat) : Int) ≤ 32) = false := decide_eq_false (by omega)
                have ddgt126 : decide (126 < ((l[k].toNat : Nat) : Int)) = true := decide_eq_true (by omega)
                go_wp2_with fail
                go_ret
                exact ⟨ret_bool (by rw [HO.out, all_no _ l k hlt hc.out]), Gr.refl _⟩
            · have hc := Lib.hid (objC_no l[k] (fun h => h33 h.1))
              have ddle32 : decide (((l[k].toNat : Nat) : Int) ≤ 32) = true := decide_eq_true (by omega)
              have ddgt126 : decide (126 < ((l[k].toNat : Nat) : Int)) = false := decide_eq_false (by omega)
              go_wp2_with fail
              go_ret
              exact ⟨ret_bool (by rw [HO.out, all_no _ l k hlt hc.out]), Gr.refl _⟩
          · go_wp2_with fail
            go_ret
            exact ⟨ret_bool (by rw [HO.out, all_end _ l k hlt HE.out]), Gr.refl _⟩
      · have HO := Lib.hid (objB_first h0' h47)
        have hne : ((l[0].toNat : Int) != 47) = true := by simpa using h47
        go_enter Tryz.func36, Tryz.ntmps36
        go_wp2_with fail
        go_ret
        exact ⟨ret_bool HO.out.symm, Gr.refl _⟩
end Go.Proofs.YtflepnkpihfidaaGreatDoor
namespace Go.Proofs.YtflepnkpihfidaaGreatDoor
open Go.RowKit
end Go.Proofs.YtflepnkpihfidaaGreatDoor
namespace Go.Proofs.YtflepnkpihfidaaGreatDoor
open Go.RowKit
end Go.Proofs.YtflepnkpihfidaaGreatDoor
namespace Go.Proofs.YtflepnkpihfidaaGreatDoor
open Go.RowKit
end Go.Proofs.YtflepnkpihfidaaGreatDoor
