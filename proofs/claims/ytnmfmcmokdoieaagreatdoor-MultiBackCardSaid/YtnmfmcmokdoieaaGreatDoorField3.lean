/- Which fields may be: both functions are one. Contracts; no conditions but that a text's length is an int's. -/
import Derived.Test.YtnmfmcmokdoieaaGreatDoorField2
set_option linter.unusedVariables false
set_option linter.unusedSimpArgs false
namespace Go.Proofs.YtnmfmcmokdoieaaGreatDoor
open Go.RowKit
theorem trim_any (l : List UInt8) (w : World) (_hl : l.length ≤ 9223372036854775807) : Calls Tryz.prog 39 #[str l, .string ⟨#[32, 9]⟩] w fun e w' => e = .returned (str (trim l)) ∧ Gr w w' :=
  Tryz.strings_Trim_ascii ⟨l.toArray⟩ ⟨#[32, 9]⟩ w _hl (by decide) (ascii_of_all (by decide))
theorem box2 (w : World) (a b : Value) (t : TypeId) : Gr w (w.alloc (Obj.cells #[a, b] t)) ∧ (w.alloc (Obj.cells #[a, b] t)).cell? ⟨w.heap.size, 0, none⟩ = some a ∧ (w.alloc (Obj.cells #[a, b] t)).cell? ⟨w.heap.size, 1, none⟩ = some b :=
  ⟨Gr.al (Gr.refl w) _, by simp, by simp⟩
set_option maxHeartbeats 1000000 in
theorem right_any (n v : List UInt8) (w : World) (_hn : n.length ≤ 9223372036854775800) (_hv : v.length ≤ 9223372036854775800) :
    Calls Tryz.prog 25 #[.agg #[str n, str v]] w fun e w' => e = .returned (.bool (right (n, v))) ∧ Gr w w' := by
  obtain ⟨hG0, c0, c1⟩ := box2 w (str n) (str v) 60
  by_cases h1 : n.length ≤ 200
  · have d1 : decide (200 < (n.length : Int)) = false := decide_eq_false (by omega)
    by_cases h2 : v.length ≤ 8192
    · have d2 : decide (8192 < (v.length : Int)) = false := decide_eq_false (by omega)
      cases h3 : token n with
      | true =>
        cases h4 : (trim v == v) with
        | true =>
          have HR := Lib.hid (right_rest h3 h1 h2 h4)
          go_enter Tryz.func25, Tryz.ntmps25
          go_upto_region 1 with fail
          generalize w.alloc (Obj.cells #[str n, str v] 60) = w0 at *
          go_wp2_with (go_at_call 38; refine (token_any _ _ (by omega)).mono ?_; rintro e w1 ⟨rfl, hG1⟩; have c0 := Gr.cell hG1 c0; have c1 := Gr.cell hG1 c1)
          have hq1 := fun i => Gr.cell (gw_gr w1 i) c1
          refine wp_region_gw (by kernel_rfl) (by kernel_rfl) ?_
          repeat (first | go_big_quiet_step ((go_at_call 39; exact gw_call (trim_any _ _ (by omega)))) | quiet_step ((go_at_call 39; exact gw_call (trim_any _ _ (by omega)))))
          refine wpQuiet_nil ?_; intro wq hwq; obtain ⟨iq, rfl⟩ := hwq
          have hG2 := Gr.tr (Gr.tr hG0 hG1) (gw_gr w1 iq)
          have c1' := Gr.cell (gw_gr w1 iq) c1
          generalize gw w1 iq = w2 at *
          clear iq hq1 hG0 hG1 c1 c0
          go_wp2_with fail
          go_loop [2, 3, 4, 30] (fun r x y i => ∃ k : Nat, k ≤ v.length ∧ i = .int .i64 k ∧ (v.take k).all visC = true) (fun _ _ _ i => v.length - (intOf i).toNat)
          case atStart => exact ⟨0, Nat.zero_le _, rfl, rfl⟩
          case round =>
            obtain ⟨k, hk, rfl, hE⟩ := hrel
            have HE := Lib.hid hE; clear hE
            by_cases hlt : k < v.length
            · have hs : ((v[k].toNat : Int) < 9 ∨ (9 < (v[k].toNat : Int) ∧ (v[k].toNat : Int) < 32) ∨ 126 < (v[k].toNat : Int)) ∨ ((v[k].toNat : Int) = 9 ∨ (32 ≤ (v[k].toNat : Int) ∧ (v[k].toNat : Int) ≤ 126)) := by omega
              have hx : (v[k].toNat : Int) ≤ 255 := by have := v[k].toNat_lt; omega
              rcases hs with hs | hs
              · have hc := Lib.hid (visC_no v[k] (by omega))
                rcases hs with h | ⟨h, h'⟩ | h
                · have ddlt32 : decide (((v[k].toNat : Nat) : Int) < 32) = true := decide_eq_true (by omega)
                  have ddgt126 : decide (126 < ((v[k].toNat : Nat) : Int)) = false := decide_eq_false (by omega)
                  have ddne9 : (((v[k].toNat : Nat) : Int) != 9) = true := by simp; omega
                  go_wp2_with fail
                  go_ret
                  exact ⟨ret_bool (by rw [HR.out, all_no _ _ _ hlt hc.out]), hG2⟩
                · have ddlt32 : decide (((v[k].toNat : Nat) : Int) < 32) = true := decide_eq_true (by omega)
                  have ddgt126 : decide (126 < ((v[k].toNat : Nat) : Int)) = false := decide_eq_false (by omega)
                  have ddne9 : (((v[k].toNat : Nat) : Int) != 9) = true := by simp; omega
                  go_wp2_with fail
                  go_ret
                  exact ⟨ret_bool (by rw [HR.out, all_no _ _ _ hlt hc.out]), hG2⟩
                · have ddlt32 : decide (((v[k].toNat : Nat) : Int) < 32) = false := decide_eq_false (by omega)
                  have ddgt126 : decide (126 < ((v[k].toNat : Nat) : Int)) = true := decide_eq_true (by omega)
                  have ddne9 : (((v[k].toNat : Nat) : Int) != 9) = true := by simp; omega
                  go_wp2_with fail
                  go_ret
                  exact ⟨ret_bool (by rw [HR.out, all_no _ _ _ hlt hc.out]), hG2⟩
              · have hc := Lib.hid (visC_yes v[k] (by omega))
                rcases hs with h | ⟨h, h'⟩
                · have ddlt32 : decide (((v[k].toNat : Nat) : Int) < 32) = true := decide_eq_true (by omega)
                  have ddgt126 : decide (126 < ((v[k].toNat : Nat) : Int)) = false := decide_eq_false (by omega)
                  have ddne9 : (((v[k].toNat : Nat) : Int) != 9) = false := by simp; omega
                  clear h
                  go_wp2_with fail
                  exact ⟨⟨k + 1, by omega, by go_num, all_take_succ _ v k hlt HE.out hc.out⟩, by simp [intOf]; omega⟩
                · have ddlt32 : decide (((v[k].toNat : Nat) : Int) < 32) = false := decide_eq_false (by omega)
                  have ddgt126 : decide (126 < ((v[k].toNat : Nat) : Int)) = false := decide_eq_false (by omega)
                  have ddne9 : (((v[k].toNat : Nat) : Int) != 9) = true := by simp; omega
                  go_wp2_with fail
                  exact ⟨⟨k + 1, by omega, by go_num, all_take_succ _ v k hlt HE.out hc.out⟩, by simp [intOf]; omega⟩
            · go_wp2_with fail
              go_ret
              exact ⟨ret_bool (by rw [HR.out, all_end _ _ _ hlt HE.out]), hG2⟩
        | false =>
          have HR := Lib.hid (right_head (n := n) (v := v) (fun h => by simp [h4] at h))
          go_enter Tryz.func25, Tryz.ntmps25
          go_upto_region 1 with fail
          generalize w.alloc (Obj.cells #[str n, str v] 60) = w0 at *
          go_wp2_with (go_at_call 38; refine (token_any _ _ (by omega)).mono ?_; rintro e w1 ⟨rfl, hG1⟩; have c0 := Gr.cell hG1 c0; have c1 := Gr.cell hG1 c1)
          have hq1 := fun i => Gr.cell (gw_gr w1 i) c1
          refine wp_region_gw (by kernel_rfl) (by kernel_rfl) ?_
          repeat (first | go_big_quiet_step ((go_at_call 39; exact gw_call (trim_any _ _ (by omega)))) | quiet_step ((go_at_call 39; exact gw_call (trim_any _ _ (by omega)))))
          refine wpQuiet_nil ?_; intro wq hwq; obtain ⟨iq, rfl⟩ := hwq
          have hG2 := Gr.tr (Gr.tr hG0 hG1) (gw_gr w1 iq)
          generalize gw w1 iq = w2 at *
          go_wp2_with fail
          go_ret
          exact ⟨ret_bool HR.out.symm, hG2⟩
      | false =>
        have HR := Lib.hid (right_head (n := n) (v := v) (fun h => by simp [h3] at h))
        go_enter Tryz.func25, Tryz.ntmps25
        go_upto_region 1 with fail
        generalize w.alloc (Obj.cells #[str n, str v] 60) = w0 at *
        go_wp2_with (go_at_call 38; refine (token_any _ _ (by omega)).mono ?_; rintro e w1 ⟨rfl, hG1⟩)
        go_ret
        exact ⟨ret_bool HR.out.symm, Gr.tr hG0 hG1⟩
    · have d2 : decide (8192 < (v.length : Int)) = true := decide_eq_true (by omega)
      have HR := Lib.hid (right_head (n := n) (v := v) (fun h => h2 h.2.2.1))
      go_enter Tryz.func25, Tryz.ntmps25
      go_upto_region 1 with fail
      generalize w.alloc (Obj.cells #[str n, str v] 60) = w0 at *
      go_wp2_with fail
      go_ret
      exact ⟨ret_bool HR.out.symm, hG0⟩
  · have d1 : decide (200 < (n.length : Int)) = true := decide_eq_true (by omega)
    have HR := Lib.hid (right_head (n := n) (v := v) (fun h => h1 h.2.1))
    go_enter Tryz.func25, Tryz.ntmps25
    go_upto_region 1 with fail
    generalize w.alloc (Obj.cells #[str n, str v] 60) = w0 at *
    go_wp2_with fail
    go_ret
    exact ⟨ret_bool HR.out.symm, hG0⟩
end Go.Proofs.YtnmfmcmokdoieaaGreatDoor
