/- Parts. No conditions but those that each theorem names. -/
import Derived.Test.YtflepnkpihfidaaGreatDoorJReq
import Derived.Test.YtflepnkpihfidaaGreatDoorJField1
import Derived.Test.YtflepnkpihfidaaGreatDoorJPut
import Derived.Test.YtflepnkpihfidaaGreatDoorJLawA
import Derived.Test.YtflepnkpihfidaaGreatDoorJField2
set_option linter.unusedVariables false
set_option linter.unusedSimpArgs false
namespace Go.Proofs.YtflepnkpihfidaaGreatDoor
open Go.RowKit
set_option maxHeartbeats 2000000 in
theorem tagRight_any (x : List UInt8) (wk : Bool) (w : World) (_hx : x.length ≤ 9223372036854775800) : Calls Tryz.prog 56 #[.agg #[str x, .bool wk]] w fun e w' => e = .returned (.bool (tagB x)) ∧ Gr w w' := by
  obtain ⟨hG0, c0, c1⟩ := box2 w (str x) (.bool wk) 25
  by_cases h1 : 1 ≤ x.length
  · have d1 : decide ((x.length : Int) < 1) = false := decide_eq_false (by omega)
    by_cases h2 : x.length ≤ 100
    · have d2 : decide (100 < (x.length : Int)) = false := decide_eq_false (by omega)
      have HR := Lib.hid (tagB_rest h1 h2)
      go_enter Tryz.func56, Tryz.ntmps56
      go_upto_region 1 with fail
      generalize w.alloc (Obj.cells #[str x, .bool wk] 25) = w0 at *
      go_wp2_with fail
      go_loop [3, 4, 18] (fun _ _ i => ∃ k : Nat, k ≤ x.length ∧ i = .int .i64 k ∧ (x.take k).all tagC = true) (fun _ _ i => x.length - (intOf i).toNat)
      case atStart => exact ⟨0, Nat.zero_le _, rfl, rfl⟩
      case round =>
        obtain ⟨k, hk, rfl, hE⟩ := hrel
        have HE := Lib.hid hE; clear hE
        by_cases hlt : k < x.length
        · have hx : x[k].toNat ≤ 255 := by have := x[k].toNat_lt; omega
          rcases (show x[k].toNat ≤ 32 ∨ x[k].toNat = 34 ∨ 127 ≤ x[k].toNat ∨ x[k].toNat = 33 ∨ (35 ≤ x[k].toNat ∧ x[k].toNat ≤ 126) by omega) with h | h | h | h | ⟨h, h'⟩
          · have hc := Lib.hid (tagC_no (c := x[k]) (by omega))
            have ddlt33 : decide (((x[k].toNat : Nat) : Int) < 33) = true := decide_eq_true (by omega)
            go_wp2_with fail
            go_ret
            exact ⟨ret_bool (by rw [HR.out, all_no _ _ _ hlt hc.out]), hG0⟩
          · have hc := Lib.hid (tagC_no (c := x[k]) (by omega))
            have ddlt33 : decide (((x[k].toNat : Nat) : Int) < 33) = false := decide_eq_false (by omega)
            have ddeq34 : (((x[k].toNat : Nat) : Int) == 34) = true := by simp; omega
            clear h
            go_wp2_with fail
            go_ret
            exact ⟨ret_bool (by rw [HR.out, all_no _ _ _ hlt hc.out]), hG0⟩
          · have hc := Lib.hid (tagC_no (c := x[k]) (by omega))
            have ddlt33 : decide (((x[k].toNat : Nat) : Int) < 33) = false := decide_eq_false (by omega)
            have ddeq34 : (((x[k].toNat : Nat) : Int) == 34) = false := by simp; omega
            have ddgt126 : decide (126 < ((x[k].toNat : Nat) : Int)) = true := decide_eq_true (by omega)
            go_wp2_with fail
            go_ret
            exact ⟨ret_bool (by rw [HR.out, all_no _ _ _ hlt hc.out]), hG0⟩
          · have hc := Lib.hid (tagC_yes (c := x[k]) (by omega))
            have ddlt33 : decide (((x[k].toNat : Nat) : Int) < 33) = false := decide_eq_false (by omega)
            have ddeq34 : (((x[k].toNat : Nat) : Int) == 34) = false := by simp; omega
            have ddgt126 : decide (126 < ((x[k].toNat : Nat) : Int)) = false := decide_eq_false (by omega)
            clear h
            go_wp2_with fail
            exact ⟨⟨k + 1, by omega, by go_num, all_take_succ _ x k hlt HE.out hc.out⟩, by simp [intOf]; omega⟩
          · have hc := Lib.hid (tagC_yes (c := x[k]) (by omega))
            have ddlt33 : decide (((x[k].toNat : Nat) : Int) < 33) = false := decide_eq_false (by omega)
            have ddeq34 : (((x[k].toNat : Nat) : Int) == 34) = false := by simp; omega
            have ddgt126 : decide (126 < ((x[k].toNat : Nat) : Int)) = false := decide_eq_false (by omega)
            go_wp2_with fail
            exact ⟨⟨k + 1, by omega, by go_num, all_take_succ _ x k hlt HE.out hc.out⟩, by simp [intOf]; omega⟩
        · go_wp2_with fail
          go_ret
          exact ⟨ret_bool (by rw [HR.out, all_end _ _ _ hlt HE.out]), hG0⟩
    · have d2 : decide (100 < (x.length : Int)) = true := decide_eq_true (by omega)
      have HR := Lib.hid (tagB_len (t := x) (by omega))
      go_enter Tryz.func56, Tryz.ntmps56
      go_upto_region 1 with fail
      generalize w.alloc (Obj.cells #[str x, .bool wk] 25) = w0 at *
      go_wp2_with fail
      go_ret
      exact ⟨ret_bool HR.out.symm, hG0⟩
  · have d1 : decide ((x.length : Int) < 1) = true := decide_eq_true (by omega)
    have HR := Lib.hid (tagB_len (t := x) (by omega))
    go_enter Tryz.func56, Tryz.ntmps56
    go_upto_region 1 with fail
    generalize w.alloc (Obj.cells #[str x, .bool wk] 25) = w0 at *
    go_wp2_with fail
    go_ret
    exact ⟨ret_bool HR.out.symm, hG0⟩
set_option maxHeartbeats 2000000 in
theorem refTagRight_any (x : List UInt8) (wk : Bool) (w : World) (_hx : x.length ≤ 9223372036854775800) : Calls Tryz.prog 100 #[.agg #[str x, .bool wk]] w fun e w' => e = .returned (.bool (tagB x)) ∧ Gr w w' := by
  obtain ⟨hG0, c0, c1⟩ := box2 w (str x) (.bool wk) 25
  by_cases h1 : 1 ≤ x.length
  · have d1 : decide ((x.length : Int) < 1) = false := decide_eq_false (by omega)
    by_cases h2 : x.length ≤ 100
    · have d2 : decide (100 < (x.length : Int)) = false := decide_eq_false (by omega)
      have HR := Lib.hid (tagB_rest h1 h2)
      go_enter Tryz.func100, Tryz.ntmps100
      go_upto_region 1 with fail
      generalize w.alloc (Obj.cells #[str x, .bool wk] 25) = w0 at *
      go_wp2_with fail
      go_loop [4, 3] (fun _ i => ∃ k : Nat, k ≤ x.length ∧ i = .int .i64 k ∧ (x.take k).all tagC = true) (fun _ i => x.length - (intOf i).toNat)
      case atStart => exact ⟨0, Nat.zero_le _, rfl, rfl⟩
      case round =>
        obtain ⟨k, hk, rfl, hE⟩ := hrel
        have HE := Lib.hid hE; clear hE
        by_cases hlt : k < x.length
        · have hx : x[k].toNat ≤ 255 := by have := x[k].toNat_lt; omega
          rcases (show x[k].toNat ≤ 32 ∨ x[k].toNat = 34 ∨ 127 ≤ x[k].toNat ∨ x[k].toNat = 33 ∨ (35 ≤ x[k].toNat ∧ x[k].toNat ≤ 126) by omega) with h | h | h | h | ⟨h, h'⟩
          · have hc := Lib.hid (tagC_no (c := x[k]) (by omega))
            have ddlt33 : decide (((x[k].toNat : Nat) : Int) < 33) = true := decide_eq_true (by omega)
            go_wp2_with fail
            go_ret
            exact ⟨ret_bool (by rw [HR.out, all_no _ _ _ hlt hc.out]), hG0⟩
          · have hc := Lib.hid (tagC_no (c := x[k]) (by omega))
            have ddlt33 : decide (((x[k].toNat : Nat) : Int) < 33) = false := decide_eq_false (by omega)
            have ddeq34 : (((x[k].toNat : Nat) : Int) == 34) = true := by simp; omega
            clear h
            go_wp2_with fail
            go_ret
            exact ⟨ret_bool (by rw [HR.out, all_no _ _ _ hlt hc.out]), hG0⟩
          · have hc := Lib.hid (tagC_no (c := x[k]) (by omega))
            have ddlt33 : decide (((x[k].toNat : Nat) : Int) < 33) = false := decide_eq_false (by omega)
            have ddeq34 : (((x[k].toNat : Nat) : Int) == 34) = false := by simp; omega
            have ddgt126 : decide (126 < ((x[k].toNat : Nat) : Int)) = true := decide_eq_true (by omega)
            go_wp2_with fail
            go_ret
            exact ⟨ret_bool (by rw [HR.out, all_no _ _ _ hlt hc.out]), hG0⟩
          · have hc := Lib.hid (tagC_yes (c := x[k]) (by omega))
            have ddlt33 : decide (((x[k].toNat : Nat) : Int) < 33) = false := decide_eq_false (by omega)
            have ddeq34 : (((x[k].toNat : Nat) : Int) == 34) = false := by simp; omega
            have ddgt126 : decide (126 < ((x[k].toNat : Nat) : Int)) = false := decide_eq_false (by omega)
            clear h
            go_wp2_with fail
            exact ⟨⟨k + 1, by omega, by go_num, all_take_succ _ x k hlt HE.out hc.out⟩, by simp [intOf]; omega⟩
          · have hc := Lib.hid (tagC_yes (c := x[k]) (by omega))
            have ddlt33 : decide (((x[k].toNat : Nat) : Int) < 33) = false := decide_eq_false (by omega)
            have ddeq34 : (((x[k].toNat : Nat) : Int) == 34) = false := by simp; omega
            have ddgt126 : decide (126 < ((x[k].toNat : Nat) : Int)) = false := decide_eq_false (by omega)
            go_wp2_with fail
            exact ⟨⟨k + 1, by omega, by go_num, all_take_succ _ x k hlt HE.out hc.out⟩, by simp [intOf]; omega⟩
        · go_wp2_with fail
          go_ret
          exact ⟨ret_bool (by rw [HR.out, all_end _ _ _ hlt HE.out]), hG0⟩
    · have d2 : decide (100 < (x.length : Int)) = true := decide_eq_true (by omega)
      have HR := Lib.hid (tagB_len (t := x) (by omega))
      go_enter Tryz.func100, Tryz.ntmps100
      go_upto_region 1 with fail
      generalize w.alloc (Obj.cells #[str x, .bool wk] 25) = w0 at *
      go_wp2_with fail
      go_ret
      exact ⟨ret_bool HR.out.symm, hG0⟩
  · have d1 : decide ((x.length : Int) < 1) = true := decide_eq_true (by omega)
    have HR := Lib.hid (tagB_len (t := x) (by omega))
    go_enter Tryz.func100, Tryz.ntmps100
    go_upto_region 1 with fail
    generalize w.alloc (Obj.cells #[str x, .bool wk] 25) = w0 at *
    go_wp2_with fail
    go_ret
    exact ⟨ret_bool HR.out.symm, hG0⟩
set_option maxHeartbeats 1000000 in
theorem tagText_any (t : TagT) (w : World) (_hx : t.1.length ≤ 9223372036854775800) : Calls Tryz.prog 123 #[.agg #[str t.1, .bool t.2]] w fun e w' => e = .returned (str (tagTxt t)) ∧ Gr w w' := by
  obtain ⟨x, wk⟩ := t
  obtain ⟨hG0, c0, c1⟩ := box2 w (str x) (.bool wk) 25
  have HR := Lib.hid (fun (w : World) => tagRight_any x wk w _hx)
  cases hb : tagB x with
  | false =>
    rw [hb] at HR
    have HT := Lib.hid (show tagTxt (x, wk) = [] from by unfold tagTxt; rw [if_neg (by rw [hb]; decide)])
    go_enter Tryz.func123, Tryz.ntmps123
    go_upto_region 1 with fail
    generalize w.alloc (Obj.cells #[str x, .bool wk] 25) = w0 at *
    go_wp2_with (go_at_call 56; refine (HR.out _).mono ?_; rintro e w1 ⟨rfl, hG1⟩)
    go_ret
    exact ⟨ret_str HT.out.symm, Gr.tr hG0 hG1⟩
  | true =>
    rw [hb] at HR
    have HT := Lib.hid (show tagTxt (x, wk) = (if wk then [87, 47] else []) ++ (34 :: (x ++ [34])) from by unfold tagTxt; rw [if_pos hb])
    cases wk with
    | false =>
      go_enter Tryz.func123, Tryz.ntmps123
      go_upto_region 1 with fail
      generalize w.alloc (Obj.cells #[str x, .bool false] 25) = w0 at *
      go_wp2_with (go_at_call 56; refine (HR.out _).mono ?_; rintro e w1 ⟨rfl, hG1⟩; have c0 := hG1.cell c0; have c1 := hG1.cell c1)
      go_ret
      refine ⟨?_, Gr.tr hG0 hG1⟩
      rw [HT.out]
      refine congrArg (fun b => Ending.returned (.string b)) ?_
      apply ByteArray.ext
      simp
    | true =>
      go_enter Tryz.func123, Tryz.ntmps123
      go_upto_region 1 with fail
      generalize w.alloc (Obj.cells #[str x, .bool true] 25) = w0 at *
      go_wp2_with (go_at_call 56; refine (HR.out _).mono ?_; rintro e w1 ⟨rfl, hG1⟩; have c0 := hG1.cell c0; have c1 := hG1.cell c1)
      go_ret
      refine ⟨?_, Gr.tr hG0 hG1⟩
      rw [HT.out]
      refine congrArg (fun b => Ending.returned (.string b)) ?_
      apply ByteArray.ext
      simp
end Go.Proofs.YtflepnkpihfidaaGreatDoor
namespace Go.Proofs.YtflepnkpihfidaaGreatDoor
open Go.RowKit
def tagCs (l : List TagT) : List Value := l.flatMap fun t => [str t.1, .bool t.2]
/-- a list of tags -/
def Tags (w : World) (v : Value) (l : List TagT) : Prop := Sl w v l.length (tagCs l)
theorem Tags.gr {w w' : World} {v : Value} {l} (h : Tags w v l) (g : Gr w w') : Tags w' v l := Sl.gr h g
theorem tagCs_at (l : List TagT) (k : Nat) (h : k < l.length) : (tagCs l)[k * 2]? = some (str l[k].1) ∧ (tagCs l)[k * 2 + 1]? = some (.bool l[k].2) := by
  induction l generalizing k with
  | nil => simp at h
  | cons f fs ih =>
    have hc : tagCs (f :: fs) = str f.1 :: .bool f.2 :: tagCs fs := rfl
    rw [hc]
    cases k with
    | zero => simp
    | succ k =>
      have := ih k (by simpa using h)
      rw [show (k + 1) * 2 = k * 2 + 1 + 1 from by omega]
      simpa using this
theorem Tags.open {w : World} {v : Value} {xs : List TagT} (h : Tags w v xs) : ∃ A c, v = .slice A xs.length c ∧ xs.length ≤ c ∧ xs.length ≤ 9223372036854775807 ∧ ∀ (k : Nat) (hk : k < xs.length), ∃ b o, A = some ⟨b, o, none⟩ ∧ b < w.heap.size ∧ w.cell? ⟨b, o + k * 2, none⟩ = some (str xs[k].1) ∧ w.cell? ⟨b, o + k * 2 + 1, none⟩ = some (.bool xs[k].2) := by
  obtain ⟨A, c, hv, hc, hm, ho⟩ := Sl.open h
  refine ⟨A, c, hv, hc, hm, fun k hk => ?_⟩
  obtain ⟨e1, e2⟩ := tagCs_at xs k hk
  obtain ⟨b, o, hA, hb, hj⟩ := ho _ _ e1
  exact ⟨b, o, hA, hb, hj _ _ e1, by rw [Nat.add_assoc]; exact hj _ _ e2⟩
end Go.Proofs.YtflepnkpihfidaaGreatDoor
namespace Go.Proofs.YtflepnkpihfidaaGreatDoor
open Go.RowKit
def ShortT (l : List TagT) : Prop := ∀ t ∈ l, t.1.length ≤ 140737488355328
end Go.Proofs.YtflepnkpihfidaaGreatDoor
