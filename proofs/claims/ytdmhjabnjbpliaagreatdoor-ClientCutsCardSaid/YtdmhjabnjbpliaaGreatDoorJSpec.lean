/- Several texts in one (their own heads say what each is). No conditions but those that each theorem names. -/
import Derived.Test.YtdmhjabnjbpliaaGreatDoorJNum
import Derived.Test.YtdmhjabnjbpliaaGreatDoorJDate
import Derived.Test.YtdmhjabnjbpliaaGreatDoorJHead2
import Derived.Test.YtdmhjabnjbpliaaGreatDoorDig
import Derived.Test.YtdmhjabnjbpliaaGreatDoorJReq
import Derived.Test.YtdmhjabnjbpliaaGreatDoorJPut
import Derived.Test.YtdmhjabnjbpliaaGreatDoorJBytes
import Derived.Test.YtdmhjabnjbpliaaGreatDoorJField2
import Derived.Test.YtdmhjabnjbpliaaGreatDoorTab
set_option linter.unusedVariables false
set_option linter.unusedSimpArgs false
/- XSpec2 -/
namespace Go.Proofs.YtdmhjabnjbpliaaGreatDoor
open Go.RowKit
set_option maxHeartbeats 1000000 in
theorem refDigits4_any (m : Nat) : ∀ (w : World), m ≤ 9223372036854775807 → Calls Tryz.prog 22 #[.int .i64 m] w fun e w' => e = .returned (str (Lib.decDigits m)) ∧ Gr w w' := by
  induction m using Nat.strongRecOn with
  | _ m ih =>
    intro w hm
    have h1 : 48 + (m : Int) % 10 = ((dig1 m).toNat : Int) := by rw [dig1_val]; omega
    have b1 : (dig1 m).toNat ≤ 255 := by have := (dig1 m).toNat_lt; omega
    have HS := Lib.hid (fun (x : UInt8) => show Byts (w.alloc (.cells #[byt x] 5)) (.slice (some ⟨w.heap.size, 0, none⟩) 1 1) [x] from sl_lit w _ [byt x] 1 (by decide))
    by_cases h : m < 10
    · have k1 : decide ((m : Int) < 10) = true := decide_eq_true (by omega)
      have HD := Lib.hid (show Lib.decDigits m = [dig1 m] from by rw [dec_small h]; unfold dig1; rw [Nat.mod_eq_of_lt h])
      generalize dig1 m = a at *
      go_enter Tryz.func22, Tryz.ntmps22
      go_wp2_with (refine wpList_toStr _ rfl rfl rfl (HS.out _) ?_)
      go_ret
      exact ⟨ret_str HD.out.symm, Gr.al (Gr.refl w) _⟩
    · have k1 : decide ((m : Int) < 10) = false := decide_eq_false (by omega)
      have HI := Lib.hid (fun (w : World) => show Calls Tryz.prog 22 #[.int .i64 ((m : Int) / 10)] w fun e w' => e = .returned (str (Lib.decDigits (m / 10))) ∧ Gr w w' from by
        rw [show (m : Int) / 10 = ((m / 10 : Nat) : Int) from by omega]
        exact ih (m / 10) (by omega) w (by omega))
      have HD := Lib.hid (show Lib.decDigits m = Lib.decDigits (m / 10) ++ [dig1 m] from by rw [dec_great h]; rfl)
      have hl : (Lib.decDigits (m / 10)).length ≤ 19 := dec_len19 (by omega)
      clear ih h
      generalize dig1 m = a at *
      go_enter Tryz.func22, Tryz.ntmps22
      go_wp2_with (first | (refine wpList_toStr _ rfl rfl rfl (HS.out _) ?_) | (go_at_call 22; refine (HI.out _).mono ?_; rintro e w1 ⟨rfl, hG1⟩))
      go_ret
      exact ⟨ret_str HD.out.symm, Gr.tr (Gr.al (Gr.refl w) _) hG1⟩
theorem refDigits4_int (x : Int) (w : World) (h0 : 0 ≤ x) (h1 : x ≤ 9223372036854775807) : Calls Tryz.prog 22 #[.int .i64 x] w fun e w' => e = .returned (str (Lib.itoa x)) ∧ Gr w w' := by
  obtain ⟨m, rfl⟩ : ∃ m : Nat, x = m := ⟨x.toNat, by omega⟩
  rw [itoa_nat]
  exact refDigits4_any m w (by omega)
/-! ### an item -/
end Go.Proofs.YtdmhjabnjbpliaaGreatDoor
/- XBuilder2 -/
namespace Go.Proofs.YtdmhjabnjbpliaaGreatDoor
open Go.RowKit
end Go.Proofs.YtdmhjabnjbpliaaGreatDoor
/- XSpec3 -/
namespace Go.Proofs.YtdmhjabnjbpliaaGreatDoor
open Go.RowKit
def specCs (l : List SpecT) : List Value := l.flatMap fun s => [.int .i64 s.1, .int .i64 s.2]
/-- a list of ranges -/
def Specs (w : World) (v : Value) (l : List SpecT) : Prop := Sl w v l.length (specCs l)
theorem Specs.gr {w w' : World} {v : Value} {l} (h : Specs w v l) (g : Gr w w') : Specs w' v l := Sl.gr h g
theorem specCs_at (l : List SpecT) (k : Nat) (h : k < l.length) : (specCs l)[k * 2]? = some (.int .i64 l[k].1) ∧ (specCs l)[k * 2 + 1]? = some (.int .i64 l[k].2) := by
  induction l generalizing k with
  | nil => simp at h
  | cons f fs ih =>
    have hc : specCs (f :: fs) = .int .i64 f.1 :: .int .i64 f.2 :: specCs fs := rfl
    rw [hc]
    cases k with
    | zero => simp
    | succ k =>
      have := ih k (by simpa using h)
      rw [show (k + 1) * 2 = k * 2 + 1 + 1 from by omega]
      simpa using this
theorem Specs.open {w : World} {v : Value} {xs : List SpecT} (h : Specs w v xs) : ∃ A c, v = .slice A xs.length c ∧ xs.length ≤ c ∧ xs.length ≤ 9223372036854775807 ∧ ∀ (k : Nat) (hk : k < xs.length), ∃ b o, A = some ⟨b, o, none⟩ ∧ b < w.heap.size ∧ w.cell? ⟨b, o + k * 2, none⟩ = some (.int .i64 xs[k].1) ∧ w.cell? ⟨b, o + k * 2 + 1, none⟩ = some (.int .i64 xs[k].2) := by
  obtain ⟨A, c, hv, hc, hm, ho⟩ := Sl.open h
  refine ⟨A, c, hv, hc, hm, fun k hk => ?_⟩
  obtain ⟨e1, e2⟩ := specCs_at xs k hk
  obtain ⟨b, o, hA, hb, hj⟩ := ho _ _ e1
  exact ⟨b, o, hA, hb, hj _ _ e1, by rw [Nat.add_assoc]; exact hj _ _ e2⟩
theorem Specs.nil (w : World) : Specs w (.slice none 0 0) [] := ⟨none, 0, rfl, Nat.le_refl _, by simp, .inl rfl⟩
end Go.Proofs.YtdmhjabnjbpliaaGreatDoor
/- XSpec4 -/
namespace Go.Proofs.YtdmhjabnjbpliaaGreatDoor
open Go.RowKit
end Go.Proofs.YtdmhjabnjbpliaaGreatDoor
