/- Layer 39: sizes, written and read, by the program and by the document. The condition: the library's table of powers of ten lies where it was laid. -/
import Derived.Test.YtghopokdfjcjlaaDoorConf3
import Derived.Test.YtghopokdfjcjlaaDoorDig
namespace Go.Proofs.YtghopokdfjcjlaaDoor
open Go.RowKit
theorem sized_neg {n : Int} (h : n < 0) : sizedL n = [] := by unfold sizedL; rw [if_pos h]
theorem sized_zero : sizedL 0 = [48] := rfl
theorem sized_g {m : Nat} (h0 : 0 < m) (h : (m : Int) % 1073741824 = 0) : sizedL m = Lib.itoa ((m : Int) / 1073741824) ++ [103] := by unfold sizedL; rw [if_neg (by omega), if_neg (by omega), if_pos h]
theorem sized_m {m : Nat} (h0 : 0 < m) (h1 : ¬ (m : Int) % 1073741824 = 0) (h : (m : Int) % 1048576 = 0) : sizedL m = Lib.itoa ((m : Int) / 1048576) ++ [109] := by unfold sizedL; rw [if_neg (by omega), if_neg (by omega), if_neg h1, if_pos h]
theorem sized_k {m : Nat} (h0 : 0 < m) (h1 : ¬ (m : Int) % 1073741824 = 0) (h2 : ¬ (m : Int) % 1048576 = 0) (h : (m : Int) % 1024 = 0) : sizedL m = Lib.itoa ((m : Int) / 1024) ++ [107] := by unfold sizedL; rw [if_neg (by omega), if_neg (by omega), if_neg h1, if_neg h2, if_pos h]
theorem sized_n {m : Nat} (h0 : 0 < m) (h1 : ¬ (m : Int) % 1073741824 = 0) (h2 : ¬ (m : Int) % 1048576 = 0) (h3 : ¬ (m : Int) % 1024 = 0) : sizedL m = Lib.itoa (m : Int) := by unfold sizedL; rw [if_neg (by omega), if_neg (by omega), if_neg h1, if_neg h2, if_neg h3]
theorem itoa_div {m k : Nat} (_hk : 0 < k) (h : m ≤ 9223372036854775807) : (Lib.itoa ((m : Int) / k)).length ≤ 19 := by
  rw [show (m : Int) / k = ((m / k : Nat) : Int) from by simp]
  exact itoa_len (Nat.le_trans (Nat.div_le_self _ _) h)
theorem sized_len (n : Int) (h : n ≤ 9223372036854775807) : (sizedL n).length ≤ 20 := by
  by_cases h0 : n < 0
  · rw [sized_neg h0]; simp
  · obtain ⟨m, rfl⟩ : ∃ m : Nat, n = m := ⟨n.toNat, by omega⟩
    by_cases hz : m = 0
    · subst hz; decide
    · have g1 : (Lib.itoa ((m : Int) / 1073741824)).length ≤ 19 := itoa_div (m := m) (k := 1073741824) (by omega) (by omega)
      have g2 : (Lib.itoa ((m : Int) / 1048576)).length ≤ 19 := itoa_div (m := m) (k := 1048576) (by omega) (by omega)
      have g3 : (Lib.itoa ((m : Int) / 1024)).length ≤ 19 := itoa_div (m := m) (k := 1024) (by omega) (by omega)
      have g4 := itoa_len (m := m) (by omega)
      unfold sizedL
      rw [if_neg (by omega), if_neg (by omega)]
      split
      · simp; omega
      · split
        · simp; omega
        · split
          · simp; omega
          · omega
set_option maxHeartbeats 2000000 in
theorem c_written_any (n : Int) (w : World) (hp : Pw w) (h0 : -9223372036854775808 ≤ n) (h1 : n ≤ 9223372036854775807) : Calls Tryd.prog 13 #[.int .i64 n] w fun e w' => e = .returned (str (sizedL n)) ∧ Gr w w' := by
  have HP := Lib.hid hp
  clear hp
  by_cases hn : n < 0
  · have k1 : decide (n < 0) = true := decide_eq_true hn
    have HS := Lib.hid (sized_neg hn)
    go_enter Tryd.func13, Tryd.ntmps13
    go_wp2_with fail
    go_ret
    exact ⟨by rw [HS.out]; rfl, Gr.refl _⟩
  · have k1 : decide (n < 0) = false := decide_eq_false hn
    by_cases hz : n = 0
    · subst hz
      go_enter Tryd.func13, Tryd.ntmps13
      go_wp2_with fail
      go_ret
      exact ⟨rfl, Gr.refl _⟩
    · obtain ⟨m, rfl⟩ : ∃ m : Nat, n = m := ⟨n.toNat, by omega⟩
      have k2 : ((m : Int) == 0) = false := by simpa using hz
      have hm : 0 < m := by omega
      have l1 : (Lib.itoa ((m : Int) / 1073741824)).length ≤ 19 := itoa_div (m := m) (k := 1073741824) (by omega) (by omega)
      have l2 : (Lib.itoa ((m : Int) / 1048576)).length ≤ 19 := itoa_div (m := m) (k := 1048576) (by omega) (by omega)
      have l3 : (Lib.itoa ((m : Int) / 1024)).length ≤ 19 := itoa_div (m := m) (k := 1024) (by omega) (by omega)
      clear hn hz h0
      by_cases g1 : (m : Int) % 1073741824 = 0
      · have HS := Lib.hid (sized_g hm g1)
        have e1 : ((m : Int) % 1073741824 == 0) = true := by simpa using g1
        clear g1
        go_enter Tryd.func13, Tryd.ntmps13
        go_wp2_with (go_at_call 24; refine (fmtInt_any _ _ HP.out (by omega) (by omega)).mono ?_; rintro e w1 ⟨rfl, hG⟩)
        go_ret
        exact ⟨by rw [HS.out]; rfl, hG⟩
      · have e1 : ((m : Int) % 1073741824 == 0) = false := by simpa using g1
        by_cases g2 : (m : Int) % 1048576 = 0
        · have HS := Lib.hid (sized_m hm g1 g2)
          have e2 : ((m : Int) % 1048576 == 0) = true := by simpa using g2
          clear g1 g2
          go_enter Tryd.func13, Tryd.ntmps13
          go_wp2_with (go_at_call 24; refine (fmtInt_any _ _ HP.out (by omega) (by omega)).mono ?_; rintro e w1 ⟨rfl, hG⟩)
          go_ret
          exact ⟨by rw [HS.out]; rfl, hG⟩
        · have e2 : ((m : Int) % 1048576 == 0) = false := by simpa using g2
          by_cases g3 : (m : Int) % 1024 = 0
          · have HS := Lib.hid (sized_k hm g1 g2 g3)
            have e3 : ((m : Int) % 1024 == 0) = true := by simpa using g3
            clear g1 g2 g3
            go_enter Tryd.func13, Tryd.ntmps13
            go_wp2_with (go_at_call 24; refine (fmtInt_any _ _ HP.out (by omega) (by omega)).mono ?_; rintro e w1 ⟨rfl, hG⟩)
            go_ret
            exact ⟨by rw [HS.out]; rfl, hG⟩
          · have HS := Lib.hid (sized_n hm g1 g2 g3)
            have e3 : ((m : Int) % 1024 == 0) = false := by simpa using g3
            clear g1 g2 g3
            go_enter Tryd.func13, Tryd.ntmps13
            go_wp2_with (go_at_call 24; refine (fmtInt_any _ _ HP.out (by omega) (by omega)).mono ?_; rintro e w1 ⟨rfl, hG⟩)
            go_ret
            exact ⟨by rw [HS.out]; rfl, hG⟩
/-- what Size hands back -/
def sizeV (o : Option Nat) : Value := .tuple #[.int .i64 ((o.getD 0 : Nat) : Int), .int .i64 (if o.isSome then 0 else 2)]
theorem kind_le {s : List UInt8} {n : Nat} (h : kindL s = some n) : n ≤ 1125899906842624 := by
  unfold kindL at h
  split at h
  · cases h
  · split at h
    · rename_i k hk
      injection h with h
      subst h
      have hu : unitL s = 1024 ∨ unitL s = 1048576 ∨ unitL s = 1073741824 ∨ unitL s = 1 := by unfold unitL; repeat (first | split | simp)
      rcases hu with e | e | e | e <;> rw [e] at hk ⊢ <;> omega
    · cases h
theorem size_none {s : List UInt8} (h : kindL s = none) : sizeL s = none := by unfold sizeL; rw [h]
theorem size_no {s : List UInt8} {n : Nat} (h : kindL s = some n) (h2 : sizedL n ≠ s) : sizeL s = none := by unfold sizeL; rw [h]; simp only; rw [if_neg h2]
theorem size_yes {s : List UInt8} {n : Nat} (h : kindL s = some n) (h2 : sizedL n = s) : sizeL s = some n := by unfold sizeL; rw [h]; simp only; rw [if_pos h2]
set_option maxHeartbeats 2000000 in
theorem c_size_any (s : List UInt8) (w : World) (hp : Pw w) (hs : s.length ≤ 9223372036854775807) : Calls Tryd.prog 15 #[str s] w fun e w' => e = .returned (sizeV (sizeL s)) ∧ Gr w w' := by
  have HP := Lib.hid hp
  clear hp
  have HL := Lib.hid (fun (w : World) => c_loose_any s w hs)
  cases hk : kindL s with
  | none =>
    rw [hk] at HL
    have HS := Lib.hid (size_none hk)
    unfold optV at HL
    simp only [Option.getD_none, Option.isSome_none] at HL
    clear hk
    go_enter Tryd.func15, Tryd.ntmps15
    go_wp2_with (go_at_call 26; refine (HL.out _).mono ?_; rintro e w1 ⟨rfl, rfl⟩)
    go_ret2
    exact ⟨by rw [HS.out]; rfl, Gr.refl _⟩
  | some n =>
    rw [hk] at HL
    unfold optV at HL
    simp only [Option.getD_some, Option.isSome_some] at HL
    have hn := kind_le hk
    by_cases h2 : sizedL n = s
    · have HS := Lib.hid (size_yes hk h2)
      have e1 : (sizedL (n : Int) != s) = false := by simpa using h2
      have e2 : (sizedL (n : Int) == s) = true := by simpa using h2
      clear hk h2
      go_enter Tryd.func15, Tryd.ntmps15
      go_wp2_with (first | (go_at_call 26; refine (HL.out _).mono ?_; rintro e w1 ⟨rfl, rfl⟩) | (go_at_call 13; refine (c_written_any _ _ HP.out (by omega) (by omega)).mono ?_; rintro e w2 ⟨rfl, hG⟩))
      go_ret2
      exact ⟨by rw [HS.out]; rfl, hG⟩
    · have HS := Lib.hid (size_no hk h2)
      have e1 : (sizedL (n : Int) != s) = true := by simpa using h2
      have e2 : (sizedL (n : Int) == s) = false := by simpa using h2
      clear hk h2
      go_enter Tryd.func15, Tryd.ntmps15
      go_wp2_with (first | (go_at_call 26; refine (HL.out _).mono ?_; rintro e w1 ⟨rfl, rfl⟩) | (go_at_call 13; refine (c_written_any _ _ HP.out (by omega) (by omega)).mono ?_; rintro e w2 ⟨rfl, hG⟩))
      go_ret2
      exact ⟨by rw [HS.out]; rfl, hG⟩
end Go.Proofs.YtghopokdfjcjlaaDoor
