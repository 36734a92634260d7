/- Layer 39: a size, kindly read; a line's parts. No conditions. -/
import Derived.Test.YtghopokdfjcjlaaDoorConf2
import Derived.Test.YtghopokdfjcjlaaDoorRange2
import Derived.Test.YtghopokdfjcjlaaDoorField1
namespace Go.Proofs.YtghopokdfjcjlaaDoor
open Go.RowKit
theorem kind_nil : kindL [] = none := rfl
theorem kind_none {s : List UInt8} (h : numberL (if unitL s = 1 then s else s.dropLast) = none) : kindL s = none := by unfold kindL; rw [h]
theorem kind_some {s : List UInt8} {n : Nat} (h : numberL (if unitL s = 1 then s else s.dropLast) = some n) : kindL s = if n ≤ 1125899906842624 / unitL s then some (n * unitL s) else none := by unfold kindL; rw [h]
theorem number_lt {s : List UInt8} {n : Nat} (h : numberL s = some n) : n < 1000000000000000000 := by
  unfold numberL at h
  split at h
  · rename_i h1
    injection h with h
    have := numB_lt s h1.2.2
    have h2 : (10 : Nat) ^ s.length ≤ 10 ^ 18 := Nat.pow_le_pow_right (by omega) h1.2.1
    have h3 : (10 : Nat) ^ 18 = 1000000000000000000 := by decide
    omega
  · cases h
theorem num_none {s : List UInt8} (h : numberL s = none) (w : World) : Calls Tryd.prog 40 #[str s] w fun e w' => e = .returned (.tuple #[.int .i64 0, .bool false]) ∧ w' = w :=
  (c_number_any s w).mono fun e w' ⟨h1, h2⟩ => ⟨by rw [h1, h]; rfl, h2⟩
theorem num_some {s : List UInt8} {n : Nat} (h : numberL s = some n) (w : World) : Calls Tryd.prog 40 #[str s] w fun e w' => e = .returned (.tuple #[.int .i64 n, .bool true]) ∧ w' = w :=
  (c_number_any s w).mono fun e w' ⟨h1, h2⟩ => ⟨by rw [h1, h]; rfl, h2⟩
set_option maxHeartbeats 4000000 in
theorem c_loose_any (s : List UInt8) (w : World) (hs : s.length ≤ 9223372036854775807) : Calls Tryd.prog 26 #[str s] w fun e w' => e = .returned (optV (kindL s)) ∧ w' = w := by
  rcases nil_or_snoc s with rfl | ⟨t, c, rfl⟩
  · go_enter Tryd.func26, Tryd.ntmps26
    go_wp2_with (go_at_call 40; refine (num_none rfl _).mono ?_; rintro e w1 ⟨rfl, rfl⟩)
    go_ret2
    exact ⟨rfl, rfl⟩
  · simp only [List.length_append, List.length_cons, List.length_nil] at hs
    have hne : ((t ++ [c]) == []) = false := by simp
    have hx : c.toNat ≤ 255 := by have := c.toNat_lt; omega
    by_cases c1 : c = 107
    · subst c1
      have hu : unitL (t ++ [107]) = 1024 := by unfold unitL; rw [List.getLast?_concat]; simp
      have hsub : (if unitL (t ++ [107]) = 1 then t ++ [107] else (t ++ [107]).dropLast) = t := by rw [hu]; simp
      cases hn : numberL (t) with
      | none =>
        have HK := Lib.hid (kind_none (s := t ++ [107]) (by rw [hsub]; exact hn))
        have HN := Lib.hid (fun (w : World) => num_none hn w)
        clear hn hu hsub
        go_enter Tryd.func26, Tryd.ntmps26
        go_wp2_with (go_at_call 40; refine (HN.out _).mono ?_; rintro e w1 ⟨rfl, rfl⟩)
        go_ret2
        exact ⟨by rw [HK.out]; rfl, rfl⟩
      | some n =>
        have HK := Lib.hid (kind_some (s := t ++ [107]) (n := n) (by rw [hsub]; exact hn))
        rw [hu] at HK
        have HN := Lib.hid (fun (w : World) => num_some hn w)
        have hnl := number_lt hn
        clear hn hu hsub
        by_cases hb : n ≤ 1099511627776
        · have kb : decide (1099511627776 < (n : Int)) = false := decide_eq_false (by omega)
          have ew : IntKind.i64.wrap ((n : Int) * 1024) = (n : Int) * 1024 := IntWalk.i64_in _ (by omega)
          go_enter Tryd.func26, Tryd.ntmps26
          go_wp2_with (go_at_call 40; refine (HN.out _).mono ?_; rintro e w1 ⟨rfl, rfl⟩)
          go_ret2
          exact ⟨by rw [HK.out, if_pos (by omega)]; simp [optV], rfl⟩
        · have kb : decide (1099511627776 < (n : Int)) = true := decide_eq_true (by omega)
          go_enter Tryd.func26, Tryd.ntmps26
          go_wp2_with (go_at_call 40; refine (HN.out _).mono ?_; rintro e w1 ⟨rfl, rfl⟩)
          go_ret2
          exact ⟨by rw [HK.out, if_neg (by omega)]; rfl, rfl⟩
    · by_cases c2 : c = 109
      · subst c2
        have hu : unitL (t ++ [109]) = 1048576 := by unfold unitL; rw [List.getLast?_concat]; simp
        have hsub : (if unitL (t ++ [109]) = 1 then t ++ [109] else (t ++ [109]).dropLast) = t := by rw [hu]; simp
        cases hn : numberL (t) with
        | none =>
          have HK := Lib.hid (kind_none (s := t ++ [109]) (by rw [hsub]; exact hn))
          have HN := Lib.hid (fun (w : World) => num_none hn w)
          clear hn hu hsub
          go_enter Tryd.func26, Tryd.ntmps26
          go_wp2_with (go_at_call 40; refine (HN.out _).mono ?_; rintro e w1 ⟨rfl, rfl⟩)
          go_ret2
          exact ⟨by rw [HK.out]; rfl, rfl⟩
        | some n =>
          have HK := Lib.hid (kind_some (s := t ++ [109]) (n := n) (by rw [hsub]; exact hn))
          rw [hu] at HK
          have HN := Lib.hid (fun (w : World) => num_some hn w)
          have hnl := number_lt hn
          clear hn hu hsub
          by_cases hb : n ≤ 1073741824
          · have kb : decide (1073741824 < (n : Int)) = false := decide_eq_false (by omega)
            have ew : IntKind.i64.wrap ((n : Int) * 1048576) = (n : Int) * 1048576 := IntWalk.i64_in _ (by omega)
            go_enter Tryd.func26, Tryd.ntmps26
            go_wp2_with (go_at_call 40; refine (HN.out _).mono ?_; rintro e w1 ⟨rfl, rfl⟩)
            go_ret2
            exact ⟨by rw [HK.out, if_pos (by omega)]; simp [optV], rfl⟩
          · have kb : decide (1073741824 < (n : Int)) = true := decide_eq_true (by omega)
            go_enter Tryd.func26, Tryd.ntmps26
            go_wp2_with (go_at_call 40; refine (HN.out _).mono ?_; rintro e w1 ⟨rfl, rfl⟩)
            go_ret2
            exact ⟨by rw [HK.out, if_neg (by omega)]; rfl, rfl⟩
      · by_cases c3 : c = 103
        · subst c3
          have hu : unitL (t ++ [103]) = 1073741824 := by unfold unitL; rw [List.getLast?_concat]; simp
          have hsub : (if unitL (t ++ [103]) = 1 then t ++ [103] else (t ++ [103]).dropLast) = t := by rw [hu]; simp
          cases hn : numberL (t) with
          | none =>
            have HK := Lib.hid (kind_none (s := t ++ [103]) (by rw [hsub]; exact hn))
            have HN := Lib.hid (fun (w : World) => num_none hn w)
            clear hn hu hsub
            go_enter Tryd.func26, Tryd.ntmps26
            go_wp2_with (go_at_call 40; refine (HN.out _).mono ?_; rintro e w1 ⟨rfl, rfl⟩)
            go_ret2
            exact ⟨by rw [HK.out]; rfl, rfl⟩
          | some n =>
            have HK := Lib.hid (kind_some (s := t ++ [103]) (n := n) (by rw [hsub]; exact hn))
            rw [hu] at HK
            have HN := Lib.hid (fun (w : World) => num_some hn w)
            have hnl := number_lt hn
            clear hn hu hsub
            by_cases hb : n ≤ 1048576
            · have kb : decide (1048576 < (n : Int)) = false := decide_eq_false (by omega)
              have ew : IntKind.i64.wrap ((n : Int) * 1073741824) = (n : Int) * 1073741824 := IntWalk.i64_in _ (by omega)
              go_enter Tryd.func26, Tryd.ntmps26
              go_wp2_with (go_at_call 40; refine (HN.out _).mono ?_; rintro e w1 ⟨rfl, rfl⟩)
              go_ret2
              exact ⟨by rw [HK.out, if_pos (by omega)]; simp [optV], rfl⟩
            · have kb : decide (1048576 < (n : Int)) = true := decide_eq_true (by omega)
              go_enter Tryd.func26, Tryd.ntmps26
              go_wp2_with (go_at_call 40; refine (HN.out _).mono ?_; rintro e w1 ⟨rfl, rfl⟩)
              go_ret2
              exact ⟨by rw [HK.out, if_neg (by omega)]; rfl, rfl⟩
        · have hu : unitL (t ++ [c]) = 1 := by unfold unitL; rw [List.getLast?_concat]; simp [c1, c2, c3]
          have hsub : (if unitL (t ++ [c]) = 1 then t ++ [c] else (t ++ [c]).dropLast) = t ++ [c] := by rw [hu]; simp
          have d1 : ((c.toNat : Int) == 107) = false := by
            have : c.toNat ≠ 107 := fun h => c1 (UInt8.toNat_inj.1 h)
            simp; omega
          have d2 : ((c.toNat : Int) == 109) = false := by
            have : c.toNat ≠ 109 := fun h => c2 (UInt8.toNat_inj.1 h)
            simp; omega
          have d3 : ((c.toNat : Int) == 103) = false := by
            have : c.toNat ≠ 103 := fun h => c3 (UInt8.toNat_inj.1 h)
            simp; omega
          cases hn : numberL (t ++ [c]) with
          | none =>
            have HK := Lib.hid (kind_none (s := t ++ [c]) (by rw [hsub]; exact hn))
            have HN := Lib.hid (fun (w : World) => num_none hn w)
            clear hn hu hsub
            go_enter Tryd.func26, Tryd.ntmps26
            go_wp2_with (go_at_call 40; refine (HN.out _).mono ?_; rintro e w1 ⟨rfl, rfl⟩)
            go_ret2
            exact ⟨by rw [HK.out]; rfl, rfl⟩
          | some n =>
            have HK := Lib.hid (kind_some (s := t ++ [c]) (n := n) (by rw [hsub]; exact hn))
            rw [hu] at HK
            have HN := Lib.hid (fun (w : World) => num_some hn w)
            have hnl := number_lt hn
            clear hn hu hsub
            by_cases hb : n ≤ 1125899906842624
            · have kb : decide (1125899906842624 < (n : Int)) = false := decide_eq_false (by omega)
              go_enter Tryd.func26, Tryd.ntmps26
              go_wp2_with (go_at_call 40; refine (HN.out _).mono ?_; rintro e w1 ⟨rfl, rfl⟩)
              go_ret2
              exact ⟨by rw [HK.out, if_pos (by omega)]; simp [optV], rfl⟩
            · have kb : decide (1125899906842624 < (n : Int)) = true := decide_eq_true (by omega)
              go_enter Tryd.func26, Tryd.ntmps26
              go_wp2_with (go_at_call 40; refine (HN.out _).mono ?_; rintro e w1 ⟨rfl, rfl⟩)
              go_ret2
              exact ⟨by rw [HK.out, if_neg (by omega)]; rfl, rfl⟩
theorem upto_last (c : UInt8) : ∀ (s : List UInt8), Lib.indexByte s c = -1 → upto c s = s
  | [], _ => rfl
  | b :: t, h => by
    unfold Lib.indexByte at h
    by_cases hb : (b == c) = true
    · rw [if_pos hb] at h; omega
    · rw [if_neg hb] at h
      have hb' : (b != c) = true := by simpa using hb
      show List.takeWhile _ _ = _
      rw [List.takeWhile_cons, if_pos hb']
      by_cases h1 : (Lib.indexByte t c == -1) = true
      · have := upto_last c t (by simpa using h1)
        unfold upto at this; rw [this]
      · rw [if_neg h1] at h
        have := Lib.indexByte_ge t c
        have h1' : Lib.indexByte t c ≠ -1 := by simpa using h1
        omega
theorem upto_at (c : UInt8) : ∀ (s : List UInt8) (k : Nat), Lib.indexByte s c = k → upto c s = s.take k
  | [], k, h => by unfold Lib.indexByte at h; omega
  | b :: t, k, h => by
    unfold Lib.indexByte at h
    by_cases hb : (b == c) = true
    · rw [if_pos hb] at h
      obtain rfl : k = 0 := by omega
      have hb' : ¬ (b != c) = true := by simpa using hb
      show List.takeWhile _ _ = _
      rw [List.takeWhile_cons, if_neg hb']; rfl
    · rw [if_neg hb] at h
      have hb' : (b != c) = true := by simpa using hb
      by_cases h1 : (Lib.indexByte t c == -1) = true
      · rw [if_pos h1] at h; omega
      · rw [if_neg h1] at h
        have := Lib.indexByte_ge t c
        have h1' : Lib.indexByte t c ≠ -1 := by simpa using h1
        obtain ⟨j, rfl⟩ : ∃ j, k = j + 1 := ⟨k - 1, by omega⟩
        have := upto_at c t j (by omega)
        unfold upto at this
        show List.takeWhile _ _ = _
        rw [List.takeWhile_cons, if_pos hb', this]; rfl
def CutEnd (s : List UInt8) (c : UInt8) (w : World) (e : Ending) (w' : World) : Prop := (∃ r b, e = .returned (.tuple #[str (upto c s), str r, .bool b])) ∧ Gr w w'
set_option maxHeartbeats 4000000 in
theorem cutLite (s : List UInt8) (c : UInt8) (w : World) (hs : s.length ≤ 9223372036854775806) : Calls Tryd.prog 44 #[str s, str [c]] w (CutEnd s c w) := by
  have hge := Lib.indexByte_ge s c
  by_cases hi : Lib.indexByte s c = -1
  · have hlt : decide (0 ≤ Lib.indexByte s c) = false := decide_eq_false (by omega)
    have HU := Lib.hid (upto_last c s hi)
    go_enter Tryd.func44, Tryd.ntmps44
    go_wp2_with (go_at_call 61; refine (Tryd.stringslite_Index_one ⟨s.toArray⟩ c w).mono ?_; rintro e w1 ⟨rfl, rfl⟩)
    go_ret3
    exact ⟨⟨[], false, by rw [HU.out]; rfl⟩, Gr.refl _⟩
  · obtain ⟨k, hk⟩ : ∃ k : Nat, Lib.indexByte s c = k := ⟨(Lib.indexByte s c).toNat, by omega⟩
    obtain ⟨hkl, hsp⟩ := splitC_at c s k hk
    have hlt : decide (0 ≤ Lib.indexByte s c) = true := decide_eq_true (by omega)
    have HU := Lib.hid (upto_at c s k hk)
    clear hsp
    go_enter Tryd.func44, Tryd.ntmps44
    go_upto_region 3 with (go_at_call 61; refine (Tryd.stringslite_Index_one ⟨s.toArray⟩ c w).mono ?_; rintro e w1 ⟨rfl, rfl⟩)
    refine wp_region_gw (by kernel_rfl) (by kernel_rfl) ?_
    repeat (first | go_big_quiet_step (fail) | quiet_step (fail))
    refine wpQuiet_nil ?_; intro wq hwq; obtain ⟨iq, rfl⟩ := hwq
    go_wp2_with fail
    go_ret3
    exact ⟨⟨s.drop (k + 1), true, by rw [HU.out]; rfl⟩, gw_gr _ _⟩
set_option maxHeartbeats 4000000 in
theorem cutOne (s : List UInt8) (c : UInt8) (w : World) (hs : s.length ≤ 9223372036854775806) : Calls Tryd.prog 35 #[str s, str [c]] w (CutEnd s c w) := by
  have HC := Lib.hid (cutLite s c w hs)
  clear hs
  go_enter Tryd.func35, Tryd.ntmps35
  go_wp2_with (go_at_call 44; refine HC.out.mono ?_; rintro e w1 ⟨⟨r, b, rfl⟩, hG1⟩)
  go_ret3
  exact ⟨⟨r, b, rfl⟩, hG1⟩
/-- the first blank -/
theorem any_none : ∀ (s : List UInt8), Lib.indexAny s [32, 9] = -1 → blankAt s = none
  | [], _ => rfl
  | b :: t, h => by
    unfold Lib.indexAny at h
    change (if blk b = true then (0 : Int) else if (Lib.indexAny t [32, 9] == -1) = true then -1 else Lib.indexAny t [32, 9] + 1) = -1 at h
    by_cases hb : blk b = true
    · rw [if_pos hb] at h; omega
    · rw [if_neg hb] at h
      by_cases h1 : (Lib.indexAny t [32, 9] == -1) = true
      · have := any_none t (by simpa using h1)
        unfold blankAt at this ⊢
        rw [List.findIdx?_cons, if_neg hb, this]; rfl
      · rw [if_neg h1] at h
        have := Lib.indexAny_ge [32, 9] t
        have h1' : Lib.indexAny t [32, 9] ≠ -1 := by simpa using h1
        omega
theorem any_some : ∀ (s : List UInt8) (k : Nat), Lib.indexAny s [32, 9] = k → blankAt s = some k ∧ k < s.length
  | [], k, h => by unfold Lib.indexAny at h; omega
  | b :: t, k, h => by
    unfold Lib.indexAny at h
    change (if blk b = true then (0 : Int) else if (Lib.indexAny t [32, 9] == -1) = true then -1 else Lib.indexAny t [32, 9] + 1) = k at h
    by_cases hb : blk b = true
    · rw [if_pos hb] at h
      obtain rfl : k = 0 := by omega
      refine ⟨?_, by simp⟩
      unfold blankAt
      rw [List.findIdx?_cons, if_pos hb]
    · rw [if_neg hb] at h
      by_cases h1 : (Lib.indexAny t [32, 9] == -1) = true
      · rw [if_pos h1] at h; omega
      · rw [if_neg h1] at h
        have := Lib.indexAny_ge [32, 9] t
        have h1' : Lib.indexAny t [32, 9] ≠ -1 := by simpa using h1
        obtain ⟨j, rfl⟩ : ∃ j, k = j + 1 := ⟨k - 1, by omega⟩
        have := any_some t j (by omega)
        refine ⟨?_, by simp; omega⟩
        have h2 := this.1
        unfold blankAt at h2 ⊢
        rw [List.findIdx?_cons, if_neg hb, h2]; rfl
def Ascii (s : List UInt8) : Prop := ∀ c ∈ s, c.toNat < 128
theorem anyBlank (s : List UInt8) (w : World) (hs : s.length ≤ 4000000000) (ha : Ascii s) : Calls Tryd.prog 52 #[str s, .string ⟨#[32, 9]⟩] w fun e w' => e = .returned (.int .i64 (Lib.indexAny s [32, 9])) ∧ Gr w w' :=
  Tryd.strings_IndexAny_laid ⟨s.toArray⟩ ⟨#[32, 9]⟩ w (by show s.length < _; omega) (by decide) (fun j b hb => ha b (List.mem_of_getElem? (by simpa using hb))) (by intro j b hb; match j, hb with | 0, hb => cases hb; decide | 1, hb => cases hb; decide | j + 2, hb => simp at hb)
end Go.Proofs.YtghopokdfjcjlaaDoor
