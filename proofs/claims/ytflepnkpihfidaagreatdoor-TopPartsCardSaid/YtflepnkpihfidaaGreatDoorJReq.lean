/- Parts. No conditions but those that each theorem names. -/
import Derived.Test.YtflepnkpihfidaaGreatDoorJLawA
import Derived.Test.YtflepnkpihfidaaGreatDoorHeadLaw
import Derived.Test.YtflepnkpihfidaaGreatDoorJConfL
import Derived.Test.YtflepnkpihfidaaGreatDoorRange2
set_option linter.unusedVariables false
set_option linter.unusedSimpArgs false
namespace Go.Proofs.YtflepnkpihfidaaGreatDoor
abbrev TagT := List UInt8 × Bool
def tagC (c : UInt8) : Bool := decide (33 ≤ c.toNat) && (decide (c.toNat ≠ 34) && decide (c.toNat ≤ 126))
theorem tagC_yes {c : UInt8} (h : 33 ≤ c.toNat ∧ c.toNat ≠ 34 ∧ c.toNat ≤ 126) : tagC c = true := by unfold tagC; simp; omega
theorem tagC_no {c : UInt8} (h : ¬ (33 ≤ c.toNat ∧ c.toNat ≠ 34 ∧ c.toNat ≤ 126)) : tagC c = false := by unfold tagC; simp; omega
/-- may a tag's text be? -/
def tagB (t : List UInt8) : Bool := (decide (1 ≤ t.length) && decide (t.length ≤ 100)) && t.all tagC
theorem tagB_len {t : List UInt8} (h : ¬ (1 ≤ t.length ∧ t.length ≤ 100)) : tagB t = false := by
  unfold tagB
  by_cases h1 : 1 ≤ t.length
  · rw [decide_eq_false (show ¬ t.length ≤ 100 by omega)]; simp
  · rw [decide_eq_false h1]; simp
theorem tagB_rest {t : List UInt8} (h1 : 1 ≤ t.length) (h2 : t.length ≤ 100) : tagB t = t.all tagC := by
  unfold tagB; rw [decide_eq_true h1, decide_eq_true h2]; simp
/-- a tag's text, as it is spelled -/
def tagTxt (t : TagT) : List UInt8 := if tagB t.1 then (if t.2 then [87, 47] else []) ++ (34 :: (t.1 ++ [34])) else []
/-! ### what is told is read -/
end Go.Proofs.YtflepnkpihfidaaGreatDoor
namespace Go.Proofs.YtflepnkpihfidaaGreatDoor
def leapN (y : Nat) : Bool := (y % 4 == 0 && y % 100 != 0) || y % 400 == 0
def longN (y m : Nat) : Nat := if m = 4 ∨ m = 6 ∨ m = 9 ∨ m = 11 then 30 else if m = 2 then (if leapN y then 29 else 28) else 31
def aheadN (y : Nat) : Nat := 365 * (y - 1970) + ((y - 1) / 4 - (y - 1) / 100 + (y - 1) / 400) - 477
theorem div_pred (y k : Nat) (hk : 0 < k) (h : 0 < y) : y / k = (y - 1) / k + (if y % k = 0 then 1 else 0) := by
  obtain ⟨z, rfl⟩ : ∃ z, y = z + 1 := ⟨y - 1, by omega⟩
  rw [Nat.add_sub_cancel, Nat.succ_div]
  simp only [Nat.dvd_iff_mod_eq_zero]
theorem aheadN_eq (y : Nat) : aheadN y = 365 * (y - 1970) + ((y - 1) / 4 - (y - 1) / 100 + (y - 1) / 400) - 477 := rfl
theorem ahead_100 : aheadN 10000 = 2932897 := by rw [aheadN_eq]
theorem ahead_70 : aheadN 1970 = 0 := by rw [aheadN_eq]
attribute [irreducible] aheadN
theorem aheadN_succ (y : Nat) (h : 1970 ≤ y) : aheadN (y + 1) = aheadN y + 365 + (if leapN y then 1 else 0) := by
  rw [aheadN_eq, aheadN_eq, Nat.add_sub_cancel]
  have a := div_pred y 4 (by omega) (by omega)
  have b := div_pred y 100 (by omega) (by omega)
  have c := div_pred y 400 (by omega) (by omega)
  have g1 : 492 ≤ (y - 1) / 4 := by rw [Nat.le_div_iff_mul_le (by omega)]; omega
  have g2 : (y - 1) / 100 * 25 ≤ (y - 1) / 4 := by rw [Nat.le_div_iff_mul_le (by omega)]; omega
  have g3 : 4 ≤ (y - 1) / 400 := by rw [Nat.le_div_iff_mul_le (by omega)]; omega
  have m1 : y % 400 = 0 → y % 100 = 0 := by omega
  have m2 : y % 100 = 0 → y % 4 = 0 := by omega
  rw [a, b, c]
  generalize (y - 1) / 4 = p at *
  generalize (y - 1) / 100 = q at *
  generalize (y - 1) / 400 = r at *
  have hl : leapN y = true ↔ (y % 4 = 0 ∧ y % 100 ≠ 0) ∨ y % 400 = 0 := by unfold leapN; simp
  by_cases h5 : y % 400 = 0
  · have h1 := m1 h5
    have h4 := m2 h1
    rw [if_pos h4, if_pos h1, if_pos h5, if_pos (hl.2 (.inr h5))]; omega
  · by_cases h1 : y % 100 = 0
    · have h4 := m2 h1
      rw [if_pos h4, if_pos h1, if_neg h5, if_neg (fun e => by have := hl.1 e; omega)]; omega
    · by_cases h4 : y % 4 = 0
      · rw [if_pos h4, if_neg h1, if_neg h5, if_pos (hl.2 (.inl ⟨h4, h1⟩))]; omega
      · rw [if_neg h4, if_neg h1, if_neg h5, if_neg (fun e => by have := hl.1 e; omega)]; omega
theorem aheadN_lo (y : Nat) (h : 1970 ≤ y) : aheadN y + 365 ≤ aheadN (y + 1) := by rw [aheadN_succ y h]; omega
theorem aheadN_mono : ∀ (k y : Nat), 1970 ≤ y → aheadN y + 365 * k ≤ aheadN (y + k)
  | 0, y, _ => by simp
  | k + 1, y, h => by
    have := aheadN_mono k y h
    have h2 := aheadN_lo (y + k) (by omega)
    have e : y + k + 1 = y + (k + 1) := by omega
    rw [e] at h2
    rw [Nat.mul_succ, ← Nat.add_assoc]
    exact Nat.le_trans (Nat.add_le_add_right this 365) h2
theorem aheadN_lt {a b : Nat} (ha : 1970 ≤ a) (h : a < b) : aheadN (a + 1) ≤ aheadN b := by
  have := aheadN_mono (b - (a + 1)) (a + 1) (by omega)
  rw [show a + 1 + (b - (a + 1)) = b by omega] at this; omega
theorem ahead_guess (n : Nat) (h : n ≤ 2932896) : aheadN (1970 + n / 366) ≤ n := by
  rw [aheadN_eq]
  generalize hq : n / 366 = q
  have : 366 * q ≤ n := by omega
  have : q ≤ 8013 := by omega
  omega
/-- days of the months ahead of one -/
def cumN (y : Nat) : Nat → Nat
  | 0 => 0
  | m + 1 => if m = 0 then 0 else cumN y m + longN y m
theorem cumN_1 (y : Nat) : cumN y 1 = 0 := rfl
theorem cumN_succ (y m : Nat) (h : 1 ≤ m) : cumN y (m + 1) = cumN y m + longN y m := by rw [cumN, if_neg (by omega)]
theorem longN_lo (y m : Nat) : 28 ≤ longN y m := by unfold longN; repeat (first | split | omega)
theorem longN_hi (y m : Nat) : longN y m ≤ 31 := by unfold longN; repeat (first | split | omega)
theorem cumN_13 (y : Nat) : cumN y 13 = 365 + (if leapN y then 1 else 0) := by
  cases h : leapN y <;> simp [cumN, longN, h]
theorem cumN_mono (y : Nat) : ∀ (k m : Nat), 1 ≤ m → cumN y m ≤ cumN y (m + k)
  | 0, m, _ => Nat.le_refl _
  | k + 1, m, h => by
    have := cumN_mono y k m h
    rw [← Nat.add_assoc, cumN_succ y (m + k) (by omega)]; omega
/-- a day: year, month, date -/
structure DayOf (n y m d : Nat) : Prop where
  y0 : 1970 ≤ y
  m1 : 1 ≤ m
  m12 : m ≤ 12
  d1 : 1 ≤ d
  dl : d ≤ longN y m
  sum : aheadN y + cumN y m + d = n + 1
theorem DayOf.yr {n y m d : Nat} (h : DayOf n y m d) : aheadN y ≤ n ∧ n < aheadN (y + 1) := by
  have h1 := h.sum; have h2 := h.dl; have h3 := h.d1
  have h4 := cumN_succ y m h.m1
  have h5 := cumN_mono y (13 - (m + 1)) (m + 1) (by omega)
  rw [show m + 1 + (13 - (m + 1)) = 13 by have := h.m12; omega, cumN_13] at h5
  rw [aheadN_succ y h.y0]
  omega
theorem DayOf.eq {n y m d y' m' d' : Nat} (h : DayOf n y m d) (k : DayOf n y' m' d') : y = y' ∧ m = m' ∧ d = d' := by
  have a := h.yr; have b := k.yr
  have hy : y = y' := by
    rcases Nat.lt_trichotomy y y' with l | l | l
    · have := aheadN_lt h.y0 l; omega
    · exact l
    · have := aheadN_lt k.y0 l; omega
  subst hy
  have s1 := h.sum; have s2 := k.sum
  have c1 := cumN_succ y m h.m1; have c2 := cumN_succ y m' k.m1
  have l1 := h.dl; have l2 := k.dl; have e1 := h.d1; have e2 := k.d1
  have hm : m = m' := by
    rcases Nat.lt_trichotomy m m' with l | l | l
    · have := cumN_mono y (m' - (m + 1)) (m + 1) (by omega)
      rw [show m + 1 + (m' - (m + 1)) = m' by omega] at this; omega
    · exact l
    · have := cumN_mono y (m - (m' + 1)) (m' + 1) (by omega)
      rw [show m' + 1 + (m - (m' + 1)) = m by omega] at this; omega
  subst hm
  exact ⟨rfl, rfl, by omega⟩
def yearGo (n : Nat) : Nat → Nat → Nat
  | 0, y => y
  | f + 1, y => if aheadN (y + 1) ≤ n then yearGo n f (y + 1) else y
theorem yearGo_ok (n : Nat) : ∀ (f y : Nat), 1970 ≤ y → aheadN y ≤ n → 1970 ≤ yearGo n f y ∧ aheadN (yearGo n f y) ≤ n ∧ (n < aheadN (yearGo n f y + 1) ∨ yearGo n f y = y + f)
  | 0, y, h, k => ⟨h, k, .inr rfl⟩
  | f + 1, y, h, k => by
    rw [yearGo]
    split
    · rename_i hc
      obtain ⟨h1, h2, h3⟩ := yearGo_ok n f (y + 1) (by omega) hc
      exact ⟨h1, h2, h3.imp_right fun e => by omega⟩
    · exact ⟨h, k, .inl (by omega)⟩
def monGo (y r : Nat) : Nat → Nat → Nat
  | 0, m => m
  | f + 1, m => if cumN y (m + 1) ≤ r then monGo y r f (m + 1) else m
theorem monGo_ok (y r : Nat) : ∀ (f m : Nat), 1 ≤ m → cumN y m ≤ r → 1 ≤ monGo y r f m ∧ monGo y r f m ≤ m + f ∧ cumN y (monGo y r f m) ≤ r ∧ (r < cumN y (monGo y r f m + 1) ∨ monGo y r f m = m + f)
  | 0, m, h, k => ⟨h, Nat.le_refl _, k, .inr rfl⟩
  | f + 1, m, h, k => by
    rw [monGo]
    split
    · rename_i hc
      obtain ⟨h1, h2, h3, h4⟩ := monGo_ok y r f (m + 1) (by omega) hc
      exact ⟨h1, by omega, h3, h4.imp_right fun e => by omega⟩
    · exact ⟨h, by omega, k, .inl (by omega)⟩
def yrN (n : Nat) : Nat := yearGo n (n + 1) 1970
def mnN (n : Nat) : Nat := monGo (yrN n) (n - aheadN (yrN n)) 11 1
def dyN (n : Nat) : Nat := n + 1 - aheadN (yrN n) - cumN (yrN n) (mnN n)
/-- any day has a date -/
theorem day_is (n : Nat) : DayOf n (yrN n) (mnN n) (dyN n) := by
  obtain ⟨h1, h2, h3⟩ := yearGo_ok n (n + 1) 1970 (Nat.le_refl _) (by rw [ahead_70]; omega)
  have h3 : n < aheadN (yrN n + 1) := by
    rcases h3 with h3 | h3
    · exact h3
    · have := aheadN_mono (n + 1) 1970 (Nat.le_refl _)
      rw [ahead_70, ← h3] at this; omega
  obtain ⟨g1, g2, g3, g4⟩ := monGo_ok (yrN n) (n - aheadN (yrN n)) 11 1 (Nat.le_refl _) (by rw [cumN_1]; omega)
  have e1 : monGo (yrN n) (n - aheadN (yrN n)) 11 1 = mnN n := rfl
  have e2 : yearGo n (n + 1) 1970 = yrN n := rfl
  rw [e1] at g1 g2 g3 g4
  rw [e2] at h1 h2
  have g4 : n - aheadN (yrN n) < cumN (yrN n) (mnN n + 1) := by
    rcases g4 with g4 | g4
    · exact g4
    · rw [g4]
      show _ < cumN (yrN n) 13
      rw [cumN_13]
      rw [aheadN_succ _ h1] at h3; omega
  rw [cumN_succ _ _ g1] at g4
  unfold dyN
  exact ⟨h1, g1, by omega, by omega, by omega, by omega⟩
theorem day_year {n y m d : Nat} (h : DayOf n y m d) (hn : n ≤ 2932896) : y ≤ 9999 := by
  rcases Nat.lt_or_ge 9999 y with l | l
  · have := aheadN_mono (y - 10000) 10000 (by omega)
    rw [show 10000 + (y - 10000) = y by omega, ahead_100] at this
    have := h.yr.1; omega
  · exact l
/-! ### the text -/
def weekN : List UInt8 := [83, 117, 110, 77, 111, 110, 84, 117, 101, 87, 101, 100, 84, 104, 117, 70, 114, 105, 83, 97, 116]
def yearN : List UInt8 := [74, 97, 110, 70, 101, 98, 77, 97, 114, 65, 112, 114, 77, 97, 121, 74, 117, 110, 74, 117, 108, 65, 117, 103, 83, 101, 112, 79, 99, 116, 78, 111, 118, 68, 101, 99]
def wkN (i : Nat) : List UInt8 := (weekN.drop (3 * i)).take 3
def moN (m : Nat) : List UInt8 := (yearN.drop (3 * m - 3)).take 3
def dig1 (n : Nat) : UInt8 := UInt8.ofNat (48 + n % 10)
theorem dig1_val (n : Nat) : (dig1 n).toNat = 48 + n % 10 := by unfold dig1; rw [UInt8.toNat_ofNat']; omega
def two (n : Nat) : List UInt8 := [dig1 (n / 10), dig1 n]
def four (n : Nat) : List UInt8 := [dig1 (n / 1000), dig1 (n / 100), dig1 (n / 10), dig1 n]
/-- the text of a day's second -/
def dayT (w y m d s : Nat) : List UInt8 := wkN w ++ [44, 32] ++ two d ++ [32] ++ moN m ++ [32] ++ four y ++ [32] ++ two (s / 3600) ++ [58] ++ two (s / 60 % 60) ++ [58] ++ two (s % 60) ++ [32, 71, 77, 84]
def dateT (t : Nat) : List UInt8 := dayT ((t / 86400 + 4) % 7) (yrN (t / 86400)) (mnN (t / 86400)) (dyN (t / 86400)) (t % 86400)
theorem dateT_eq (t : Nat) : dateT t = dayT ((t / 86400 + 4) % 7) (yrN (t / 86400)) (mnN (t / 86400)) (dyN (t / 86400)) (t % 86400) := rfl
attribute [irreducible] dateT yrN mnN dyN
theorem wk_form (i : Nat) (h : i < 7) : ∃ a b c, wkN i = [a, b, c] := by
  have : ∀ i : Fin 7, ∃ x, wkN i.1 = x ∧ x.length = 3 := fun i => ⟨_, rfl, by revert i; decide⟩
  obtain ⟨x, e, hl⟩ := this ⟨i, h⟩
  match x, hl with
  | [a, b, c], _ => exact ⟨a, b, c, e⟩
theorem mo_form (m : Nat) (h1 : 1 ≤ m) (h2 : m ≤ 12) : ∃ a b c, moN m = [a, b, c] := by
  have : ∀ i : Fin 12, ∃ x, moN (i.1 + 1) = x ∧ x.length = 3 := fun i => ⟨_, rfl, by revert i; decide⟩
  obtain ⟨x, e, hl⟩ := this ⟨m - 1, by omega⟩
  rw [show m - 1 + 1 = m by omega] at e
  match x, hl with
  | [a, b, c], _ => exact ⟨a, b, c, e⟩
/-! ### read again -/
end Go.Proofs.YtflepnkpihfidaaGreatDoor
namespace Go.Proofs.YtflepnkpihfidaaGreatDoor
open Go.RowKit
abbrev SpecT := Int × Int
def specB (s : SpecT) : Bool := (decide (s.1 ≤ 999999999999999999) && decide (s.2 ≤ 999999999999999999)) && (if s.1 = -1 then decide (0 ≤ s.2) else decide (0 ≤ s.1) && (decide (s.2 = -1) || decide (s.1 ≤ s.2)))
theorem specB_iff {s : SpecT} : specB s = true ↔ s.1 ≤ 999999999999999999 ∧ s.2 ≤ 999999999999999999 ∧ ((s.1 = -1 ∧ 0 ≤ s.2) ∨ (0 ≤ s.1 ∧ (s.2 = -1 ∨ s.1 ≤ s.2))) := by
  unfold specB
  by_cases h : s.1 = -1
  · rw [if_pos h]; simp [h, and_assoc]
  · rw [if_neg h]; simp [h, and_assoc]
/-! ### the text -/
theorem specB_lo {s : SpecT} (h : specB s = true) : (-1 ≤ s.1 ∧ s.1 ≤ 999999999999999999) ∧ -1 ≤ s.2 ∧ s.2 ≤ 999999999999999999 := by
  have := specB_iff.1 h; omega
end Go.Proofs.YtflepnkpihfidaaGreatDoor
namespace Go.Proofs.YtflepnkpihfidaaGreatDoor
structure CondT where
  mt : List TagT
  no : List TagT
  am : Bool
  an : Bool
  si : Int
  un : Int
  rg : TagT
/-- values with a comma and a blank between -/
def joinV : List (List UInt8) → List UInt8
  | [] => []
  | [t] => t
  | t :: u :: r => t ++ (44 :: 32 :: joinV (u :: r))
theorem joinV_snoc : ∀ (l : List (List UInt8)) (t : List UInt8), joinV (l ++ [t]) = joinV l ++ ((if l = [] then [] else [44, 32]) ++ t)
  | [], t => rfl
  | [u], t => by simp [joinV]
  | u :: v :: r, t => by
    have := joinV_snoc (v :: r) t
    simp only [List.cons_append] at this ⊢
    rw [joinV, this, joinV]
    simp
theorem joinV_len : ∀ (l : List (List UInt8)), (joinV l).length ≤ bulk1 l + 2 * l.length
  | [] => by simp [joinV]
  | [t] => by simp [joinV, bulk1]
  | t :: u :: r => by
    have := joinV_len (u :: r)
    simp only [joinV, bulk1, List.length_append, List.length_cons, List.map_cons, List.sum_cons] at this ⊢
    omega
def listB (l : List TagT) (any : Bool) : Bool := (decide (l.length ≤ 32) && !(any && !l.isEmpty)) && l.all (fun t => tagB t.1)
def sinceB (t : Int) : Bool := decide (t = -1) || (decide (0 ≤ t) && decide (t ≤ 253402300799))
def rangB (t : TagT) : Bool := t.1.isEmpty || tagB t.1
/-- may conditions be? -/
def condB (c : CondT) : Bool := listB c.mt c.am && (listB c.no c.an && (sinceB c.si && (sinceB c.un && rangB c.rg)))
end Go.Proofs.YtflepnkpihfidaaGreatDoor
