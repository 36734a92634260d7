/- Layer 39: what the laws on texts share. -/
import Derived.Test.YtghopokdfjcjlaaDoorConf11
import Derived.Test.YtghopokdfjcjlaaDoorConf14
import Derived.Test.YtghopokdfjcjlaaDoorConf15
namespace Go.Proofs.YtghopokdfjcjlaaDoor
open Go.RowKit
theorem deco1_len (words : List UInt8) (odd j : Nat) (c : UInt8) : (deco1 words odd j c).length ≤ words.length + 7 := by
  unfold deco1 ins1 ins2
  simp only [List.length_append]
  repeat' split
  all_goals simp
  all_goals omega
theorem deco_len (words : List UInt8) (odd j : Nat) (a : List UInt8) : (deco words odd j a).length ≤ a.length * (words.length + 7) := by
  induction a generalizing j with
  | nil => simp [deco]
  | cons c a ih =>
    have h1 := ih (j + 1)
    have h2 := deco1_len words odd j c
    unfold deco
    rw [List.length_append, List.length_cons, Nat.succ_mul]
    omega
theorem deco_succ (words : List UInt8) (odd : Nat) (T : List UInt8) (k : Nat) (h : k < T.length) : deco words odd 0 (T.take (k + 1)) = deco words odd 0 (T.take k) ++ deco1 words odd k T[k] := by
  rw [List.take_succ_eq_append_getElem h, deco_append]
  congr 1
  rw [List.length_take, Nat.min_eq_left (by omega), Nat.zero_add]
  show deco1 words odd k T[k] ++ deco words odd (k + 1) [] = _
  simp [deco]
theorem take_one {T : List UInt8} {k : Nat} (h : k < T.length) : (T.drop k).take 1 = [T[k]] := by
  rw [List.drop_eq_getElem_cons h]; rfl
theorem mod5 (odd k : Nat) : (odd + k) % 5 = 0 ∨ (odd + k) % 5 = 1 ∨ (odd + k) % 5 = 2 ∨ (odd + k) % 5 = 3 ∨ (odd + k) % 5 = 4 := by omega
theorem mod3 (odd k : Nat) : (odd + k) % 3 = 0 ∨ (odd + k) % 3 = 1 ∨ (odd + k) % 3 = 2 := by omega
theorem deco1_ten (words : List UInt8) {odd k a b : Nat} (h5 : (odd + k) % 5 = a) (h3 : (odd + k) % 3 = b) : deco1 words odd k 10 = ins1 words a ++ ([10] ++ ins2 b) := by
  unfold deco1; rw [if_pos rfl, if_pos (.inr rfl), h5, h3]
theorem deco1_blank (words : List UInt8) {odd k b : Nat} (h3 : (odd + k) % 3 = b) : deco1 words odd k 32 = [32] ++ ins2 b := by
  unfold deco1; rw [if_neg (by decide), if_pos (.inl rfl), h3]; rfl
theorem deco1_other (words : List UInt8) (odd k : Nat) {c : UInt8} (h1 : ¬ c = 10) (h2 : ¬ c = 32) : deco1 words odd k c = [c] := by
  unfold deco1; rw [if_neg h1, if_neg (by rintro (h | h); exact h2 h; exact h1 h)]; rfl
end Go.Proofs.YtghopokdfjcjlaaDoor
