/- Layer 11: the boundary of a number, by the document: plain law and contract. No conditions. -/
import Derived.Test.YtnmfmcmokdoieaaDoorMulti5
set_option linter.unusedVariables false
set_option linter.unusedSimpArgs false
namespace Go.Proofs.YtnmfmcmokdoieaaDoor
open Go.RowKit
def hexD (d : Nat) : UInt8 := if d < 10 then UInt8.ofNat (48 + d) else UInt8.ofNat (87 + d)
/-- the last i digits of n, base 16 -/
def hexW : Nat → Nat → List UInt8
  | 0, _ => []
  | i + 1, n => hexD (n / 16 ^ i % 16) :: hexW i n
theorem hexW_len : ∀ (i n : Nat), (hexW i n).length = i
  | 0, _ => rfl
  | i + 1, n => by rw [hexW, List.length_cons, hexW_len i n]
theorem hexD_inj {a b : Nat} (ha : a < 16) (hb : b < 16) (h : hexD a = hexD b) : a = b := by
  have : ∀ x : Fin 16, ∀ y : Fin 16, hexD x.1 = hexD y.1 → x = y := by decide
  exact congrArg Fin.val (this ⟨a, ha⟩ ⟨b, hb⟩ h)
theorem hexS {d : Nat} (h : d < 16) : List.take 1 (List.drop d [(48 : UInt8), 49, 50, 51, 52, 53, 54, 55, 56, 57, 97, 98, 99, 100, 101, 102]) = [hexD d] := by
  have : ∀ x : Fin 16, List.take 1 (List.drop x.1 [(48 : UInt8), 49, 50, 51, 52, 53, 54, 55, 56, 57, 97, 98, 99, 100, 101, 102]) = [hexD x.1] := by decide
  exact this ⟨d, h⟩
theorem hexW_inj : ∀ (i a b : Nat), hexW i a = hexW i b → a % 16 ^ i = b % 16 ^ i
  | 0, a, b, _ => by simp [Nat.mod_one]
  | i + 1, a, b, h => by
    rw [hexW, hexW, List.cons.injEq] at h
    have h1 := hexD_inj (Nat.mod_lt _ (by omega)) (Nat.mod_lt _ (by omega)) h.1
    have h2 := hexW_inj i a b h.2
    rw [Nat.pow_succ, Nat.mod_mul, Nat.mod_mul, h1, h2]
/-- a whole number as an unsigned one of 64 bits -/
def u64N (k : Int) : Nat := (k % 18446744073709551616).toNat
theorem u64N_inj {a b : Int} (ha : -9223372036854775808 ≤ a ∧ a ≤ 9223372036854775807) (hb : -9223372036854775808 ≤ b ∧ b ≤ 9223372036854775807) (h : u64N a = u64N b) : a = b := by
  unfold u64N at h; omega
theorem u64N_lt (k : Int) : u64N k < 18446744073709551616 := by unfold u64N; omega
def sliceN : List UInt8 := [115, 108, 105, 99, 101]
def boundN (k : Int) : List UInt8 := sliceN ++ hexW 16 (u64N k)
theorem boundN_inj {a b : Int} (ha : -9223372036854775808 ≤ a ∧ a ≤ 9223372036854775807) (hb : -9223372036854775808 ≤ b ∧ b ≤ 9223372036854775807) (h : boundN a = boundN b) : a = b := by
  have h1 := hexW_inj 16 _ _ (List.append_cancel_left h)
  have := u64N_lt a
  have := u64N_lt b
  rw [Nat.mod_eq_of_lt (by simpa using u64N_lt a), Nat.mod_eq_of_lt (by simpa using u64N_lt b)] at h1
  exact u64N_inj ha hb h1
set_option maxHeartbeats 8000000 in
set_option maxRecDepth 100000 in
theorem refBoundary_any (k : Int) (w : World) (_hk : -9223372036854775808 ≤ k ∧ k ≤ 9223372036854775807) :
    Calls Tryd.prog 20 #[.int .i64 k] w fun e w' => e = .returned (str (boundN k)) ∧ Gr w w' := by
  go_enter Tryd.func20, Tryd.ntmps20
  have hwr : IntKind.u64.wrap k = ((u64N k : Nat) : Int) := by unfold u64N; simp [IntKind.wrap, IntKind.bits, IntKind.signed]; omega
  have hn := u64N_lt k
  obtain ⟨n, hnk⟩ : ∃ n, u64N k = n := ⟨_, rfl⟩
  rw [hnk] at hwr hn
  have HN := Lib.hid (show boundN k = sliceN ++ hexW 16 n from by unfold boundN; rw [hnk])
  clear hnk
  go_wp2_with fail
  clear hwr
  go_loopw [3, 4, 5, 6] (fun x3 x4 x5 x6 wr => ∃ i : Nat, i ≤ 16 ∧ x3 = .int .u64 ((n / 16 ^ i : Nat) : Int) ∧ x4 = str (hexW i n) ∧ x5 = .int .i64 i ∧ Gr w wr) (fun _ _ i _ _ => 16 - (intOf i).toNat)
  case atStart => exact ⟨0, by omega, by simp, rfl, rfl, Gr.refl _⟩
  case round =>
    obtain ⟨i, hi, rfl, rfl, rfl, hG⟩ := hrel
    by_cases h16 : i < 16
    · have hm : n / 16 ^ i < 18446744073709551616 := Nat.lt_of_le_of_lt (Nat.div_le_self _ _) hn
      have HS : n / 16 ^ (i + 1) = n / 16 ^ i / 16 := by rw [Nat.pow_succ, Nat.div_div_eq_div_mul]
      have HL := hexW_len i n
      have HW : hexW (i + 1) n = hexD (n / 16 ^ i % 16) :: hexW i n := rfl
      have HSH := Lib.hid HS; have HWH := Lib.hid HW
      clear HS HW
      generalize n / 16 ^ i = m at *
      generalize hexW i n = t at *
      go_wp2_with fail
      refine ⟨⟨i + 1, by omega, ?_, ?_, by go_num, hG⟩, by simp [intOf]; omega⟩
      · rw [HSH.out]; simp
      · rw [HWH.out, hexS (Nat.mod_lt _ (by omega))]; rfl
    · have hi : i = 16 := by omega
      subst hi
      generalize n / 16 ^ 16 = m at *
      have HL : (hexW 16 n).length ≤ 16 := Nat.le_of_eq (hexW_len 16 n)
      generalize hexW 16 n = t at *
      go_wp2_with fail
      go_ret
      rw [HN.out]
      exact ⟨rfl, hG⟩
end Go.Proofs.YtnmfmcmokdoieaaDoor
