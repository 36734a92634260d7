/- Several texts in one (their own heads say what each is). No conditions but those that each theorem names. -/
import Derived.Test.YtnmfmcmokdoieaaGreatDoorMulti5
import Derived.Test.YtnmfmcmokdoieaaGreatDoorBytes3
import Derived.Laws.BitsAllLaws
set_option linter.unusedVariables false
set_option linter.unusedSimpArgs false
/- XMulti16 -/
namespace Go.Proofs.YtnmfmcmokdoieaaGreatDoor
open Go.RowKit
def hexD (d : Nat) : UInt8 := if d < 10 then UInt8.ofNat (48 + d) else UInt8.ofNat (87 + d)
/-- the last i digits of n, base 16 -/
def hexW : Nat → Nat → List UInt8
  | 0, _ => []
  | i + 1, n => hexD (n / 16 ^ i % 16) :: hexW i n
theorem hexW_len : ∀ (i n : Nat), (hexW i n).length = i
  | 0, _ => rfl
  | i + 1, n => by rw [hexW, List.length_cons, hexW_len i n]
theorem hexD_inj {a b : Nat} (ha : a < 16) (hb : b < 16) (h : hexD a = hexD b) : a = b := by
  have : ∀ x : Fin 16, ∀ y : Fin 16, hexD x.1 = hexD y.1 → x = y := by decide
  exact congrArg Fin.val (this ⟨a, ha⟩ ⟨b, hb⟩ h)
theorem hexS {d : Nat} (h : d < 16) : List.take 1 (List.drop d [(48 : UInt8), 49, 50, 51, 52, 53, 54, 55, 56, 57, 97, 98, 99, 100, 101, 102]) = [hexD d] := by
  have : ∀ x : Fin 16, List.take 1 (List.drop x.1 [(48 : UInt8), 49, 50, 51, 52, 53, 54, 55, 56, 57, 97, 98, 99, 100, 101, 102]) = [hexD x.1] := by decide
  exact this ⟨d, h⟩
theorem hexW_inj : ∀ (i a b : Nat), hexW i a = hexW i b → a % 16 ^ i = b % 16 ^ i
  | 0, a, b, _ => by simp [Nat.mod_one]
  | i + 1, a, b, h => by
    rw [hexW, hexW, List.cons.injEq] at h
    have h1 := hexD_inj (Nat.mod_lt _ (by omega)) (Nat.mod_lt _ (by omega)) h.1
    have h2 := hexW_inj i a b h.2
    rw [Nat.pow_succ, Nat.mod_mul, Nat.mod_mul, h1, h2]
/-- a whole number as an unsigned one of 64 bits -/
def u64N (k : Int) : Nat := (k % 18446744073709551616).toNat
theorem u64N_inj {a b : Int} (ha : -9223372036854775808 ≤ a ∧ a ≤ 9223372036854775807) (hb : -9223372036854775808 ≤ b ∧ b ≤ 9223372036854775807) (h : u64N a = u64N b) : a = b := by
  unfold u64N at h; omega
theorem u64N_lt (k : Int) : u64N k < 18446744073709551616 := by unfold u64N; omega
def sliceN : List UInt8 := [115, 108, 105, 99, 101]
def boundN (k : Int) : List UInt8 := sliceN ++ hexW 16 (u64N k)
theorem boundN_inj {a b : Int} (ha : -9223372036854775808 ≤ a ∧ a ≤ 9223372036854775807) (hb : -9223372036854775808 ≤ b ∧ b ≤ 9223372036854775807) (h : boundN a = boundN b) : a = b := by
  have h1 := hexW_inj 16 _ _ (List.append_cancel_left h)
  have := u64N_lt a
  have := u64N_lt b
  rw [Nat.mod_eq_of_lt (by simpa using u64N_lt a), Nat.mod_eq_of_lt (by simpa using u64N_lt b)] at h1
  exact u64N_inj ha hb h1
end Go.Proofs.YtnmfmcmokdoieaaGreatDoor
/- XMulti17 -/
namespace Go.Proofs.YtnmfmcmokdoieaaGreatDoor
open Go.RowKit
theorem hexW_pad : ∀ (i j n : Nat), j ≤ i → n < 16 ^ j → hexW i n = List.replicate (i - j) 48 ++ hexW j n
  | 0, j, n, hj, _ => by
    have : j = 0 := by omega
    subst this; rfl
  | i + 1, j, n, hj, hn => by
    rcases Nat.lt_or_ge i j with h | h
    · have : j = i + 1 := by omega
      subst this; simp
    · have hz : n / 16 ^ i = 0 := Nat.div_eq_of_lt (Nat.lt_of_lt_of_le hn (Nat.pow_le_pow_right (by omega) h))
      rw [hexW, hz, hexW_pad i j n h hn, show i + 1 - j = (i - j) + 1 from by omega, List.replicate_succ]
      rfl
theorem hexD_letter {d : Nat} (h : d < 16) : letterC (hexD d) = true := by
  have : ∀ x : Fin 16, letterC (hexD x.1) = true := by decide
  exact this ⟨d, h⟩
theorem hexW_letter : ∀ (i n : Nat), (hexW i n).all letterC = true
  | 0, _ => rfl
  | i + 1, n => by rw [hexW, List.all_cons, hexD_letter (Nat.mod_lt _ (by omega)), hexW_letter i n]; rfl
theorem boundN_len (k : Int) : (boundN k).length = 21 := by unfold boundN; rw [List.length_append, hexW_len]; rfl
theorem boundN_ok (k : Int) : boundB (boundN k) = true := by
  refine bound_yes ?_ (by rw [boundN_len]; decide) (by rw [boundN_len]; decide)
  unfold boundN
  rw [List.all_append, hexW_letter]; rfl
end Go.Proofs.YtnmfmcmokdoieaaGreatDoor
/- XHexL -/
namespace Go.Proofs.YtnmfmcmokdoieaaGreatDoor
open Go.RowKit
theorem hexW_snoc : ∀ (i n : Nat), hexW (i + 1) n = hexW i (n / 16) ++ [hexD (n % 16)]
  | 0, n => by simp [hexW]
  | i + 1, n => by
    rw [hexW, hexW_snoc i n, hexW, List.cons_append, Nat.div_div_eq_div_mul, Nat.pow_succ, Nat.mul_comm]
/-- a number in sixteens, no nought ahead -/
def hexT (n : Nat) : List UInt8 := if n < 16 then [hexD n] else hexT (n / 16) ++ [hexD (n % 16)]
termination_by n
decreasing_by omega
theorem hexT_of : ∀ (j n : Nat), n < 16 ^ (j + 1) → (j = 0 ∨ 16 ^ j ≤ n) → hexW (j + 1) n = hexT n
  | 0, n, h, _ => by
    have h' : n < 16 := by simpa using h
    rw [hexT, if_pos h']; simp [hexW, Nat.mod_eq_of_lt h']
  | j + 1, n, h, h2 => by
    have h16 : 16 ≤ n := by
      rcases h2 with h2 | h2
      · omega
      · have := Nat.pow_le_pow_right (n := 16) (by omega) (show 1 ≤ j + 1 by omega); omega
    have hd : n / 16 < 16 ^ (j + 1) := by rw [Nat.div_lt_iff_lt_mul (by omega), ← Nat.pow_succ]; exact h
    rw [hexT, if_neg (by omega), hexW_snoc, hexT_of j (n / 16) hd (by
      rcases h2 with h2 | h2
      · omega
      · right; rw [Nat.le_div_iff_mul_le (by omega), ← Nat.pow_succ]; exact h2)]
theorem hexT_len (n : Nat) (j : Nat) (h : n < 16 ^ (j + 1)) (h2 : j = 0 ∨ 16 ^ j ≤ n) : (hexT n).length = j + 1 := by rw [← hexT_of j n h h2, hexW_len]
/-- how many digits a number has -/
theorem hexT_ex : ∀ (m n : Nat), n < 16 ^ (m + 1) → ∃ j, j ≤ m ∧ n < 16 ^ (j + 1) ∧ (j = 0 ∨ 16 ^ j ≤ n)
  | 0, n, h => ⟨0, Nat.le_refl _, h, .inl rfl⟩
  | m + 1, n, h => by
    rcases Nat.lt_or_ge n (16 ^ (m + 1)) with h1 | h1
    · obtain ⟨j, hj, h2⟩ := hexT_ex m n h1
      exact ⟨j, by omega, h2⟩
    · exact ⟨m + 1, Nat.le_refl _, h, .inr h1⟩
theorem hexT_le (n : Nat) (h : n < 18446744073709551616) : 1 ≤ (hexT n).length ∧ (hexT n).length ≤ 16 := by
  obtain ⟨j, hj, h1, h2⟩ := hexT_ex 15 n h
  rw [hexT_len n j h1 h2]; omega
theorem hexT_pad (n : Nat) (h : n < 18446744073709551616) : hexW 16 n = List.replicate (16 - (hexT n).length) 48 ++ hexT n := by
  obtain ⟨j, hj, h1, h2⟩ := hexT_ex 15 n h
  rw [hexT_len n j h1 h2, ← hexT_of j n h1 h2]
  exact hexW_pad 16 (j + 1) n (by omega) h1
end Go.Proofs.YtnmfmcmokdoieaaGreatDoor
/- XMulti18 -/
namespace Go.Proofs.YtnmfmcmokdoieaaGreatDoor
open Go.RowKit
/-- the library's table of noughts behind a number, at 16 -/
def Tz (w : World) : Prop := w.cell? ⟨3, 15, none⟩ = some (.int .u8 4)
theorem Tz.gr {w w' : World} (h : Tz w) (g : Gr w w') : Tz w' := Gr.cell g h
theorem tz64_16 (w : World) (h : Tz w) : Calls Tryz.prog 83 #[.int .u64 16] w fun e w' => e = .returned (.int .i64 4) ∧ w = w' := by
  unfold Tz at h
  have hx : IntKind.u64.wrap (bits BinOp.and IntKind.u64 16 (IntKind.u64.wrap (-16)) * 285870213051353865) / 288230376151711744 = 15 := by kernel_rfl
  go_enter Tryz.func83, Tryz.ntmps83
  go_wp2_with fail
  go_ret
  exact ⟨rfl, rfl⟩
theorem tz_16 (w : World) (h : Tz w) : Calls Tryz.prog 69 #[.int .u64 16] w fun e w' => e = .returned (.int .i64 4) ∧ w = w' := by
  go_enter Tryz.func69, Tryz.ntmps69
  go_wp2_with (go_at_call 83; refine (tz64_16 _ h).mono ?_; rintro e w' ⟨rfl, rfl⟩)
  go_ret
  exact ⟨rfl, rfl⟩
theorem pow2_16 (w : World) : Calls Tryz.prog 68 #[.int .i64 16] w fun e w' => e = .returned (.bool true) ∧ w = w' := by
  have hx : bits BinOp.and IntKind.i64 16 15 = 0 := by kernel_rfl
  go_enter Tryz.func68, Tryz.ntmps68
  go_wp2_with fail
  go_ret
  exact ⟨by rfl, rfl⟩
/-- the row that the digits are written into, from behind -/
def hexRow (p j n : Nat) : List UInt8 := List.replicate p 0 ++ hexW j n
theorem hexRow_len (p j n : Nat) : (hexRow p j n).length = p + j := by unfold hexRow; rw [List.length_append, List.length_replicate, hexW_len]
theorem hexRow_step (p j n : Nat) : (hexRow (p + 1) j n).set p (hexD (n / 16 ^ j % 16)) = hexRow p (j + 1) n := by
  unfold hexRow
  rw [hexW, List.replicate_succ', List.append_assoc, List.set_append_right _ _ (by simp)]
  simp
theorem hexRow_set {w : World} {g : Nat} {t : TypeId} {fr : Nat × Nat} (p j n : Nat) (hp : 0 < p) (h : Bk w g t ((hexRow p j n).map byt).toArray fr) (c : UInt8) (hc : c = hexD (n / 16 ^ j % 16)) : Bk (w.setCell ⟨g, p - 1, none⟩ (.int .u8 (c.toNat : Int))) g t ((hexRow (p - 1) (j + 1) n).map byt).toArray fr := by
  obtain ⟨p, rfl⟩ : ∃ q, p = q + 1 := ⟨p - 1, by omega⟩
  have := h.set p (byt c)
  rw [Nat.add_sub_cancel, ← hexRow_step p j n, List.map_set, ← hc]
  simpa using this
theorem hexRow_cell {w : World} {g : Nat} {t : TypeId} {fr : Nat × Nat} (p j n : Nat) (hp : 0 < p) (h : Bk w g t ((hexRow p j n).map byt).toArray fr) : w.cell? ⟨g, p - 1, none⟩ = some (byt 0) := by
  rw [h.cell (p - 1)]
  unfold hexRow
  simp only [List.map_append, List.map_replicate, List.getElem?_toArray]
  rw [List.getElem?_append_left (by rw [List.length_replicate]; omega), List.getElem?_replicate, if_pos (by omega)]
theorem hexRow_drop (p j n : Nat) : (hexRow p j n).drop p = hexW j n := by
  unfold hexRow; rw [List.drop_append_of_le_length (by simp)]; simp
theorem hexRow_zero (n : Nat) : (hexRow 65 0 n) = List.replicate 65 0 := by unfold hexRow; simp [hexW]
theorem digL (d : Nat) (h : d < 16) (hd : d < 36) : ([48, 49, 50, 51, 52, 53, 54, 55, 56, 57, 97, 98, 99, 100, 101, 102, 103, 104, 105, 106, 107, 108, 109, 110, 111, 112, 113, 114, 115, 116, 117, 118, 119, 120, 121, 122] : List UInt8)[d]'(hd) = hexD d := by
  have : ∀ x : Fin 16, ([48, 49, 50, 51, 52, 53, 54, 55, 56, 57, 97, 98, 99, 100, 101, 102, 103, 104, 105, 106, 107, 108, 109, 110, 111, 112, 113, 114, 115, 116, 117, 118, 119, 120, 121, 122] : List UInt8)[x.1]? = some (hexD x.1) := by decide
  have := this ⟨d, h⟩
  rw [List.getElem?_eq_getElem hd] at this
  exact Option.some.inj this
theorem and15 (m : Nat) (h : m < 18446744073709551616) : bits .and .u64 (m : Int) 15 = ((m % 16 : Nat) : Int) := by
  have := u64_and_nat m 15 h (by omega)
  rw [show (15 : Nat) = 2 ^ 4 - 1 from rfl, Nat.and_two_pow_sub_one_eq_mod] at this
  exact this
theorem pow_up (j n : Nat) (h : 16 ≤ n / 16 ^ j) : 16 ^ (j + 1) ≤ n := by
  rw [Nat.pow_succ, Nat.mul_comm]; exact (Nat.le_div_iff_mul_le (Nat.pow_pos (by omega))).1 h
theorem pow_dn (j n : Nat) (h : n / 16 ^ j < 16) : n < 16 ^ (j + 1) := by
  rw [Nat.pow_succ, Nat.mul_comm]; exact (Nat.div_lt_iff_lt_mul (Nat.pow_pos (by omega))).1 h
theorem pow_15 (j n : Nat) (hn : n < 18446744073709551616) (h : 16 ^ (j + 1) ≤ n) : j < 15 := by
  rcases Nat.lt_or_ge j 15 with h1 | h1
  · exact h1
  · have := Nat.pow_le_pow_right (n := 16) (by omega) (show 16 ≤ j + 1 by omega); omega
theorem arrT : Tryz.prog.underlying 110 = some (.array (Tryz.prog.arrayLen 110) (Tryz.prog.elem 110)) := by kernel_rfl
theorem sizeArr (w : World) : (sizeOf (Tryz.prog.elem 110)).run Tryz.prog w = .ok 1 w := by
  simp [sizeOf, typeInfo]; kernel_rfl
theorem arrLen : Tryz.prog.arrayLen 110 = 65 := by kernel_rfl
/-- a[k:] of an array of bytes -/
theorem wpList_slArr {ops : Array Oper} {rest : List Oper} {o : Oper} {a : Act} {Q : Exit → Act → World → Prop} {w : World} {g : Nat} {l : List UInt8} {fr : Nat × Nat} {p : Nat} (x y : Operand) (hgd : o.guard = none) (ho : o.op = .slice 110 x (some y) none none) (hx : a.eval x = .pointer (some ⟨g, 0, none⟩)) (hy : a.eval y = .int .i64 (p : Int))
    (hb : Bk w g 110 (l.map byt).toArray fr) (hl : l.length = 65) (hk : p < 65)
    (h : Byts w (.slice (some ⟨g, p, none⟩) (65 - p) (65 - p)) (l.drop p) → wpList Tryz.prog ops Q rest (a.put o.dst (.slice (some ⟨g, p, none⟩) (65 - p) (65 - p))) w) : wpList Tryz.prog ops Q (o :: rest) a w := by
  refine wpList_run hgd ?_ (h ⟨_, _, by rw [List.length_drop, hl], by rw [List.length_drop, hl]; exact Nat.le_refl _, by rw [List.length_drop]; omega, .inr ⟨g, p, rfl, hb.lt, fun j u hu => ?_⟩⟩)
  · unfold execOp
    simp only [ho, hx, hy, Option.map_some, Option.map_none, Sem.run_bind, run_sliceAt_array_l w _ _ arrT .i64 (p : Int) (by omega) (by rw [arrLen]; omega), sizeArr, Result.andThen_ok, Sem.run_pure, slicedAt, arrLen]
    rw [if_neg (by simp; omega)]
    simp [Addr.add]; omega
  · rw [hb.cell (p + j)]
    rw [List.map_drop, List.getElem?_drop] at hu
    simpa using hu
set_option maxHeartbeats 4000000 in
set_option maxRecDepth 100000 in
theorem formatBits_str (n : Nat) (w : World) (hn : n < 18446744073709551616) (hz : Tz w) :
    Calls Tryz.prog 43 #[.slice none 0 0, .int .u64 n, .int .i64 16, .bool false, .bool false] w fun e w' => e = .returned (.tuple #[.slice none 0 0, str (hexT n)]) ∧ Gr w w' := by
  go_enter Tryz.func43, Tryz.ntmps43
  go_wp2_with (first | (go_at_call 68; refine (pow2_16 _).mono ?_; rintro e w' ⟨rfl, rfl⟩) | (go_at_call 69; refine (tz_16 _ (hz.gr (Gr.al (Gr.refl w) _))).mono ?_; rintro e w' ⟨rfl, rfl⟩))
  go_loopw [1, 13] (fun u i wr => ∃ j p : Nat, p + j = 65 ∧ j ≤ 15 ∧ (j = 0 ∨ 16 ^ j ≤ n) ∧ u = .int .u64 ((n / 16 ^ j : Nat) : Int) ∧ i = .int .i64 (p : Int) ∧ Gr w wr ∧ Bk wr w.heap.size 110 ((hexRow p j n).map byt).toArray (0, 0)) (fun u _ _ => (intOf u).toNat)
  case atStart => exact ⟨0, 65, rfl, by omega, .inl rfl, by simp, rfl, Gr.al (Gr.refl w) _, by rw [hexRow_zero]; exact Bk.new w _ _ _⟩
  case round =>
    obtain ⟨j, p, hpj, hj, hp, rfl, rfl, hG, hB⟩ := hrel
    have hm : n / 16 ^ j < 18446744073709551616 := Nat.lt_of_le_of_lt (Nat.div_le_self _ _) hn
    have hc := hexRow_cell p j n (by omega) hB
    have hf := (hB.free (p - 1) (.inr (Nat.zero_le _)))
    by_cases h16 : 16 ≤ n / 16 ^ j
    · have HU := Lib.hid (pow_up j n h16)
      have hj15 := pow_15 j n hn HU.out
      have HM := Lib.hid (show n / 16 ^ (j + 1) = n / 16 ^ j / 16 by rw [Nat.pow_succ, Nat.div_div_eq_div_mul])
      have HB := Lib.hid (fun c => hexRow_set p j n (by omega) hB c)
      clear hp hB
      generalize n / 16 ^ j = m at *
      have ha := and15 m hm
      have hlt := Nat.mod_lt m (show 16 > 0 by omega)
      have HD := Lib.hid (digL (m % 16) hlt)
      go_wp2_with fail
      refine ⟨⟨j + 1, p - 1, by omega, by omega, .inr HU.out, ?_, by congr 1; omega, hG.st (Nat.le_refl _) _, HB.out _ (HD.out _)⟩, by simp [intOf]; omega⟩
      rw [HM.out]; simp
    · have HT := Lib.hid (hexT_of j n (pow_dn j n (by omega)) hp)
      have HM := Lib.hid (show n / 16 ^ j % 16 = n / 16 ^ j from Nat.mod_eq_of_lt (by omega))
      have HB := Lib.hid (fun c => hexRow_set p j n (by omega) hB c)
      clear hp hB
      rw [HM.out] at HB
      clear HM
      generalize n / 16 ^ j = m at *
      have HD := Lib.hid (digL m (by omega))
      have HI := Lib.hid (show (p : Int) - 1 = ((p - 1 : Nat) : Int) by omega)
      go_wp2_with (first
        | (refine wpList_slArr (l := hexRow (p - 1) (j + 1) n) (p := p - 1) _ _ rfl rfl rfl ?_ (HB.out _ (HD.out _)) ?_ ?_ ?_; exact congrArg (Value.int IntKind.i64) HI.out; rw [hexRow_len]; omega; omega; intro hA2; have HA2 := Lib.hid hA2; clear hA2)
        | (refine wpList_toStr _ rfl rfl rfl HA2.out ?_))
      go_ret2
      rw [hexRow_drop, HT.out]
      exact ⟨rfl, hG.st (Nat.le_refl _) _⟩
end Go.Proofs.YtnmfmcmokdoieaaGreatDoor
/- XMulti19 -/
namespace Go.Proofs.YtnmfmcmokdoieaaGreatDoor
open Go.RowKit
set_option maxHeartbeats 4000000 in
theorem formatUintI_16 (n : Nat) (w : World) (hn : n < 18446744073709551616) (hz : Tz w) : Calls Tryz.prog 26 #[.int .u64 n, .int .i64 16] w fun e w' => e = .returned (str (hexT n)) ∧ Gr w w' := by
  go_enter Tryz.func26, Tryz.ntmps26
  go_wp2_with (go_at_call 43; refine (formatBits_str _ _ hn hz).mono ?_; rintro e w' ⟨rfl, hG⟩)
  go_ret
  exact ⟨rfl, hG⟩
theorem formatUint_16 (n : Nat) (w : World) (hn : n < 18446744073709551616) (hz : Tz w) : Calls Tryz.prog 16 #[.int .u64 n, .int .i64 16] w fun e w' => e = .returned (str (hexT n)) ∧ Gr w w' := by
  go_enter Tryz.func16, Tryz.ntmps16
  go_wp2_with (go_at_call 26; refine (formatUintI_16 _ _ hn hz).mono ?_; rintro e w' ⟨rfl, hG⟩)
  go_ret
  exact ⟨rfl, hG⟩
theorem andM (m : Nat) (h : m < 4294967296) : bits .and .u64 (m : Int) 4294967295 = (m : Int) := by
  have := u64_and_nat m 4294967295 (by omega) (by omega)
  rw [show (4294967295 : Nat) = 2 ^ 32 - 1 from rfl, Nat.and_two_pow_sub_one_eq_mod, Nat.mod_eq_of_lt (by omega)] at this
  exact this
theorem mul64_small (c : Nat) (w : World) (hc : c ≤ 100) : Calls Tryz.prog 45 #[.int .u64 1, .int .u64 c] w fun e w' => e = .returned (.tuple #[.int .u64 0, .int .u64 c]) ∧ w = w' := by
  have h0 : bits .and .u64 0 4294967295 = 0 := andM 0 (by omega)
  have h1 : bits .and .u64 1 4294967295 = 1 := andM 1 (by omega)
  have h2 := andM c (by omega)
  have h3 : (c : Int) / 4294967296 = 0 := by omega
  go_enter Tryz.func45, Tryz.ntmps45
  go_wp2_with fail
  go_ret2
  exact ⟨rfl, rfl⟩
theorem mul_small (c : Nat) (w : World) (hc : c ≤ 100) : Calls Tryz.prog 27 #[.int .u64 1, .int .u64 c] w fun e w' => e = .returned (.tuple #[.int .u64 0, .int .u64 c]) ∧ w = w' := by
  go_enter Tryz.func27, Tryz.ntmps27
  go_wp2_with (go_at_call 45; refine (mul64_small _ _ hc).mono ?_; rintro e w' ⟨rfl, rfl⟩)
  go_ret2
  exact ⟨rfl, rfl⟩
theorem hp_zero (s : ByteArray) (b : Bool) (hb : Lib.hasPrefix s.data.toList [48] = b) (w : World) : Calls Tryz.prog 28 #[.string s, str [48]] w fun e w' => e = .returned (.bool b) ∧ w = w' :=
  (Tryz.strings_HasPrefix s ⟨#[48]⟩ w).mono fun _ _ ⟨h1, h2⟩ => ⟨by rw [h1]; exact congrArg (fun b => Ending.returned (.bool b)) hb, h2.symm⟩
set_option maxHeartbeats 4000000 in
set_option maxRecDepth 100000 in
theorem repeat_zero (c : Nat) (w : World) (hc : c ≤ 15) : Calls Tryz.prog 17 #[str [48], .int .i64 c] w fun e w' => e = .returned (str (List.replicate c 48)) ∧ Gr w w' := by
  rcases (show c = 0 ∨ c = 1 ∨ 2 ≤ c by omega) with rfl | rfl | h2
  · go_enter Tryz.func17, Tryz.ntmps17
    go_wp2_with fail
    go_ret
    exact ⟨rfl, Gr.refl _⟩
  · go_enter Tryz.func17, Tryz.ntmps17
    go_wp2_with fail
    go_ret
    exact ⟨rfl, Gr.refl _⟩
  · have e0 : ((c : Int) == 0) = false := by simp; omega
    have e1 : ((c : Int) == 1) = false := by simp; omega
    go_enter Tryz.func17, Tryz.ntmps17
    go_wp2_with (first | (go_at_call 27; refine (mul_small _ _ (by omega)).mono ?_; rintro e w' ⟨rfl, rfl⟩) | (go_at_call 28; (first | refine (hp_zero _ false (by rfl) _).mono ?_ | refine (hp_zero _ true (by rfl) _).mono ?_); rintro e w' ⟨rfl, rfl⟩))
    go_ret
    refine ⟨?_, Gr.refl _⟩
    have ht : List.take c (List.replicate 64 (48 : UInt8)) = List.replicate c 48 := by rw [List.take_replicate, Nat.min_eq_left (by omega)]
    rw [← ht]
    rfl
set_option maxHeartbeats 4000000 in
theorem boundary_any (k : Int) (w : World) (hz : Tz w) : Calls Tryz.prog 7 #[.int .i64 k] w fun e w' => e = .returned (str (boundN k)) ∧ Gr w w' := by
  have hwr : IntKind.u64.wrap k = ((u64N k : Nat) : Int) := by unfold u64N; simp [IntKind.wrap, IntKind.bits, IntKind.signed]; omega
  have hn := u64N_lt k
  have hl := hexT_le _ hn
  have HP := Lib.hid (hexT_pad _ hn)
  have hB : boundN k = sliceN ++ (List.replicate (16 - (hexT (u64N k)).length) 48 ++ hexT (u64N k)) := by rw [← HP.out]; rfl
  have HB := Lib.hid hB
  clear hB HP
  generalize u64N k = n at *
  have hc : (16 : Int) - ((hexT n).length : Int) = ((16 - (hexT n).length : Nat) : Int) := by omega
  have HC := Lib.hid hc
  clear hc
  go_enter Tryz.func7, Tryz.ntmps7
  go_upto_region 2 with (go_at_call 16; refine (formatUint_16 _ _ hn hz).mono ?_; rintro e w1 ⟨rfl, hG1⟩)
  have HR := Lib.hid (fun w => repeat_zero (16 - (hexT n).length) w (by omega))
  rw [← HC.out] at HR
  generalize hexT n = t at *
  go_wp2_with (go_at_call 17; refine (HR.out _).mono ?_; rintro e w2 ⟨rfl, hG2⟩)
  go_ret
  refine ⟨?_, Gr.tr hG1 hG2⟩
  rw [HB.out]
  refine congrArg (fun b => Ending.returned (.string b)) ?_
  apply ByteArray.ext
  simp [sliceN]
end Go.Proofs.YtnmfmcmokdoieaaGreatDoor
