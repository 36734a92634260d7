/- The library's numbers in sixteens. Conditions: the library's table holds what it holds. -/
import Derived.Test.YtnmfmcmokdoieaaDoorHexL
import Derived.Test.YtnmfmcmokdoieaaDoorBytes3
import Derived.Laws.BitsAllLaws
set_option linter.unusedVariables false
set_option linter.unusedSimpArgs false
namespace Go.Proofs.YtnmfmcmokdoieaaDoor
open Go.RowKit
/-- the library's table of noughts behind a number, at 16 -/
def Tz (w : World) : Prop := w.cell? ⟨5, 15, none⟩ = some (.int .u8 4)
theorem Tz.gr {w w' : World} (h : Tz w) (g : Gr w w') : Tz w' := Gr.cell g h
theorem tz64_16 (w : World) (h : Tz w) : Calls Tryd.prog 107 #[.int .u64 16] w fun e w' => e = .returned (.int .i64 4) ∧ w = w' := by
  unfold Tz at h
  have hx : IntKind.u64.wrap (bits BinOp.and IntKind.u64 16 (IntKind.u64.wrap (-16)) * 285870213051353865) / 288230376151711744 = 15 := by kernel_rfl
  go_enter Tryd.func107, Tryd.ntmps107
  go_wp2_with fail
  go_ret
  exact ⟨rfl, rfl⟩
theorem tz_16 (w : World) (h : Tz w) : Calls Tryd.prog 84 #[.int .u64 16] w fun e w' => e = .returned (.int .i64 4) ∧ w = w' := by
  go_enter Tryd.func84, Tryd.ntmps84
  go_wp2_with (go_at_call 107; refine (tz64_16 _ h).mono ?_; rintro e w' ⟨rfl, rfl⟩)
  go_ret
  exact ⟨rfl, rfl⟩
theorem pow2_16 (w : World) : Calls Tryd.prog 83 #[.int .i64 16] w fun e w' => e = .returned (.bool true) ∧ w = w' := by
  have hx : bits BinOp.and IntKind.i64 16 15 = 0 := by kernel_rfl
  go_enter Tryd.func83, Tryd.ntmps83
  go_wp2_with fail
  go_ret
  exact ⟨by rfl, rfl⟩
/-- the row that the digits are written into, from behind -/
def hexRow (p j n : Nat) : List UInt8 := List.replicate p 0 ++ hexW j n
theorem hexRow_len (p j n : Nat) : (hexRow p j n).length = p + j := by unfold hexRow; rw [List.length_append, List.length_replicate, hexW_len]
theorem hexRow_step (p j n : Nat) : (hexRow (p + 1) j n).set p (hexD (n / 16 ^ j % 16)) = hexRow p (j + 1) n := by
  unfold hexRow
  rw [hexW, List.replicate_succ', List.append_assoc, List.set_append_right _ _ (by simp)]
  simp
theorem hexRow_set {w : World} {g : Nat} {t : TypeId} {fr : Nat × Nat} (p j n : Nat) (hp : 0 < p) (h : Bk w g t ((hexRow p j n).map byt).toArray fr) (c : UInt8) (hc : c = hexD (n / 16 ^ j % 16)) : Bk (w.setCell ⟨g, p - 1, none⟩ (.int .u8 (c.toNat : Int))) g t ((hexRow (p - 1) (j + 1) n).map byt).toArray fr := by
  obtain ⟨p, rfl⟩ : ∃ q, p = q + 1 := ⟨p - 1, by omega⟩
  have := h.set p (byt c)
  rw [Nat.add_sub_cancel, ← hexRow_step p j n, List.map_set, ← hc]
  simpa using this
theorem hexRow_cell {w : World} {g : Nat} {t : TypeId} {fr : Nat × Nat} (p j n : Nat) (hp : 0 < p) (h : Bk w g t ((hexRow p j n).map byt).toArray fr) : w.cell? ⟨g, p - 1, none⟩ = some (byt 0) := by
  rw [h.cell (p - 1)]
  unfold hexRow
  simp only [List.map_append, List.map_replicate, List.getElem?_toArray]
  rw [List.getElem?_append_left (by rw [List.length_replicate]; omega), List.getElem?_replicate, if_pos (by omega)]
theorem hexRow_drop (p j n : Nat) : (hexRow p j n).drop p = hexW j n := by
  unfold hexRow; rw [List.drop_append_of_le_length (by simp)]; simp
theorem hexRow_zero (n : Nat) : (hexRow 65 0 n) = List.replicate 65 0 := by unfold hexRow; simp [hexW]
theorem digL (d : Nat) (h : d < 16) (hd : d < 36) : ([48, 49, 50, 51, 52, 53, 54, 55, 56, 57, 97, 98, 99, 100, 101, 102, 103, 104, 105, 106, 107, 108, 109, 110, 111, 112, 113, 114, 115, 116, 117, 118, 119, 120, 121, 122] : List UInt8)[d]'(hd) = hexD d := by
  have : ∀ x : Fin 16, ([48, 49, 50, 51, 52, 53, 54, 55, 56, 57, 97, 98, 99, 100, 101, 102, 103, 104, 105, 106, 107, 108, 109, 110, 111, 112, 113, 114, 115, 116, 117, 118, 119, 120, 121, 122] : List UInt8)[x.1]? = some (hexD x.1) := by decide
  have := this ⟨d, h⟩
  rw [List.getElem?_eq_getElem hd] at this
  exact Option.some.inj this
theorem and15 (m : Nat) (h : m < 18446744073709551616) : bits .and .u64 (m : Int) 15 = ((m % 16 : Nat) : Int) := by
  have := u64_and_nat m 15 h (by omega)
  rw [show (15 : Nat) = 2 ^ 4 - 1 from rfl, Nat.and_two_pow_sub_one_eq_mod] at this
  exact this
theorem pow_up (j n : Nat) (h : 16 ≤ n / 16 ^ j) : 16 ^ (j + 1) ≤ n := by
  rw [Nat.pow_succ, Nat.mul_comm]; exact (Nat.le_div_iff_mul_le (Nat.pow_pos (by omega))).1 h
theorem pow_dn (j n : Nat) (h : n / 16 ^ j < 16) : n < 16 ^ (j + 1) := by
  rw [Nat.pow_succ, Nat.mul_comm]; exact (Nat.div_lt_iff_lt_mul (Nat.pow_pos (by omega))).1 h
theorem pow_15 (j n : Nat) (hn : n < 18446744073709551616) (h : 16 ^ (j + 1) ≤ n) : j < 15 := by
  rcases Nat.lt_or_ge j 15 with h1 | h1
  · exact h1
  · have := Nat.pow_le_pow_right (n := 16) (by omega) (show 16 ≤ j + 1 by omega); omega
theorem arrT : Tryd.prog.underlying 122 = some (.array (Tryd.prog.arrayLen 122) (Tryd.prog.elem 122)) := by kernel_rfl
theorem sizeArr (w : World) : (sizeOf (Tryd.prog.elem 122)).run Tryd.prog w = .ok 1 w := by
  simp [sizeOf, typeInfo]; kernel_rfl
theorem arrLen : Tryd.prog.arrayLen 122 = 65 := by kernel_rfl
/-- a[k:] of an array of bytes -/
theorem wpList_slArr {ops : Array Oper} {rest : List Oper} {o : Oper} {a : Act} {Q : Exit → Act → World → Prop} {w : World} {g : Nat} {l : List UInt8} {fr : Nat × Nat} {p : Nat} (x y : Operand) (hgd : o.guard = none) (ho : o.op = .slice 122 x (some y) none none) (hx : a.eval x = .pointer (some ⟨g, 0, none⟩)) (hy : a.eval y = .int .i64 (p : Int))
    (hb : Bk w g 122 (l.map byt).toArray fr) (hl : l.length = 65) (hk : p < 65)
    (h : Byts w (.slice (some ⟨g, p, none⟩) (65 - p) (65 - p)) (l.drop p) → wpList Tryd.prog ops Q rest (a.put o.dst (.slice (some ⟨g, p, none⟩) (65 - p) (65 - p))) w) : wpList Tryd.prog ops Q (o :: rest) a w := by
  refine wpList_run hgd ?_ (h ⟨_, _, by rw [List.length_drop, hl], by rw [List.length_drop, hl]; exact Nat.le_refl _, by rw [List.length_drop]; omega, .inr ⟨g, p, rfl, hb.lt, fun j u hu => ?_⟩⟩)
  · unfold execOp
    simp only [ho, hx, hy, Option.map_some, Option.map_none, Sem.run_bind, run_sliceAt_array_l w _ _ arrT .i64 (p : Int) (by omega) (by rw [arrLen]; omega), sizeArr, Result.andThen_ok, Sem.run_pure, slicedAt, arrLen]
    rw [if_neg (by simp; omega)]
    simp [Addr.add]; omega
  · rw [hb.cell (p + j)]
    rw [List.map_drop, List.getElem?_drop] at hu
    simpa using hu
set_option maxHeartbeats 4000000 in
set_option maxRecDepth 100000 in
theorem formatBits_str (n : Nat) (w : World) (hn : n < 18446744073709551616) (hz : Tz w) :
    Calls Tryd.prog 59 #[.slice none 0 0, .int .u64 n, .int .i64 16, .bool false, .bool false] w fun e w' => e = .returned (.tuple #[.slice none 0 0, str (hexT n)]) ∧ Gr w w' := by
  go_enter Tryd.func59, Tryd.ntmps59
  go_wp2_with (first | (go_at_call 83; refine (pow2_16 _).mono ?_; rintro e w' ⟨rfl, rfl⟩) | (go_at_call 84; refine (tz_16 _ (hz.gr (Gr.al (Gr.refl w) _))).mono ?_; rintro e w' ⟨rfl, rfl⟩))
  go_loopw [1, 13] (fun u i wr => ∃ j p : Nat, p + j = 65 ∧ j ≤ 15 ∧ (j = 0 ∨ 16 ^ j ≤ n) ∧ u = .int .u64 ((n / 16 ^ j : Nat) : Int) ∧ i = .int .i64 (p : Int) ∧ Gr w wr ∧ Bk wr w.heap.size 122 ((hexRow p j n).map byt).toArray (0, 0)) (fun u _ _ => (intOf u).toNat)
  case atStart => exact ⟨0, 65, rfl, by omega, .inl rfl, by simp, rfl, Gr.al (Gr.refl w) _, by rw [hexRow_zero]; exact Bk.new w _ _ _⟩
  case round =>
    obtain ⟨j, p, hpj, hj, hp, rfl, rfl, hG, hB⟩ := hrel
    have hm : n / 16 ^ j < 18446744073709551616 := Nat.lt_of_le_of_lt (Nat.div_le_self _ _) hn
    have hc := hexRow_cell p j n (by omega) hB
    have hf := (hB.free (p - 1) (.inr (Nat.zero_le _)))
    by_cases h16 : 16 ≤ n / 16 ^ j
    · have HU := Lib.hid (pow_up j n h16)
      have hj15 := pow_15 j n hn HU.out
      have HM := Lib.hid (show n / 16 ^ (j + 1) = n / 16 ^ j / 16 by rw [Nat.pow_succ, Nat.div_div_eq_div_mul])
      have HB := Lib.hid (fun c => hexRow_set p j n (by omega) hB c)
      clear hp hB
      generalize n / 16 ^ j = m at *
      have ha := and15 m hm
      have hlt := Nat.mod_lt m (show 16 > 0 by omega)
      have HD := Lib.hid (digL (m % 16) hlt)
      go_wp2_with fail
      refine ⟨⟨j + 1, p - 1, by omega, by omega, .inr HU.out, ?_, by congr 1; omega, hG.st (Nat.le_refl _) _, HB.out _ (HD.out _)⟩, by simp [intOf]; omega⟩
      rw [HM.out]; simp
    · have HT := Lib.hid (hexT_of j n (pow_dn j n (by omega)) hp)
      have HM := Lib.hid (show n / 16 ^ j % 16 = n / 16 ^ j from Nat.mod_eq_of_lt (by omega))
      have HB := Lib.hid (fun c => hexRow_set p j n (by omega) hB c)
      clear hp hB
      rw [HM.out] at HB
      clear HM
      generalize n / 16 ^ j = m at *
      have HD := Lib.hid (digL m (by omega))
      have HI := Lib.hid (show (p : Int) - 1 = ((p - 1 : Nat) : Int) by omega)
      go_wp2_with (first
        | (refine wpList_slArr (l := hexRow (p - 1) (j + 1) n) (p := p - 1) _ _ rfl rfl rfl ?_ (HB.out _ (HD.out _)) ?_ ?_ ?_; exact congrArg (Value.int IntKind.i64) HI.out; rw [hexRow_len]; omega; omega; intro hA2; have HA2 := Lib.hid hA2; clear hA2)
        | (refine wpList_toStr _ rfl rfl rfl HA2.out ?_))
      go_ret2
      rw [hexRow_drop, HT.out]
      exact ⟨rfl, hG.st (Nat.le_refl _) _⟩
end Go.Proofs.YtnmfmcmokdoieaaDoor
