/- Several texts in one (their own heads say what each is). No conditions but those that each theorem names. -/
import Derived.Test.YtcfefflnebkjnaaGreatDoorDig
import Derived.Lib.ParseIntB
import Derived.Lib.IndexMore
import Derived.Lib.Strings
import Derived.Test.YtcfefflnebkjnaaGreatDoorJLawA
import Derived.Test.YtcfefflnebkjnaaGreatDoorJWords
import Derived.Test.YtcfefflnebkjnaaGreatDoorJField2
import Derived.Lib.ParseIntBTie
import Derived.Lib.AtoiErrMem
import Derived.Test.YtcfefflnebkjnaaGreatDoorJBytes
import Derived.Laws.BitsAllLaws
import Derived.Test.YtcfefflnebkjnaaGreatDoorJDate
import Derived.Deep.LoopGhost
set_option linter.unusedVariables false
set_option linter.unusedSimpArgs false
/- XMultiLaw1 -/
namespace Go.Proofs.YtcfefflnebkjnaaGreatDoor
def spanB (f t : Int) : Bool := decide (0 ≤ f) && (decide (f ≤ t) && decide (t ≤ 4611686018427387904))
/-- may a span of so many bytes have one? -/
def contB (f t n : Int) : Bool := spanB f t && decide (f ≠ t) && decide (t ≠ 4611686018427387904) && decide (-1 ≤ n) && decide (n ≤ 4611686018427387903) && (decide (n = -1) || decide (t ≤ n))
end Go.Proofs.YtcfefflnebkjnaaGreatDoor
/- XMultiLaw2 -/
namespace Go.Proofs.YtcfefflnebkjnaaGreatDoor
end Go.Proofs.YtcfefflnebkjnaaGreatDoor
/- XMultiLaw3 -/
namespace Go.Proofs.YtcfefflnebkjnaaGreatDoor
end Go.Proofs.YtcfefflnebkjnaaGreatDoor
/- XMultiLaw4 -/
namespace Go.Proofs.YtcfefflnebkjnaaGreatDoor
/-- may a text be a boundary? -/
def boundB (s : List UInt8) : Bool := s.all letterC && (decide (1 ≤ s.length) && decide (s.length ≤ 70))
/-- may it be a kind? -/
def kindB (s : List UInt8) : Bool := decide (1 ≤ s.length) && (decide (s.length ≤ 100) && right ([97], s))
/-! ### what is told -/
def objL (obj : List UInt8) (s : Int × Int) : List UInt8 := (obj.drop s.1.toNat).take (s.2 - s.1).toNat
section
variable (tot : Int) (kind bnd : List UInt8)
end
/-- what is asked of spans, a kind, a boundary -/
structure BodyOk (tot : Int) (kind bnd obj : List UInt8) (l : List (Int × Int)) : Prop where
  span : ∀ s ∈ l, contB s.1 s.2 tot = true ∧ s.2 ≤ obj.length
  hk : kindB kind = true
  hk13 : ∀ c ∈ kind, c ≠ 13
  hb : boundB bnd = true
theorem BodyOk.tail {tot : Int} {kind bnd obj : List UInt8} {s : Int × Int} {l : List (Int × Int)} (h : BodyOk tot kind bnd obj (s :: l)) : BodyOk tot kind bnd obj l := ⟨fun x hx => h.span x (List.mem_cons_of_mem _ hx), h.hk, h.hk13, h.hb⟩
end Go.Proofs.YtcfefflnebkjnaaGreatDoor
/- XMulti1 -/
namespace Go.Proofs.YtcfefflnebkjnaaGreatDoor
open Go.RowKit
set_option maxHeartbeats 2000000 in
theorem spanRight_any (f t : Int) (w : World) : Calls Tryz.prog 71 #[.agg #[.int .i64 f, .int .i64 t]] w fun e w' => e = .returned (.bool (spanB f t)) ∧ Gr w w' := by
  have HS := Lib.hid (show spanB f t = (decide (0 ≤ f) && (decide (f ≤ t) && decide (t ≤ 4611686018427387904))) from rfl)
  by_cases h1 : 0 ≤ f
  · have k1 : decide (0 ≤ f) = true := decide_eq_true h1
    by_cases h2 : f ≤ t
    · have k2 : decide (f ≤ t) = true := decide_eq_true h2
      go_enter Tryz.func71, Tryz.ntmps71
      go_wp2_with fail
      go_ret
      exact ⟨by rw [HS.out, k1, k2]; rfl, Gr.al (Gr.refl w) _⟩
    · have k2 : decide (f ≤ t) = false := decide_eq_false h2
      go_enter Tryz.func71, Tryz.ntmps71
      go_wp2_with fail
      go_ret
      exact ⟨by rw [HS.out, k1, k2]; rfl, Gr.al (Gr.refl w) _⟩
  · have k1 : decide (0 ≤ f) = false := decide_eq_false h1
    go_enter Tryz.func71, Tryz.ntmps71
    go_wp2_with fail
    go_ret
    exact ⟨by rw [HS.out, k1]; rfl, Gr.al (Gr.refl w) _⟩
set_option maxHeartbeats 1000000 in
theorem refEnd01_any (w : World) : Calls Tryz.prog 139 #[] w fun e w' => e = .returned (.int .i64 4611686018427387904) ∧ w' = w := by
  go_enter Tryz.func139, Tryz.ntmps139
  go_wp2_with fail
  go_ret
  exact ⟨rfl, rfl⟩
theorem refEnd01_gr (w : World) : Calls Tryz.prog 139 #[] w fun e w' => e = .returned (.int .i64 4611686018427387904) ∧ Gr w w' := (refEnd01_any w).mono fun _ _ ⟨h1, h2⟩ => ⟨h1, by subst h2; exact Gr.refl _⟩
set_option maxHeartbeats 2000000 in
theorem refSpanRight_any (f t : Int) (w : World) : Calls Tryz.prog 83 #[.agg #[.int .i64 f, .int .i64 t]] w fun e w' => e = .returned (.bool (spanB f t)) ∧ Gr w w' := by
  have HS := Lib.hid (show spanB f t = (decide (0 ≤ f) && (decide (f ≤ t) && decide (t ≤ 4611686018427387904))) from rfl)
  have hb := Bk.new w 78 #[.int .i64 f, .int .i64 t] (0, 0)
  have hG1 := Gr.al (Gr.refl w) (Obj.cells #[.int .i64 f, .int .i64 t] 78)
  by_cases h1 : 0 ≤ f
  · have k1 : decide (0 ≤ f) = true := decide_eq_true h1
    by_cases h2 : f ≤ t
    · have k2 : decide (f ≤ t) = true := decide_eq_true h2
      go_enter Tryz.func83, Tryz.ntmps83
      go_upto_region 1 with fail
      generalize w.alloc (Obj.cells #[.int .i64 f, .int .i64 t] 78) = w1 at *
      generalize w.heap.size = g at *
      have q0 : ∀ i, (gw w1 i).cell? ⟨g, 0, none⟩ = some (.int .i64 f) := fun i => (hb.gr (gw_gr w1 i)).cell 0
      have q1 : ∀ i, (gw w1 i).cell? ⟨g, 1, none⟩ = some (.int .i64 t) := fun i => (hb.gr (gw_gr w1 i)).cell 1
      have HG1 := Lib.hid hG1
      clear hb hG1
      refine wp_region_gw (by kernel_rfl) (by kernel_rfl) ?_
      repeat (first | go_big_quiet_step ((go_at_call 139; exact gw_call (refEnd01_gr _))) | quiet_step ((go_at_call 139; exact gw_call (refEnd01_gr _))))
      refine wpQuiet_nil ?_; intro wq hwq; obtain ⟨iq, rfl⟩ := hwq
      go_wp2_with fail
      go_ret
      exact ⟨by rw [HS.out, k1, k2]; rfl, Gr.tr HG1.out (gw_gr _ _)⟩
    · have k2 : decide (f ≤ t) = false := decide_eq_false h2
      go_enter Tryz.func83, Tryz.ntmps83
      go_upto_region 1 with fail
      generalize w.alloc (Obj.cells #[.int .i64 f, .int .i64 t] 78) = w1 at *
      generalize w.heap.size = g at *
      have q0 : ∀ i, (gw w1 i).cell? ⟨g, 0, none⟩ = some (.int .i64 f) := fun i => (hb.gr (gw_gr w1 i)).cell 0
      have q1 : ∀ i, (gw w1 i).cell? ⟨g, 1, none⟩ = some (.int .i64 t) := fun i => (hb.gr (gw_gr w1 i)).cell 1
      have HG1 := Lib.hid hG1
      clear hb hG1
      refine wp_region_gw (by kernel_rfl) (by kernel_rfl) ?_
      repeat (first | go_big_quiet_step ((go_at_call 139; exact gw_call (refEnd01_gr _))) | quiet_step ((go_at_call 139; exact gw_call (refEnd01_gr _))))
      refine wpQuiet_nil ?_; intro wq hwq; obtain ⟨iq, rfl⟩ := hwq
      go_wp2_with fail
      go_ret
      exact ⟨by rw [HS.out, k1, k2]; rfl, Gr.tr HG1.out (gw_gr _ _)⟩
  · have k1 : decide (0 ≤ f) = false := decide_eq_false h1
    go_enter Tryz.func83, Tryz.ntmps83
    go_upto_region 1 with fail
    generalize w.alloc (Obj.cells #[.int .i64 f, .int .i64 t] 78) = w1 at *
    generalize w.heap.size = g at *
    have q0 : ∀ i, (gw w1 i).cell? ⟨g, 0, none⟩ = some (.int .i64 f) := fun i => (hb.gr (gw_gr w1 i)).cell 0
    have q1 : ∀ i, (gw w1 i).cell? ⟨g, 1, none⟩ = some (.int .i64 t) := fun i => (hb.gr (gw_gr w1 i)).cell 1
    have HG1 := Lib.hid hG1
    clear hb hG1
    refine wp_region_gw (by kernel_rfl) (by kernel_rfl) ?_
    repeat (first | go_big_quiet_step ((go_at_call 139; exact gw_call (refEnd01_gr _))) | quiet_step ((go_at_call 139; exact gw_call (refEnd01_gr _))))
    refine wpQuiet_nil ?_; intro wq hwq; obtain ⟨iq, rfl⟩ := hwq
    go_wp2_with fail
    go_ret
    exact ⟨by rw [HS.out, k1]; rfl, Gr.tr HG1.out (gw_gr _ _)⟩
end Go.Proofs.YtcfefflnebkjnaaGreatDoor
/- XMulti2 -/
namespace Go.Proofs.YtcfefflnebkjnaaGreatDoor
open Go.RowKit
/-- a variable holds an error, or none -/
def ErrC (w : World) (g : Nat) : Prop := ∃ ev, w.cell? ⟨g, 0, none⟩ = some ev ∧ (ev = .nilIface ∨ ∃ te pe, ev = .iface te pe)
theorem ErrC.gr {w w' : World} {k : Nat} (h : ErrC w k) (g : Gr w w') : ErrC w' k := by obtain ⟨ev, h1, h2⟩ := h; exact ⟨ev, Gr.cell g h1, h2⟩
/-! ### the document's number -/
end Go.Proofs.YtcfefflnebkjnaaGreatDoor
/- XMulti3 -/
namespace Go.Proofs.YtcfefflnebkjnaaGreatDoor
open Go.RowKit
theorem Bk.set2 {w : World} {g : Nat} {t : TypeId} {a b : Value} {fr : Nat × Nat} (h : Bk w g t #[a, b] fr) (x y : Value) : Bk ((w.setCell ⟨g, 0, none⟩ x).setCell ⟨g, 1, none⟩ y) g t #[x, y] fr := by
  have := (h.set 0 x).set 1 y
  simpa using this
theorem Bk.cells2 {w : World} {g : Nat} {t : TypeId} {a b : Value} {fr : Nat × Nat} (h : Bk w g t #[a, b] fr) : w.cell? ⟨g, 0, none⟩ = some a ∧ w.cell? ⟨g, 1, none⟩ = some b := ⟨h.cell 0, h.cell 1⟩
theorem Bk.free2 {w : World} {g : Nat} {t : TypeId} {a b : Value} (h : Bk w g t #[a, b] (0, 0)) : w.frozen? ⟨g, 0, none⟩ = false ∧ w.frozen? ⟨g, 1, none⟩ = false := ⟨h.free 0 (.inr (Nat.zero_le _)), h.free 1 (.inr (Nat.zero_le _))⟩
end Go.Proofs.YtcfefflnebkjnaaGreatDoor
/- XMulti4 -/
namespace Go.Proofs.YtcfefflnebkjnaaGreatDoor
open Go.RowKit
end Go.Proofs.YtcfefflnebkjnaaGreatDoor
/- XMulti5 -/
namespace Go.Proofs.YtcfefflnebkjnaaGreatDoor
open Go.RowKit
/-! ### the document's lines -/
end Go.Proofs.YtcfefflnebkjnaaGreatDoor
/- XMulti16 -/
namespace Go.Proofs.YtcfefflnebkjnaaGreatDoor
open Go.RowKit
def hexD (d : Nat) : UInt8 := if d < 10 then UInt8.ofNat (48 + d) else UInt8.ofNat (87 + d)
/-- the last i digits of n, base 16 -/
def hexW : Nat → Nat → List UInt8
  | 0, _ => []
  | i + 1, n => hexD (n / 16 ^ i % 16) :: hexW i n
theorem hexW_len : ∀ (i n : Nat), (hexW i n).length = i
  | 0, _ => rfl
  | i + 1, n => by rw [hexW, List.length_cons, hexW_len i n]
theorem hexS {d : Nat} (h : d < 16) : List.take 1 (List.drop d [(48 : UInt8), 49, 50, 51, 52, 53, 54, 55, 56, 57, 97, 98, 99, 100, 101, 102]) = [hexD d] := by
  have : ∀ x : Fin 16, List.take 1 (List.drop x.1 [(48 : UInt8), 49, 50, 51, 52, 53, 54, 55, 56, 57, 97, 98, 99, 100, 101, 102]) = [hexD x.1] := by decide
  exact this ⟨d, h⟩
end Go.Proofs.YtcfefflnebkjnaaGreatDoor
/- XMulti17 -/
namespace Go.Proofs.YtcfefflnebkjnaaGreatDoor
open Go.RowKit
end Go.Proofs.YtcfefflnebkjnaaGreatDoor
/- XHexL -/
namespace Go.Proofs.YtcfefflnebkjnaaGreatDoor
open Go.RowKit
theorem hexW_snoc : ∀ (i n : Nat), hexW (i + 1) n = hexW i (n / 16) ++ [hexD (n % 16)]
  | 0, n => by simp [hexW]
  | i + 1, n => by
    rw [hexW, hexW_snoc i n, hexW, List.cons_append, Nat.div_div_eq_div_mul, Nat.pow_succ, Nat.mul_comm]
/-- a number in sixteens, no nought ahead -/
def hexT (n : Nat) : List UInt8 := if n < 16 then [hexD n] else hexT (n / 16) ++ [hexD (n % 16)]
termination_by n
decreasing_by omega
theorem hexT_of : ∀ (j n : Nat), n < 16 ^ (j + 1) → (j = 0 ∨ 16 ^ j ≤ n) → hexW (j + 1) n = hexT n
  | 0, n, h, _ => by
    have h' : n < 16 := by simpa using h
    rw [hexT, if_pos h']; simp [hexW, Nat.mod_eq_of_lt h']
  | j + 1, n, h, h2 => by
    have h16 : 16 ≤ n := by
      rcases h2 with h2 | h2
      · omega
      · have := Nat.pow_le_pow_right (n := 16) (by omega) (show 1 ≤ j + 1 by omega); omega
    have hd : n / 16 < 16 ^ (j + 1) := by rw [Nat.div_lt_iff_lt_mul (by omega), ← Nat.pow_succ]; exact h
    rw [hexT, if_neg (by omega), hexW_snoc, hexT_of j (n / 16) hd (by
      rcases h2 with h2 | h2
      · omega
      · right; rw [Nat.le_div_iff_mul_le (by omega), ← Nat.pow_succ]; exact h2)]
theorem hexT_len (n : Nat) (j : Nat) (h : n < 16 ^ (j + 1)) (h2 : j = 0 ∨ 16 ^ j ≤ n) : (hexT n).length = j + 1 := by rw [← hexT_of j n h h2, hexW_len]
/-- how many digits a number has -/
theorem hexT_ex : ∀ (m n : Nat), n < 16 ^ (m + 1) → ∃ j, j ≤ m ∧ n < 16 ^ (j + 1) ∧ (j = 0 ∨ 16 ^ j ≤ n)
  | 0, n, h => ⟨0, Nat.le_refl _, h, .inl rfl⟩
  | m + 1, n, h => by
    rcases Nat.lt_or_ge n (16 ^ (m + 1)) with h1 | h1
    · obtain ⟨j, hj, h2⟩ := hexT_ex m n h1
      exact ⟨j, by omega, h2⟩
    · exact ⟨m + 1, Nat.le_refl _, h, .inr h1⟩
theorem hexT_le (n : Nat) (h : n < 18446744073709551616) : 1 ≤ (hexT n).length ∧ (hexT n).length ≤ 16 := by
  obtain ⟨j, hj, h1, h2⟩ := hexT_ex 15 n h
  rw [hexT_len n j h1 h2]; omega
end Go.Proofs.YtcfefflnebkjnaaGreatDoor
/- XMulti18 -/
namespace Go.Proofs.YtcfefflnebkjnaaGreatDoor
open Go.RowKit
/-- the library's table of noughts behind a number, at 16 -/
def Tz (w : World) : Prop := w.cell? ⟨5, 15, none⟩ = some (.int .u8 4)
theorem Tz.gr {w w' : World} (h : Tz w) (g : Gr w w') : Tz w' := Gr.cell g h
theorem tz64_16 (w : World) (h : Tz w) : Calls Tryz.prog 240 #[.int .u64 16] w fun e w' => e = .returned (.int .i64 4) ∧ w = w' := by
  unfold Tz at h
  have hx : IntKind.u64.wrap (bits BinOp.and IntKind.u64 16 (IntKind.u64.wrap (-16)) * 285870213051353865) / 288230376151711744 = 15 := by kernel_rfl
  go_enter Tryz.func240, Tryz.ntmps240
  go_wp2_with fail
  go_ret
  exact ⟨rfl, rfl⟩
theorem tz_16 (w : World) (h : Tz w) : Calls Tryz.prog 221 #[.int .u64 16] w fun e w' => e = .returned (.int .i64 4) ∧ w = w' := by
  go_enter Tryz.func221, Tryz.ntmps221
  go_wp2_with (go_at_call 240; refine (tz64_16 _ h).mono ?_; rintro e w' ⟨rfl, rfl⟩)
  go_ret
  exact ⟨rfl, rfl⟩
theorem pow2_16 (w : World) : Calls Tryz.prog 220 #[.int .i64 16] w fun e w' => e = .returned (.bool true) ∧ w = w' := by
  have hx : bits BinOp.and IntKind.i64 16 15 = 0 := by kernel_rfl
  go_enter Tryz.func220, Tryz.ntmps220
  go_wp2_with fail
  go_ret
  exact ⟨by rfl, rfl⟩
/-- the row that the digits are written into, from behind -/
def hexRow (p j n : Nat) : List UInt8 := List.replicate p 0 ++ hexW j n
theorem hexRow_len (p j n : Nat) : (hexRow p j n).length = p + j := by unfold hexRow; rw [List.length_append, List.length_replicate, hexW_len]
theorem hexRow_step (p j n : Nat) : (hexRow (p + 1) j n).set p (hexD (n / 16 ^ j % 16)) = hexRow p (j + 1) n := by
  unfold hexRow
  rw [hexW, List.replicate_succ', List.append_assoc, List.set_append_right _ _ (by simp)]
  simp
theorem hexRow_set {w : World} {g : Nat} {t : TypeId} {fr : Nat × Nat} (p j n : Nat) (hp : 0 < p) (h : Bk w g t ((hexRow p j n).map byt).toArray fr) (c : UInt8) (hc : c = hexD (n / 16 ^ j % 16)) : Bk (w.setCell ⟨g, p - 1, none⟩ (.int .u8 (c.toNat : Int))) g t ((hexRow (p - 1) (j + 1) n).map byt).toArray fr := by
  obtain ⟨p, rfl⟩ : ∃ q, p = q + 1 := ⟨p - 1, by omega⟩
  have := h.set p (byt c)
  rw [Nat.add_sub_cancel, ← hexRow_step p j n, List.map_set, ← hc]
  simpa using this
theorem hexRow_cell {w : World} {g : Nat} {t : TypeId} {fr : Nat × Nat} (p j n : Nat) (hp : 0 < p) (h : Bk w g t ((hexRow p j n).map byt).toArray fr) : w.cell? ⟨g, p - 1, none⟩ = some (byt 0) := by
  rw [h.cell (p - 1)]
  unfold hexRow
  simp only [List.map_append, List.map_replicate, List.getElem?_toArray]
  rw [List.getElem?_append_left (by rw [List.length_replicate]; omega), List.getElem?_replicate, if_pos (by omega)]
theorem hexRow_drop (p j n : Nat) : (hexRow p j n).drop p = hexW j n := by
  unfold hexRow; rw [List.drop_append_of_le_length (by simp)]; simp
theorem hexRow_zero (n : Nat) : (hexRow 65 0 n) = List.replicate 65 0 := by unfold hexRow; simp [hexW]
theorem digL (d : Nat) (h : d < 16) (hd : d < 36) : ([48, 49, 50, 51, 52, 53, 54, 55, 56, 57, 97, 98, 99, 100, 101, 102, 103, 104, 105, 106, 107, 108, 109, 110, 111, 112, 113, 114, 115, 116, 117, 118, 119, 120, 121, 122] : List UInt8)[d]'(hd) = hexD d := by
  have : ∀ x : Fin 16, ([48, 49, 50, 51, 52, 53, 54, 55, 56, 57, 97, 98, 99, 100, 101, 102, 103, 104, 105, 106, 107, 108, 109, 110, 111, 112, 113, 114, 115, 116, 117, 118, 119, 120, 121, 122] : List UInt8)[x.1]? = some (hexD x.1) := by decide
  have := this ⟨d, h⟩
  rw [List.getElem?_eq_getElem hd] at this
  exact Option.some.inj this
theorem and15 (m : Nat) (h : m < 18446744073709551616) : bits .and .u64 (m : Int) 15 = ((m % 16 : Nat) : Int) := by
  have := u64_and_nat m 15 h (by omega)
  rw [show (15 : Nat) = 2 ^ 4 - 1 from rfl, Nat.and_two_pow_sub_one_eq_mod] at this
  exact this
theorem pow_up (j n : Nat) (h : 16 ≤ n / 16 ^ j) : 16 ^ (j + 1) ≤ n := by
  rw [Nat.pow_succ, Nat.mul_comm]; exact (Nat.le_div_iff_mul_le (Nat.pow_pos (by omega))).1 h
theorem pow_dn (j n : Nat) (h : n / 16 ^ j < 16) : n < 16 ^ (j + 1) := by
  rw [Nat.pow_succ, Nat.mul_comm]; exact (Nat.div_lt_iff_lt_mul (Nat.pow_pos (by omega))).1 h
theorem pow_15 (j n : Nat) (hn : n < 18446744073709551616) (h : 16 ^ (j + 1) ≤ n) : j < 15 := by
  rcases Nat.lt_or_ge j 15 with h1 | h1
  · exact h1
  · have := Nat.pow_le_pow_right (n := 16) (by omega) (show 16 ≤ j + 1 by omega); omega
theorem arrT : Tryz.prog.underlying 221 = some (.array (Tryz.prog.arrayLen 221) (Tryz.prog.elem 221)) := by kernel_rfl
theorem sizeArr (w : World) : (sizeOf (Tryz.prog.elem 221)).run Tryz.prog w = .ok 1 w := by
  simp [sizeOf, typeInfo]; kernel_rfl
theorem arrLen : Tryz.prog.arrayLen 221 = 65 := by kernel_rfl
/-- a[k:] of an array of bytes -/
theorem wpList_slArr {ops : Array Oper} {rest : List Oper} {o : Oper} {a : Act} {Q : Exit → Act → World → Prop} {w : World} {g : Nat} {l : List UInt8} {fr : Nat × Nat} {p : Nat} (x y : Operand) (hgd : o.guard = none) (ho : o.op = .slice 221 x (some y) none none) (hx : a.eval x = .pointer (some ⟨g, 0, none⟩)) (hy : a.eval y = .int .i64 (p : Int))
    (hb : Bk w g 221 (l.map byt).toArray fr) (hl : l.length = 65) (hk : p < 65)
    (h : Byts w (.slice (some ⟨g, p, none⟩) (65 - p) (65 - p)) (l.drop p) → wpList Tryz.prog ops Q rest (a.put o.dst (.slice (some ⟨g, p, none⟩) (65 - p) (65 - p))) w) : wpList Tryz.prog ops Q (o :: rest) a w := by
  refine wpList_run hgd ?_ (h ⟨_, _, by rw [List.length_drop, hl], by rw [List.length_drop, hl]; exact Nat.le_refl _, by rw [List.length_drop]; omega, .inr ⟨g, p, rfl, hb.lt, fun j u hu => ?_⟩⟩)
  · unfold execOp
    simp only [ho, hx, hy, Option.map_some, Option.map_none, Sem.run_bind, run_sliceAt_array_l w _ _ arrT .i64 (p : Int) (by omega) (by rw [arrLen]; omega), sizeArr, Result.andThen_ok, Sem.run_pure, slicedAt, arrLen]
    rw [if_neg (by simp; omega)]
    simp [Addr.add]; omega
  · rw [hb.cell (p + j)]
    rw [List.map_drop, List.getElem?_drop] at hu
    simpa using hu
end Go.Proofs.YtcfefflnebkjnaaGreatDoor
/- XMulti19 -/
namespace Go.Proofs.YtcfefflnebkjnaaGreatDoor
open Go.RowKit
end Go.Proofs.YtcfefflnebkjnaaGreatDoor
/- XMulti6 -/
namespace Go.Proofs.YtcfefflnebkjnaaGreatDoor
open Go.RowKit
end Go.Proofs.YtcfefflnebkjnaaGreatDoor
/- XMulti7 -/
namespace Go.Proofs.YtcfefflnebkjnaaGreatDoor
open Go.RowKit
section
variable (first : Bool) (tot : Int) (l : List UInt8) (e : Nat)
end
end Go.Proofs.YtcfefflnebkjnaaGreatDoor
/- XMulti8 -/
namespace Go.Proofs.YtcfefflnebkjnaaGreatDoor
open Go.RowKit
/-! ### a round, as the program walks it -/
end Go.Proofs.YtcfefflnebkjnaaGreatDoor
/- XMulti9 -/
namespace Go.Proofs.YtcfefflnebkjnaaGreatDoor
open Go.RowKit
end Go.Proofs.YtcfefflnebkjnaaGreatDoor
/- XMulti10 -/
namespace Go.Proofs.YtcfefflnebkjnaaGreatDoor
open Go.RowKit
def spansV (l : List (Int × Int)) : List Value := l.flatMap fun s => [.int .i64 s.1, .int .i64 s.2]
/-- a list of spans -/
def Spans (w : World) (v : Value) (l : List (Int × Int)) : Prop := Sl w v l.length (spansV l)
theorem Spans.gr {w w' : World} {v : Value} {l} (h : Spans w v l) (g : Gr w w') : Spans w' v l := Sl.gr h g
theorem spansV_at (l : List (Int × Int)) (k : Nat) (h : k < l.length) : (spansV l)[k * 2]? = some (.int .i64 l[k].1) ∧ (spansV l)[k * 2 + 1]? = some (.int .i64 l[k].2) := by
  induction l generalizing k with
  | nil => simp at h
  | cons f fs ih =>
    have hc : spansV (f :: fs) = .int .i64 f.1 :: .int .i64 f.2 :: spansV fs := rfl
    rw [hc]
    cases k with
    | zero => simp
    | succ k =>
      have := ih k (by simpa using h)
      rw [show (k + 1) * 2 = k * 2 + 1 + 1 from by omega]
      simpa using this
theorem Spans.open {w : World} {v : Value} {xs : List (Int × Int)} (h : Spans w v xs) : ∃ A c, v = .slice A xs.length c ∧ xs.length ≤ c ∧ xs.length ≤ 9223372036854775807 ∧ ∀ (k : Nat) (hk : k < xs.length), ∃ b o, A = some ⟨b, o, none⟩ ∧ b < w.heap.size ∧ w.cell? ⟨b, o + k * 2, none⟩ = some (.int .i64 xs[k].1) ∧ w.cell? ⟨b, o + k * 2 + 1, none⟩ = some (.int .i64 xs[k].2) := by
  obtain ⟨A, c, hv, hc, hm, ho⟩ := Sl.open h
  refine ⟨A, c, hv, hc, hm, fun k hk => ?_⟩
  obtain ⟨e1, e2⟩ := spansV_at xs k hk
  obtain ⟨b, o, hA, hb, hj⟩ := ho _ _ e1
  exact ⟨b, o, hA, hb, hj _ _ e1, by rw [Nat.add_assoc]; exact hj _ _ e2⟩
/-- a part: a text, or the bytes of a span -/
abbrev PartT := List UInt8 × Int × Int
def partsV (l : List PartT) : List Value := l.flatMap fun p => [str p.1, .int .i64 p.2.1, .int .i64 p.2.2]
def Parts (w : World) (v : Value) (l : List PartT) : Prop := Sl w v l.length (partsV l)
theorem Parts.gr {w w' : World} {v : Value} {l} (h : Parts w v l) (g : Gr w w') : Parts w' v l := Sl.gr h g
theorem partsV_at (l : List PartT) (k : Nat) (h : k < l.length) : (partsV l)[k * 3]? = some (str l[k].1) ∧ (partsV l)[k * 3 + 1]? = some (.int .i64 l[k].2.1) ∧ (partsV l)[k * 3 + 2]? = some (.int .i64 l[k].2.2) := by
  induction l generalizing k with
  | nil => simp at h
  | cons f fs ih =>
    have hc : partsV (f :: fs) = str f.1 :: .int .i64 f.2.1 :: .int .i64 f.2.2 :: partsV fs := rfl
    rw [hc]
    cases k with
    | zero => simp
    | succ k =>
      have := ih k (by simpa using h)
      rw [show (k + 1) * 3 = k * 3 + 1 + 1 + 1 from by omega]
      simpa using this
theorem Parts.open {w : World} {v : Value} {xs : List PartT} (h : Parts w v xs) : ∃ A c, v = .slice A xs.length c ∧ xs.length ≤ c ∧ xs.length ≤ 9223372036854775807 ∧ ∀ (k : Nat) (hk : k < xs.length), ∃ b o, A = some ⟨b, o, none⟩ ∧ b < w.heap.size ∧ w.cell? ⟨b, o + k * 3, none⟩ = some (str xs[k].1) ∧ w.cell? ⟨b, o + k * 3 + 1, none⟩ = some (.int .i64 xs[k].2.1) ∧ w.cell? ⟨b, o + k * 3 + 2, none⟩ = some (.int .i64 xs[k].2.2) := by
  obtain ⟨A, c, hv, hc, hm, ho⟩ := Sl.open h
  refine ⟨A, c, hv, hc, hm, fun k hk => ?_⟩
  obtain ⟨e1, e2, e3⟩ := partsV_at xs k hk
  obtain ⟨b, o, hA, hb, hj⟩ := ho _ _ e1
  exact ⟨b, o, hA, hb, hj _ _ e1, by rw [Nat.add_assoc]; exact hj _ _ e2, by rw [Nat.add_assoc]; exact hj _ _ e3⟩
section
variable (tot : Int) (kind bnd : List UInt8)
end
end Go.Proofs.YtcfefflnebkjnaaGreatDoor
/- XMulti11 -/
namespace Go.Proofs.YtcfefflnebkjnaaGreatDoor
open Go.RowKit
/-- the bytes of parts, of an object -/
def fillL (obj : List UInt8) (ps : List PartT) : List UInt8 := ps.flatMap fun p => if p.1 = [] then objL obj p.2 else p.1
theorem fillL_snoc (obj : List UInt8) (ps : List PartT) (p : PartT) : fillL obj (ps ++ [p]) = fillL obj ps ++ (if p.1 = [] then objL obj p.2 else p.1) := by
  unfold fillL; rw [List.flatMap_append]; simp
theorem fillL_app (obj : List UInt8) (a b : List PartT) : fillL obj (a ++ b) = fillL obj a ++ fillL obj b := by unfold fillL; rw [List.flatMap_append]
theorem fillL_take (obj : List UInt8) (ps : List PartT) (k : Nat) : (fillL obj (ps.take k)).length ≤ (fillL obj ps).length := by
  have := congrArg (fun l => (fillL obj l).length) (List.take_append_drop k ps)
  simp only [fillL_app, List.length_append] at this
  omega
/-- a part's span lies within the object -/
def InObj (obj : List UInt8) (ps : List PartT) : Prop := ∀ p ∈ ps, p.1 = [] → 0 ≤ p.2.1 ∧ p.2.1 ≤ p.2.2 ∧ p.2.2 ≤ obj.length
end Go.Proofs.YtcfefflnebkjnaaGreatDoor
