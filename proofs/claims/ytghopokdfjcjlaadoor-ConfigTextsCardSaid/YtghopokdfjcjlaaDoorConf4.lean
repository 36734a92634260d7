/- Layer 39: what a line says of a number. The condition: the names lie where the program laid them. -/
import Derived.Test.YtghopokdfjcjlaaDoorConf3
import Derived.Test.YtghopokdfjcjlaaDoorField3
namespace Go.Proofs.YtghopokdfjcjlaaDoor
open Go.RowKit
/-- the names lie in w -/
def Nm (w : World) : Prop := ∀ (i : Nat) (x : List UInt8), namesL[i]? = some x → w.cell? ⟨0, i, none⟩ = some (str x)
theorem Nm.gr {w w' : World} (h : Nm w) (g : Gr w w') : Nm w' := fun i x hx => Gr.cell g (h i x hx)
theorem Nm.by {w w' : World} {r : Option Nat} (h : Nm w) (g : w.grownBy w' r) (hr : r ≠ some 0) : Nm w' := fun i x hx => by_cell g (h i x hx) (by simpa using fun e => hr e.symm)
theorem nmIx0 (w : World) : (Instr.index 60 (.agg #[str [117, 110, 105, 116], str [119, 97, 115, 116, 101], str [109, 111, 115, 116], str [115, 112, 101, 99, 115], str [114, 101, 115, 116, 97, 114, 116, 115], str [114, 101, 116, 114, 105, 101, 115], str [108, 105, 110, 103, 101, 114], str [98, 117, 100, 103, 101, 116], str [115, 104, 97, 114, 101], str [99, 104, 117, 110, 107]]) (.int .i64 0)).run Tryd.prog w = .ok (str [117, 110, 105, 116]) w := by kernel_rfl
theorem nmIx1 (w : World) : (Instr.index 60 (.agg #[str [117, 110, 105, 116], str [119, 97, 115, 116, 101], str [109, 111, 115, 116], str [115, 112, 101, 99, 115], str [114, 101, 115, 116, 97, 114, 116, 115], str [114, 101, 116, 114, 105, 101, 115], str [108, 105, 110, 103, 101, 114], str [98, 117, 100, 103, 101, 116], str [115, 104, 97, 114, 101], str [99, 104, 117, 110, 107]]) (.int .i64 1)).run Tryd.prog w = .ok (str [119, 97, 115, 116, 101]) w := by kernel_rfl
theorem nmIx2 (w : World) : (Instr.index 60 (.agg #[str [117, 110, 105, 116], str [119, 97, 115, 116, 101], str [109, 111, 115, 116], str [115, 112, 101, 99, 115], str [114, 101, 115, 116, 97, 114, 116, 115], str [114, 101, 116, 114, 105, 101, 115], str [108, 105, 110, 103, 101, 114], str [98, 117, 100, 103, 101, 116], str [115, 104, 97, 114, 101], str [99, 104, 117, 110, 107]]) (.int .i64 2)).run Tryd.prog w = .ok (str [109, 111, 115, 116]) w := by kernel_rfl
theorem nmIx3 (w : World) : (Instr.index 60 (.agg #[str [117, 110, 105, 116], str [119, 97, 115, 116, 101], str [109, 111, 115, 116], str [115, 112, 101, 99, 115], str [114, 101, 115, 116, 97, 114, 116, 115], str [114, 101, 116, 114, 105, 101, 115], str [108, 105, 110, 103, 101, 114], str [98, 117, 100, 103, 101, 116], str [115, 104, 97, 114, 101], str [99, 104, 117, 110, 107]]) (.int .i64 3)).run Tryd.prog w = .ok (str [115, 112, 101, 99, 115]) w := by kernel_rfl
theorem nmIx4 (w : World) : (Instr.index 60 (.agg #[str [117, 110, 105, 116], str [119, 97, 115, 116, 101], str [109, 111, 115, 116], str [115, 112, 101, 99, 115], str [114, 101, 115, 116, 97, 114, 116, 115], str [114, 101, 116, 114, 105, 101, 115], str [108, 105, 110, 103, 101, 114], str [98, 117, 100, 103, 101, 116], str [115, 104, 97, 114, 101], str [99, 104, 117, 110, 107]]) (.int .i64 4)).run Tryd.prog w = .ok (str [114, 101, 115, 116, 97, 114, 116, 115]) w := by kernel_rfl
theorem nmIx5 (w : World) : (Instr.index 60 (.agg #[str [117, 110, 105, 116], str [119, 97, 115, 116, 101], str [109, 111, 115, 116], str [115, 112, 101, 99, 115], str [114, 101, 115, 116, 97, 114, 116, 115], str [114, 101, 116, 114, 105, 101, 115], str [108, 105, 110, 103, 101, 114], str [98, 117, 100, 103, 101, 116], str [115, 104, 97, 114, 101], str [99, 104, 117, 110, 107]]) (.int .i64 5)).run Tryd.prog w = .ok (str [114, 101, 116, 114, 105, 101, 115]) w := by kernel_rfl
theorem nmIx6 (w : World) : (Instr.index 60 (.agg #[str [117, 110, 105, 116], str [119, 97, 115, 116, 101], str [109, 111, 115, 116], str [115, 112, 101, 99, 115], str [114, 101, 115, 116, 97, 114, 116, 115], str [114, 101, 116, 114, 105, 101, 115], str [108, 105, 110, 103, 101, 114], str [98, 117, 100, 103, 101, 116], str [115, 104, 97, 114, 101], str [99, 104, 117, 110, 107]]) (.int .i64 6)).run Tryd.prog w = .ok (str [108, 105, 110, 103, 101, 114]) w := by kernel_rfl
theorem nmIx7 (w : World) : (Instr.index 60 (.agg #[str [117, 110, 105, 116], str [119, 97, 115, 116, 101], str [109, 111, 115, 116], str [115, 112, 101, 99, 115], str [114, 101, 115, 116, 97, 114, 116, 115], str [114, 101, 116, 114, 105, 101, 115], str [108, 105, 110, 103, 101, 114], str [98, 117, 100, 103, 101, 116], str [115, 104, 97, 114, 101], str [99, 104, 117, 110, 107]]) (.int .i64 7)).run Tryd.prog w = .ok (str [98, 117, 100, 103, 101, 116]) w := by kernel_rfl
theorem nmIx8 (w : World) : (Instr.index 60 (.agg #[str [117, 110, 105, 116], str [119, 97, 115, 116, 101], str [109, 111, 115, 116], str [115, 112, 101, 99, 115], str [114, 101, 115, 116, 97, 114, 116, 115], str [114, 101, 116, 114, 105, 101, 115], str [108, 105, 110, 103, 101, 114], str [98, 117, 100, 103, 101, 116], str [115, 104, 97, 114, 101], str [99, 104, 117, 110, 107]]) (.int .i64 8)).run Tryd.prog w = .ok (str [115, 104, 97, 114, 101]) w := by kernel_rfl
theorem nmIx9 (w : World) : (Instr.index 60 (.agg #[str [117, 110, 105, 116], str [119, 97, 115, 116, 101], str [109, 111, 115, 116], str [115, 112, 101, 99, 115], str [114, 101, 115, 116, 97, 114, 116, 115], str [114, 101, 116, 114, 105, 101, 115], str [108, 105, 110, 103, 101, 114], str [98, 117, 100, 103, 101, 116], str [115, 104, 97, 114, 101], str [99, 104, 117, 110, 107]]) (.int .i64 9)).run Tryd.prog w = .ok (str [99, 104, 117, 110, 107]) w := by kernel_rfl
attribute [go_sem] nmIx0 nmIx1 nmIx2 nmIx3 nmIx4 nmIx5 nmIx6 nmIx7 nmIx8 nmIx9
/-- what 'line' hands back -/
def SayEnd (s : List UInt8) (w : World) (e : Ending) (w' : World) : Prop :=
  (∃ i n : Nat, e = .returned (.tuple #[.int .i64 i, .int .i64 n, .bool (sayL s).isSome]) ∧ i < 10 ∧ ∀ p, sayL s = some p → p = (i, n)) ∧ Gr w w'
theorem say_none {s : List UInt8} (h : blankAt s = none) : sayL s = none := by unfold sayL; rw [h]
theorem say_other {s : List UInt8} {k : Nat} (h : blankAt s = some k) (h2 : nameIx (s.take k) = none) : sayL s = none := by unfold sayL; rw [h]; simp only; rw [h2]
theorem say_name {s : List UInt8} {k i : Nat} (h : blankAt s = some k) (h2 : nameIx (s.take k) = some i) : sayL s = (readL i (trim (s.drop k))).map fun n => (i, n) := by unfold sayL; rw [h]; simp only; rw [h2]
theorem name_none {x : List UInt8} (h : ∀ j y, j < 10 → namesL[j]? = some y → x ≠ y) : nameIx x = none := by
  unfold nameIx
  rw [List.findIdx?_eq_none_iff]
  intro y hy
  obtain ⟨j, hj, rfl⟩ := List.getElem_of_mem hy
  have := h j namesL[j] (by simpa [namesL] using hj) (by simp)
  simp; exact fun e => this e.symm
theorem number_tup (s : List UInt8) (w : World) : Calls Tryd.prog 40 #[str s] w fun e w' => e = .returned (.tuple #[.int .i64 (((numberL s).getD 0 : Nat) : Int), .bool (numberL s).isSome]) ∧ w' = w := c_number_any s w
theorem loose_tup (s : List UInt8) (w : World) (hs : s.length ≤ 9223372036854775807) : Calls Tryd.prog 26 #[str s] w fun e w' => e = .returned (.tuple #[.int .i64 (((kindL s).getD 0 : Nat) : Int), .bool (kindL s).isSome]) ∧ w' = w := c_loose_any s w hs
theorem say_end {s : List UInt8} {w w' : World} {i : Nat} {o : Option Nat} (hi : i < 10) (h : sayL s = o.map fun n => (i, n)) (hg : Gr w w') : SayEnd s w (.returned (.tuple #[.int .i64 i, .int .i64 ((o.getD 0 : Nat) : Int), .bool o.isSome])) w' := by
  refine ⟨⟨i, o.getD 0, by rw [h]; cases o <;> rfl, hi, fun p hp => ?_⟩, hg⟩
  rw [h] at hp
  cases o with
  | none => cases hp
  | some n => injection hp with hp; exact hp.symm
set_option maxHeartbeats 8000000 in
set_option maxRecDepth 100000 in
theorem c_line_any (s : List UInt8) (w : World) (hs : s.length ≤ 4000000000) (ha : Ascii s) (hn : Nm w) : Calls Tryd.prog 37 #[str s] w (SayEnd s w) := by
  have HI := Lib.hid (fun (w : World) => anyBlank s w hs ha)
  have hge := Lib.indexAny_ge [32, 9] s
  have HNm := Lib.hid hn
  clear ha hn
  by_cases hi : Lib.indexAny s [32, 9] = -1
  · have hlt : decide (Lib.indexAny s [32, 9] < 0) = true := decide_eq_true (by omega)
    have HS := Lib.hid (say_none (any_none s hi))
    go_enter Tryd.func37, Tryd.ntmps37
    go_wp2_with (go_at_call 52; refine (HI.out _).mono ?_; rintro e w1 ⟨rfl, hG1⟩)
    go_ret3
    exact ⟨⟨0, 0, by rw [HS.out]; rfl, by omega, fun p hp => by rw [HS.out] at hp; cases hp⟩, hG1⟩
  · obtain ⟨k, hk⟩ : ∃ k : Nat, Lib.indexAny s [32, 9] = k := ⟨(Lib.indexAny s [32, 9]).toNat, by omega⟩
    obtain ⟨hb, hkl⟩ := any_some s k hk
    rw [hk] at HI
    have HB := Lib.hid hb
    have kk : decide ((k : Int) < 0) = false := decide_eq_false (by omega)
    have HT := Lib.hid (fun (w : World) => trim_any (s.drop k) w (by simp; omega))
    have htl := trim_le (s.drop k)
    rw [List.length_drop] at htl
    clear hb hi hk hge
    go_enter Tryd.func37, Tryd.ntmps37
    go_upto_region 5 with (first | (go_at_call 52; refine (HI.out _).mono ?_; rintro e w1 ⟨rfl, hG1⟩) | (go_at_call 36; refine (HT.out _).mono ?_; rintro e w2 ⟨rfl, hG2⟩))
    have hG := Gr.tr hG1 hG2
    have hnm := HNm.out.gr hG
    have n0 := hnm 0 _ rfl
    have n1 := hnm 1 _ rfl
    have n2 := hnm 2 _ rfl
    have n3 := hnm 3 _ rfl
    have n4 := hnm 4 _ rfl
    have n5 := hnm 5 _ rfl
    have n6 := hnm 6 _ rfl
    have n7 := hnm 7 _ rfl
    have n8 := hnm 8 _ rfl
    have n9 := hnm 9 _ rfl
    clear hnm hG1 hG2 HNm HI HT
    generalize htv : trim (s.drop k) = v at *
    have HTV := Lib.hid htv
    clear htv
    go_upto_region 6 with fail
    clear n0 n1 n2 n3 n4 n5 n6 n7 n8 n9
    go_loop [2, 3, 4, 7, 8, 9, 10, 11, 21] (fun x2 x3 x4 x7 x8 x9 x10 x11 i => ∃ m : Nat, m ≤ 10 ∧ i = .int .i64 m ∧ ∀ (j : Nat) (y : List UInt8), j < m → namesL[j]? = some y → s.take k ≠ y) (fun _ _ _ _ _ _ _ _ i => 10 - (intOf i).toNat)
    case atStart => exact ⟨0, by omega, rfl, fun j y hj => by omega⟩
    case round =>
      obtain ⟨m, hm, rfl, hno⟩ := hrel
      have HNO := Lib.hid hno
      clear hno
      by_cases hlt : m < 10
      · obtain rfl | rfl | rfl | rfl | rfl | rfl | rfl | rfl | rfl | rfl : m = 0 ∨ m = 1 ∨ m = 2 ∨ m = 3 ∨ m = 4 ∨ m = 5 ∨ m = 6 ∨ m = 7 ∨ m = 8 ∨ m = 9 := by omega
        · by_cases hx : s.take k = [117, 110, 105, 116]
          · have HX := Lib.hid hx
            have kx : (s.take k == [117, 110, 105, 116]) = true := by rw [hx]; rfl
            clear hx
            have kz : sizedI 0 = true := rfl
            go_wp2_with (first | (go_at_call 30; refine (c_sized_any 0 _).mono ?_; rintro e w4 ⟨rfl, rfl⟩) | (go_at_call 26; refine (loose_tup v _ (by omega)).mono ?_; rintro e w4 ⟨rfl, rfl⟩))
            go_ret3
            exact say_end (i := 0) (by omega) (by rw [say_name HB.out (by rw [HX.out]; rfl), HTV.out]; rfl) hG
          · have kx : (s.take k == [117, 110, 105, 116]) = false := by simpa using hx
            go_wp2_with fail
            exact ⟨⟨1, by omega, rfl, fun j y hj hy => by
              rcases Nat.lt_or_ge j 0 with h | h
              · exact HNO.out j y h hy
              · obtain rfl : j = 0 := by omega
                cases hy; exact hx⟩, by simp [intOf]⟩
        · by_cases hx : s.take k = [119, 97, 115, 116, 101]
          · have HX := Lib.hid hx
            have kx : (s.take k == [119, 97, 115, 116, 101]) = true := by rw [hx]; rfl
            clear hx
            have kz : sizedI 1 = true := rfl
            go_wp2_with (first | (go_at_call 30; refine (c_sized_any 1 _).mono ?_; rintro e w4 ⟨rfl, rfl⟩) | (go_at_call 26; refine (loose_tup v _ (by omega)).mono ?_; rintro e w4 ⟨rfl, rfl⟩))
            go_ret3
            exact say_end (i := 1) (by omega) (by rw [say_name HB.out (by rw [HX.out]; rfl), HTV.out]; rfl) hG
          · have kx : (s.take k == [119, 97, 115, 116, 101]) = false := by simpa using hx
            go_wp2_with fail
            exact ⟨⟨2, by omega, rfl, fun j y hj hy => by
              rcases Nat.lt_or_ge j 1 with h | h
              · exact HNO.out j y h hy
              · obtain rfl : j = 1 := by omega
                cases hy; exact hx⟩, by simp [intOf]⟩
        · by_cases hx : s.take k = [109, 111, 115, 116]
          · have HX := Lib.hid hx
            have kx : (s.take k == [109, 111, 115, 116]) = true := by rw [hx]; rfl
            clear hx
            have kz : sizedI 2 = true := rfl
            go_wp2_with (first | (go_at_call 30; refine (c_sized_any 2 _).mono ?_; rintro e w4 ⟨rfl, rfl⟩) | (go_at_call 26; refine (loose_tup v _ (by omega)).mono ?_; rintro e w4 ⟨rfl, rfl⟩))
            go_ret3
            exact say_end (i := 2) (by omega) (by rw [say_name HB.out (by rw [HX.out]; rfl), HTV.out]; rfl) hG
          · have kx : (s.take k == [109, 111, 115, 116]) = false := by simpa using hx
            go_wp2_with fail
            exact ⟨⟨3, by omega, rfl, fun j y hj hy => by
              rcases Nat.lt_or_ge j 2 with h | h
              · exact HNO.out j y h hy
              · obtain rfl : j = 2 := by omega
                cases hy; exact hx⟩, by simp [intOf]⟩
        · by_cases hx : s.take k = [115, 112, 101, 99, 115]
          · have HX := Lib.hid hx
            have kx : (s.take k == [115, 112, 101, 99, 115]) = true := by rw [hx]; rfl
            clear hx
            have kz : sizedI 3 = false := rfl
            go_wp2_with (first | (go_at_call 30; refine (c_sized_any 3 _).mono ?_; rintro e w4 ⟨rfl, rfl⟩) | (go_at_call 40; refine (number_tup v _).mono ?_; rintro e w4 ⟨rfl, rfl⟩))
            go_ret3
            exact say_end (i := 3) (by omega) (by rw [say_name HB.out (by rw [HX.out]; rfl), HTV.out]; rfl) hG
          · have kx : (s.take k == [115, 112, 101, 99, 115]) = false := by simpa using hx
            go_wp2_with fail
            exact ⟨⟨4, by omega, rfl, fun j y hj hy => by
              rcases Nat.lt_or_ge j 3 with h | h
              · exact HNO.out j y h hy
              · obtain rfl : j = 3 := by omega
                cases hy; exact hx⟩, by simp [intOf]⟩
        · by_cases hx : s.take k = [114, 101, 115, 116, 97, 114, 116, 115]
          · have HX := Lib.hid hx
            have kx : (s.take k == [114, 101, 115, 116, 97, 114, 116, 115]) = true := by rw [hx]; rfl
            clear hx
            have kz : sizedI 4 = false := rfl
            go_wp2_with (first | (go_at_call 30; refine (c_sized_any 4 _).mono ?_; rintro e w4 ⟨rfl, rfl⟩) | (go_at_call 40; refine (number_tup v _).mono ?_; rintro e w4 ⟨rfl, rfl⟩))
            go_ret3
            exact say_end (i := 4) (by omega) (by rw [say_name HB.out (by rw [HX.out]; rfl), HTV.out]; rfl) hG
          · have kx : (s.take k == [114, 101, 115, 116, 97, 114, 116, 115]) = false := by simpa using hx
            go_wp2_with fail
            exact ⟨⟨5, by omega, rfl, fun j y hj hy => by
              rcases Nat.lt_or_ge j 4 with h | h
              · exact HNO.out j y h hy
              · obtain rfl : j = 4 := by omega
                cases hy; exact hx⟩, by simp [intOf]⟩
        · by_cases hx : s.take k = [114, 101, 116, 114, 105, 101, 115]
          · have HX := Lib.hid hx
            have kx : (s.take k == [114, 101, 116, 114, 105, 101, 115]) = true := by rw [hx]; rfl
            clear hx
            have kz : sizedI 5 = false := rfl
            go_wp2_with (first | (go_at_call 30; refine (c_sized_any 5 _).mono ?_; rintro e w4 ⟨rfl, rfl⟩) | (go_at_call 40; refine (number_tup v _).mono ?_; rintro e w4 ⟨rfl, rfl⟩))
            go_ret3
            exact say_end (i := 5) (by omega) (by rw [say_name HB.out (by rw [HX.out]; rfl), HTV.out]; rfl) hG
          · have kx : (s.take k == [114, 101, 116, 114, 105, 101, 115]) = false := by simpa using hx
            go_wp2_with fail
            exact ⟨⟨6, by omega, rfl, fun j y hj hy => by
              rcases Nat.lt_or_ge j 5 with h | h
              · exact HNO.out j y h hy
              · obtain rfl : j = 5 := by omega
                cases hy; exact hx⟩, by simp [intOf]⟩
        · by_cases hx : s.take k = [108, 105, 110, 103, 101, 114]
          · have HX := Lib.hid hx
            have kx : (s.take k == [108, 105, 110, 103, 101, 114]) = true := by rw [hx]; rfl
            clear hx
            have kz : sizedI 6 = true := rfl
            go_wp2_with (first | (go_at_call 30; refine (c_sized_any 6 _).mono ?_; rintro e w4 ⟨rfl, rfl⟩) | (go_at_call 26; refine (loose_tup v _ (by omega)).mono ?_; rintro e w4 ⟨rfl, rfl⟩))
            go_ret3
            exact say_end (i := 6) (by omega) (by rw [say_name HB.out (by rw [HX.out]; rfl), HTV.out]; rfl) hG
          · have kx : (s.take k == [108, 105, 110, 103, 101, 114]) = false := by simpa using hx
            go_wp2_with fail
            exact ⟨⟨7, by omega, rfl, fun j y hj hy => by
              rcases Nat.lt_or_ge j 6 with h | h
              · exact HNO.out j y h hy
              · obtain rfl : j = 6 := by omega
                cases hy; exact hx⟩, by simp [intOf]⟩
        · by_cases hx : s.take k = [98, 117, 100, 103, 101, 116]
          · have HX := Lib.hid hx
            have kx : (s.take k == [98, 117, 100, 103, 101, 116]) = true := by rw [hx]; rfl
            clear hx
            have kz : sizedI 7 = true := rfl
            go_wp2_with (first | (go_at_call 30; refine (c_sized_any 7 _).mono ?_; rintro e w4 ⟨rfl, rfl⟩) | (go_at_call 26; refine (loose_tup v _ (by omega)).mono ?_; rintro e w4 ⟨rfl, rfl⟩))
            go_ret3
            exact say_end (i := 7) (by omega) (by rw [say_name HB.out (by rw [HX.out]; rfl), HTV.out]; rfl) hG
          · have kx : (s.take k == [98, 117, 100, 103, 101, 116]) = false := by simpa using hx
            go_wp2_with fail
            exact ⟨⟨8, by omega, rfl, fun j y hj hy => by
              rcases Nat.lt_or_ge j 7 with h | h
              · exact HNO.out j y h hy
              · obtain rfl : j = 7 := by omega
                cases hy; exact hx⟩, by simp [intOf]⟩
        · by_cases hx : s.take k = [115, 104, 97, 114, 101]
          · have HX := Lib.hid hx
            have kx : (s.take k == [115, 104, 97, 114, 101]) = true := by rw [hx]; rfl
            clear hx
            have kz : sizedI 8 = true := rfl
            go_wp2_with (first | (go_at_call 30; refine (c_sized_any 8 _).mono ?_; rintro e w4 ⟨rfl, rfl⟩) | (go_at_call 26; refine (loose_tup v _ (by omega)).mono ?_; rintro e w4 ⟨rfl, rfl⟩))
            go_ret3
            exact say_end (i := 8) (by omega) (by rw [say_name HB.out (by rw [HX.out]; rfl), HTV.out]; rfl) hG
          · have kx : (s.take k == [115, 104, 97, 114, 101]) = false := by simpa using hx
            go_wp2_with fail
            exact ⟨⟨9, by omega, rfl, fun j y hj hy => by
              rcases Nat.lt_or_ge j 8 with h | h
              · exact HNO.out j y h hy
              · obtain rfl : j = 8 := by omega
                cases hy; exact hx⟩, by simp [intOf]⟩
        · by_cases hx : s.take k = [99, 104, 117, 110, 107]
          · have HX := Lib.hid hx
            have kx : (s.take k == [99, 104, 117, 110, 107]) = true := by rw [hx]; rfl
            clear hx
            have kz : sizedI 9 = true := rfl
            go_wp2_with (first | (go_at_call 30; refine (c_sized_any 9 _).mono ?_; rintro e w4 ⟨rfl, rfl⟩) | (go_at_call 26; refine (loose_tup v _ (by omega)).mono ?_; rintro e w4 ⟨rfl, rfl⟩))
            go_ret3
            exact say_end (i := 9) (by omega) (by rw [say_name HB.out (by rw [HX.out]; rfl), HTV.out]; rfl) hG
          · have kx : (s.take k == [99, 104, 117, 110, 107]) = false := by simpa using hx
            go_wp2_with fail
            exact ⟨⟨10, by omega, rfl, fun j y hj hy => by
              rcases Nat.lt_or_ge j 9 with h | h
              · exact HNO.out j y h hy
              · obtain rfl : j = 9 := by omega
                cases hy; exact hx⟩, by simp [intOf]⟩
      · obtain rfl : m = 10 := by omega
        have HS := Lib.hid (say_other HB.out (name_none HNO.out))
        go_wp2_with fail
        go_ret3
        exact ⟨⟨0, 0, by rw [HS.out]; rfl, by omega, fun p hp => by rw [HS.out] at hp; cases hp⟩, hG⟩
end Go.Proofs.YtghopokdfjcjlaaDoor
