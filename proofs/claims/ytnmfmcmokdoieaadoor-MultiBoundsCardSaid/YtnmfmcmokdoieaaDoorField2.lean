/- More functions of layer 7 on texts: contracts, for every text. No conditions but that a text's length is an int's. -/
import Derived.Test.YtnmfmcmokdoieaaDoorField1
import Derived.Lib.SlBytesConst
set_option linter.unusedVariables false
set_option linter.unusedSimpArgs false
namespace Go.Proofs.YtnmfmcmokdoieaaDoor
open Go.RowKit
def ndB (c : UInt8) (j : Nat) : Bool := letterC c || (tokB.take j).contains c
theorem ndB_zero (c : UInt8) : ndB c 0 = letterC c := by simp [ndB]
theorem ndB_end (c : UInt8) : ndB c 15 = tokC c := rfl
theorem ndB_succ (c : UInt8) (j : Nat) (h : j < tokB.length) : ndB c (j + 1) = (ndB c j || ((c.toNat : Int) == (tokB[j].toNat : Int))) := by
  unfold ndB; rw [contains_take_succ _ _ h, Bool.or_assoc]
theorem tok_cells (j : Nat) (h : j < tokB.length) : (tokB.map fun b => Value.int .u8 (b.toNat : Int)).toArray[j]? = some (.int .u8 (tokB[j].toNat : Int)) := by
  simp [List.getElem?_eq_getElem h]
set_option maxHeartbeats 1000000 in
theorem refToken_any (l : List UInt8) (w : World) (_hl : l.length ≤ 9223372036854775800) : Calls Tryd.prog 72 #[str l] w fun e w' => e = .returned (.bool (token l)) ∧ Gr w w' := by
  have kc := fun (w : World) (C : Array Value) (n c : Nat) => Lib.run_convert_bytes_const (P := Tryd.prog) w 31 5 C n c Tryd.underlying31 Tryd.underlying5
  go_enter Tryd.func72, Tryd.ntmps72
  go_wp2_with fail
  go_loopw [2, 3, 4, 5] (fun r i x y wr => ∃ k : Nat, k ≤ l.length ∧ i = .int .i64 k ∧ Gr w wr ∧ (l.take k).all tokC = true) (fun _ i _ _ _ => l.length - (intOf i).toNat)
  case atStart => exact ⟨0, Nat.zero_le _, rfl, Gr.refl _, rfl⟩
  case round =>
    obtain ⟨k, hk, rfl, hG, hE⟩ := hrel
    have HE := Lib.hid hE; clear hE
    by_cases hlt : k < l.length
    · have hs : ((97 ≤ (l[k].toNat : Int) ∧ (l[k].toNat : Int) ≤ 122) ∨ (65 ≤ (l[k].toNat : Int) ∧ (l[k].toNat : Int) ≤ 90) ∨ (48 ≤ (l[k].toNat : Int) ∧ (l[k].toNat : Int) ≤ 57)) ∨ ((l[k].toNat : Int) < 48 ∨ (57 < (l[k].toNat : Int) ∧ (l[k].toNat : Int) < 65) ∨ (90 < (l[k].toNat : Int) ∧ (l[k].toNat : Int) < 97) ∨ 122 < (l[k].toNat : Int)) := by omega
      go_upto_region 5 with fail
      go_cut [5] (fun s5 wx => s5 = .bool (letterC l[k]) ∧ Gr w wx)
      case first => 
        have hx : (l[k].toNat : Int) ≤ 255 := by have := l[k].toNat_lt; omega
        rcases hs with hs | hs
        · have hc := Lib.hid (tokC_letter _ hs)
          rcases hs with ⟨h1, h2⟩ | ⟨h1, h2⟩ | ⟨h1, h2⟩
          · have ddge97 : decide (97 ≤ ((l[k].toNat : Nat) : Int)) = true := decide_eq_true (by omega)
            have ddle122 : decide (((l[k].toNat : Nat) : Int) ≤ 122) = true := decide_eq_true (by omega)
            have ddge65 : decide (65 ≤ ((l[k].toNat : Nat) : Int)) = true := decide_eq_true (by omega)
            have ddle90 : decide (((l[k].toNat : Nat) : Int) ≤ 90) = false := decide_eq_false (by omega)
            have ddge48 : decide (48 ≤ ((l[k].toNat : Nat) : Int)) = true := decide_eq_true (by omega)
            have ddle57 : decide (((l[k].toNat : Nat) : Int) ≤ 57) = false := decide_eq_false (by omega)
            go_wp2_with fail
            go_meet
            exact ⟨by rw [hc.out], hG⟩
          · have ddge97 : decide (97 ≤ ((l[k].toNat : Nat) : Int)) = false := decide_eq_false (by omega)
            have ddle122 : decide (((l[k].toNat : Nat) : Int) ≤ 122) = true := decide_eq_true (by omega)
            have ddge65 : decide (65 ≤ ((l[k].toNat : Nat) : Int)) = true := decide_eq_true (by omega)
            have ddle90 : decide (((l[k].toNat : Nat) : Int) ≤ 90) = true := decide_eq_true (by omega)
            have ddge48 : decide (48 ≤ ((l[k].toNat : Nat) : Int)) = true := decide_eq_true (by omega)
            have ddle57 : decide (((l[k].toNat : Nat) : Int) ≤ 57) = false := decide_eq_false (by omega)
            go_wp2_with fail
            go_meet
            exact ⟨by rw [hc.out], hG⟩
          · have ddge97 : decide (97 ≤ ((l[k].toNat : Nat) : Int)) = false := decide_eq_false (by omega)
            have ddle122 : decide (((l[k].toNat : Nat) : Int) ≤ 122) = true := decide_eq_true (by omega)
            have ddge65 : decide (65 ≤ ((l[k].toNat : Nat) : Int)) = false := decide_eq_false (by omega)
            have ddle90 : decide (((l[k].toNat : Nat) : Int) ≤ 90) = true := decide_eq_true (by omega)
            have ddge48 : decide (48 ≤ ((l[k].toNat : Nat) : Int)) = true := decide_eq_true (by omega)
            have ddle57 : decide (((l[k].toNat : Nat) : Int) ≤ 57) = true := decide_eq_true (by omega)
            go_wp2_with fail
            go_meet
            exact ⟨by rw [hc.out], hG⟩
        · have hc := Lib.hid (letterC_no l[k] (by omega))
          rcases hs with h1 | ⟨h1, h2⟩ | ⟨h1, h2⟩ | h1
          · have ddge97 : decide (97 ≤ ((l[k].toNat : Nat) : Int)) = false := decide_eq_false (by omega)
            have ddle122 : decide (((l[k].toNat : Nat) : Int) ≤ 122) = true := decide_eq_true (by omega)
            have ddge65 : decide (65 ≤ ((l[k].toNat : Nat) : Int)) = false := decide_eq_false (by omega)
            have ddle90 : decide (((l[k].toNat : Nat) : Int) ≤ 90) = true := decide_eq_true (by omega)
            have ddge48 : decide (48 ≤ ((l[k].toNat : Nat) : Int)) = false := decide_eq_false (by omega)
            have ddle57 : decide (((l[k].toNat : Nat) : Int) ≤ 57) = true := decide_eq_true (by omega)
            go_wp2_with fail
            go_meet
            exact ⟨by rw [hc.out], hG⟩
          · have ddge97 : decide (97 ≤ ((l[k].toNat : Nat) : Int)) = false := decide_eq_false (by omega)
            have ddle122 : decide (((l[k].toNat : Nat) : Int) ≤ 122) = true := decide_eq_true (by omega)
            have ddge65 : decide (65 ≤ ((l[k].toNat : Nat) : Int)) = false := decide_eq_false (by omega)
            have ddle90 : decide (((l[k].toNat : Nat) : Int) ≤ 90) = true := decide_eq_true (by omega)
            have ddge48 : decide (48 ≤ ((l[k].toNat : Nat) : Int)) = true := decide_eq_true (by omega)
            have ddle57 : decide (((l[k].toNat : Nat) : Int) ≤ 57) = false := decide_eq_false (by omega)
            go_wp2_with fail
            go_meet
            exact ⟨by rw [hc.out], hG⟩
          · have ddge97 : decide (97 ≤ ((l[k].toNat : Nat) : Int)) = false := decide_eq_false (by omega)
            have ddle122 : decide (((l[k].toNat : Nat) : Int) ≤ 122) = true := decide_eq_true (by omega)
            have ddge65 : decide (65 ≤ ((l[k].toNat : Nat) : Int)) = true := decide_eq_true (by omega)
            have ddle90 : decide (((l[k].toNat : Nat) : Int) ≤ 90) = false := decide_eq_false (by omega)
            have ddge48 : decide (48 ≤ ((l[k].toNat : Nat) : Int)) = true := decide_eq_true (by omega)
            have ddle57 : decide (((l[k].toNat : Nat) : Int) ≤ 57) = false := decide_eq_false (by omega)
            go_wp2_with fail
            go_meet
            exact ⟨by rw [hc.out], hG⟩
          · have ddge97 : decide (97 ≤ ((l[k].toNat : Nat) : Int)) = true := decide_eq_true (by omega)
            have ddle122 : decide (((l[k].toNat : Nat) : Int) ≤ 122) = false := decide_eq_false (by omega)
            have ddge65 : decide (65 ≤ ((l[k].toNat : Nat) : Int)) = true := decide_eq_true (by omega)
            have ddle90 : decide (((l[k].toNat : Nat) : Int) ≤ 90) = false := decide_eq_false (by omega)
            have ddge48 : decide (48 ≤ ((l[k].toNat : Nat) : Int)) = true := decide_eq_true (by omega)
            have ddle57 : decide (((l[k].toNat : Nat) : Int) ≤ 57) = false := decide_eq_false (by omega)
            go_wp2_with fail
            go_meet
            exact ⟨by rw [hc.out], hG⟩
      case rest =>
        obtain ⟨rfl, hG2⟩ := hcut
        clear hs hG
        go_wp2_with fail
        have hcell := Lib.hid (fun (j : Nat) (h : j < tokB.length) => (World.cell?_alloc_mark wc (tokB.map fun b => Value.int .u8 (b.toNat : Int)).toArray 5 (15, 16) j).trans (tok_cells j h))
        have hG3 : Gr w (wc.alloc (Obj.cells (tokB.map fun b => Value.int .u8 (b.toNat : Int)).toArray 5 (15, 16))) := Gr.al hG2 _
        generalize hw3 : wc.alloc (Obj.cells (tokB.map fun b => Value.int .u8 (b.toNat : Int)).toArray 5 (15, 16)) = w3 at hcell hG3
        change Code.wp _ _ _ _ (wc.alloc (Obj.cells (tokB.map fun b => Value.int .u8 (b.toNat : Int)).toArray 5 (15, 16)))
        rw [hw3]; clear hw3
        go_loopw [5, 7, 42] (fun o x jv wr => ∃ j : Nat, j ≤ 15 ∧ jv = .int .i64 j ∧ o = .bool (ndB l[k] j) ∧ wr = w3) (fun _ _ jv _ => 15 - (intOf jv).toNat)
        case atStart => exact ⟨0, by omega, rfl, by rw [ndB_zero], rfl⟩
        case round =>
          obtain ⟨j, hj, rfl, rfl, rfl⟩ := hrel
          by_cases hjl : j < 15
          · have hc := hcell.out j hjl
            have hs := Lib.hid (ndB_succ l[k] j hjl)
            cases h1 : ndB l[k] j
            all_goals
              go_wp2_with fail
              exact ⟨⟨j + 1, by omega, by go_num, by rw [hs.out, h1]; simp, trivial⟩, by simp [intOf]; omega⟩
          · obtain rfl : j = 15 := by omega
            rw [ndB_end]
            clear hcell
            cases h1 : tokC l[k] with
            | true =>
              go_wp2_with fail
              exact ⟨⟨k + 1, by omega, by go_num, hG3, all_take_succ _ l k hlt HE.out h1⟩, by simp [intOf]; omega⟩
            | false =>
              go_wp2_with fail
              go_ret
              exact ⟨ret_bool (token_no hlt h1).symm, hG3⟩
    · by_cases h0 : 0 < l.length
      · have hd : decide (0 < (l.length : Int)) = true := by simp; omega
        have hd' : decide (0 < l.length) = true := by simp; omega
        go_wp2_with fail
        go_ret
        exact ⟨by rw [token_yes h0 hlt HE.out]; simp, hG⟩
      · have hn : l = [] := List.eq_nil_of_length_eq_zero (by omega)
        subst hn
        go_wp2_with fail
        go_ret
        exact ⟨rfl, hG⟩

/-- the bytes of a text that is being made small: the first k are -/
def LowRel (wr : World) (g : Nat) (l : List UInt8) (k : Nat) : Prop :=
  (∀ (j : Nat) (h : j < l.length), wr.cell? ⟨g, j, none⟩ = some (.int .u8 ((if j < k then lowN l[j] else l[j]).toNat : Int))) ∧ ∀ j, j < l.length → wr.frozen? ⟨g, j, none⟩ = false
theorem LowRel.start (w : World) (t : TypeId) (l : List UInt8) (cap : Nat) (n : Nat) (hn : l.length ≤ n) : LowRel (w.alloc (.cells (bytesRow ⟨l.toArray⟩ cap) t (n, n + 1))) w.heap.size l 0 := by
  refine ⟨fun j h => ?_, fun j h => ?_⟩
  · rw [World.cell?_alloc_mark]
    simp [bytesRow, Array.getElem?_append, h]
  · exact (Bk.new w t _ (n, n + 1)).free j (.inl (by simp only; omega))
theorem LowRel.step {wr : World} {g : Nat} {l : List UInt8} {k : Nat} (h : LowRel wr g l k) (hk : k < l.length) : LowRel (wr.setCell ⟨g, k, none⟩ (.int .u8 ((lowN l[k]).toNat : Int))) g l (k + 1) := by
  refine ⟨fun j hj => ?_, fun j hj => by rw [World.frozen?_setCell]; exact h.2 j hj⟩
  by_cases e : j = k
  · subst e
    rw [World.cell?_setCell_same _ _ _ (h.1 j hj), if_pos (by omega)]
  · rw [World.cell?_setCell_other _ _ _ _ (h := by intro hh; apply e; injection hh with _ h2; exact h2.symm), h.1 j hj]
    by_cases e2 : j < k
    · rw [if_pos e2, if_pos (by omega)]
    · rw [if_neg e2, if_neg (by omega)]
theorem LowRel.same {wr : World} {g : Nat} {l : List UInt8} {k : Nat} (h : LowRel wr g l k) (hk : k < l.length) (hs : (l[k].toNat : Int) = ((lowN l[k]).toNat : Int)) : LowRel wr g l (k + 1) := by
  refine ⟨fun j hj => ?_, h.2⟩
  rw [h.1 j hj]
  by_cases e : j = k
  · subst e
    rw [if_neg (by omega), if_pos (by omega), hs]
  · by_cases e2 : j < k
    · rw [if_pos e2, if_pos (by omega)]
    · rw [if_neg e2, if_neg (by omega)]
end Go.Proofs.YtnmfmcmokdoieaaDoor
