/- Several texts in one (their own heads say what each is). No conditions but those that each theorem names. -/
import Derived.Test.YtdmhjabnjbpliaaGreatDoorProg
import Derived.Test.YtdmhjabnjbpliaaGreatDoorJWords
import Derived.Test.YtdmhjabnjbpliaaGreatDoorShelf
import Derived.Lib.Builder
import Derived.Lib.AppendStr
import Derived.Test.YtdmhjabnjbpliaaGreatDoorJItems
import Derived.Test.YtdmhjabnjbpliaaGreatDoorJLawA
set_option linter.unusedVariables false
set_option linter.unusedSimpArgs false
/- XBuilder -/
namespace Go.Proofs.YtdmhjabnjbpliaaGreatDoor
open Go.RowKit
/-- all blocks but b and rows of bytes are as they were -/
def Oth (b : Nat) (w w' : World) : Prop := ∀ k t cs fr, k ≠ b → t ≠ 5 → Bk w k t cs fr → Bk w' k t cs fr
theorem Oth.tr {b : Nat} {w w' w'' : World} (h : Oth b w w') (k : Oth b w' w'') : Oth b w w'' := fun i t cs fr hi ht hb => k i t cs fr hi ht (h i t cs fr hi ht hb)
end Go.Proofs.YtdmhjabnjbpliaaGreatDoor
/- XField12 -/
namespace Go.Proofs.YtdmhjabnjbpliaaGreatDoor
open Go.RowKit
set_option maxHeartbeats 2000000 in
set_option maxRecDepth 100000 in
theorem refPut_any (u : Value) (xs : List Fld) (w : World) (hu : Flds w u xs) (hs : Short2 xs) (_h1 : xs.length ≤ 130) (_h2 : bulk2 xs ≤ 12000) :
    Calls Tryz.prog 49 #[u] w fun e w' => e = .returned (.tuple #[str (put xs).1, .int .i64 (put xs).2]) ∧ Gr w w' := by
  obtain ⟨A, c, rfl, hc, hx, hA⟩ := hu.open
  have HA := Lib.hid hA; have HS := Lib.hid hs; clear hA hu hs
  go_enter Tryz.func49, Tryz.ntmps49
  go_wp2_with fail
  go_loopw [2, 3, 4, 6, 9] (fun x2 x3 out x6 i wr => ∃ (k : Nat), k ≤ xs.length ∧ i = .int .i64 k ∧ Gr w wr ∧ out = str (lines (xs.take k)) ∧ (xs.take k).all right = true) (fun _ _ _ _ i _ => xs.length - (intOf i).toNat)
  case atStart => exact ⟨0, Nat.zero_le _, rfl, Gr.refl _, rfl, rfl⟩
  case round =>
    obtain ⟨k, hk, rfl, hG, rfl, hE⟩ := hrel
    have HE := Lib.hid hE; clear hE
    by_cases hlt : k < xs.length
    · obtain ⟨b1, o1, rfl, hb1, hc1, hc1'⟩ := HA.out k hlt
      obtain ⟨hB1, hB2⟩ := HS.out.at k hlt
      have hc2 := Gr.cell hG hc1
      have hc2' := Gr.cell hG hc1'
      have hls := Lib.hid (lines_succ xs k hlt)
      have hln : (lines (xs.take k)).length ≤ 20000 := by have := lines_take_len xs k (by omega); omega
      clear HA HS
      go_upto_region 5 with fail
      obtain ⟨hGb, cf0, cf1⟩ := box2 wr (str xs[k].1) (str xs[k].2) 98
      have hG := Gr.tr hG hGb
      generalize wr.alloc (Obj.cells #[str xs[k].1, str xs[k].2] 98) = wb at *
      clear hGb hc2 hc2'
      cases hr : right (xs[k].1, xs[k].2) with
      | false =>
        have hp := Lib.hid (put_bad xs k hlt hr)
        go_wp2_with (go_at_call 80; refine (refRight_any _ _ _ (by omega) (by omega)).mono ?_; rintro e w1 ⟨rfl, hG1⟩)
        go_ret2
        exact ⟨by rw [hp.out]; rfl, Gr.tr hG hG1⟩
      | true =>
        go_wp2_with (go_at_call 80; refine (refRight_any _ _ _ (by omega) (by omega)).mono ?_; rintro e w1 ⟨rfl, hG1⟩; have cf0 := Gr.cell hG1 cf0; have cf1 := Gr.cell hG1 cf1)
        exact ⟨⟨k + 1, by omega, by go_num, Gr.tr hG hG1, by rw [hls.out]; simp, all_take_succ right xs k hlt HE.out hr⟩, by simp [intOf]; omega⟩
    · have hp := put_all xs k hlt HE.out
      have htk : xs.take k = xs := List.take_of_length_le (by omega)
      rw [htk]
      have hbl := block_len xs
      have hll := lines_len xs
      by_cases hc1 : 100 < xs.length
      · rw [if_pos (.inl hc1)] at hp
        have hp := Lib.hid hp
        have hd : decide (100 < (xs.length : Int)) = true := decide_eq_true (by omega)
        have hlq : (lines xs).length ≤ 20000 := by omega
        clear hbl hll htk
        go_wp2_with fail
        go_ret2
        exact ⟨by rw [hp.out]; rfl, hG⟩
      · have hd : decide (100 < (xs.length : Int)) = false := decide_eq_false (by omega)
        by_cases hc2 : 65536 < (block xs).length
        · rw [if_pos (.inr hc2)] at hp
          have hp := Lib.hid hp
          exfalso; omega
        · rw [if_neg (by omega)] at hp
          have hp := Lib.hid hp
          have hd2 : decide (65536 < ((lines xs).length : Int) + 2) = false := decide_eq_false (by omega)
          have hlq : (lines xs).length ≤ 20000 := by omega
          clear hc2 hbl hll htk
          go_wp2_with fail
          go_ret2
          exact ⟨by rw [hp.out]; rfl, hG⟩
end Go.Proofs.YtdmhjabnjbpliaaGreatDoor
