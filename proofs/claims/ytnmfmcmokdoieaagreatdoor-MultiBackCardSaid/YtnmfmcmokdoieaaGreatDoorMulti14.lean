/- Layer 11's law: few spans, and the object that they are of. Contracts. -/
import Derived.Test.YtnmfmcmokdoieaaGreatDoorMulti12
import Derived.Deep.OwnRows
set_option linter.unusedVariables false
set_option linter.unusedSimpArgs false
namespace Go.Proofs.YtnmfmcmokdoieaaGreatDoor
open Go.RowKit
def smallS (s : Int × Int) : Bool := spanB s.1 s.2 && decide (s.2 ≤ 200)
def smallB11 (l : List (Int × Int)) : Bool := l.all smallS && decide (l.length ≤ 20)
set_option maxHeartbeats 4000000 in
theorem small11_any (u : Value) (l : List (Int × Int)) (w : World) (hu : Spans w u l) : Calls Tryz.prog 5 #[u] w fun e w' => e = .returned (.bool (smallB11 l)) ∧ Gr w w' := by
  obtain ⟨A, c, rfl, hc, hm, ho⟩ := hu.open
  have HO := Lib.hid ho; clear ho hu
  go_enter Tryz.func5, Tryz.ntmps5
  go_wp2_with fail
  go_loopw [2, 4, 7] (fun x2 x4 i wr => ∃ k : Nat, k ≤ l.length ∧ i = .int .i64 k ∧ Gr w wr ∧ (l.take k).all smallS = true) (fun _ _ i _ => l.length - (intOf i).toNat)
  case atStart => exact ⟨0, Nat.zero_le _, rfl, Gr.refl _, rfl⟩
  case round =>
    obtain ⟨k, hk, rfl, hG, hE⟩ := hrel
    have HE := Lib.hid hE; clear hE
    by_cases hlt : k < l.length
    · obtain ⟨b1, o1, rfl, hb1, hc1, hc1'⟩ := HO.out k hlt
      have hc2 := Gr.cell hG hc1
      have hc2' := Gr.cell hG hc1'
      have HSP := Lib.hid (fun (w : World) => refSpanRight_any l[k].1 l[k].2 w)
      go_upto_region 4 with fail
      obtain ⟨hGb, cf0, cf1⟩ := box2 wr (.int .i64 l[k].1) (.int .i64 l[k].2) 31
      have hG := Gr.tr hG hGb
      generalize wr.alloc (Obj.cells #[.int .i64 l[k].1, .int .i64 l[k].2] 31) = wb at *
      clear hGb hc2 hc2'
      cases hs : spanB l[k].1 l[k].2 with
      | false =>
        rw [hs] at HSP
        have HN := Lib.hid (show smallB11 l = false from by unfold smallB11; rw [all_no smallS l k hlt (by unfold smallS; rw [hs]; rfl)]; rfl)
        go_wp2_with (go_at_call 13; refine (HSP.out _).mono ?_; rintro e w1 ⟨rfl, hG1⟩)
        go_ret
        exact ⟨ret_bool HN.out.symm, Gr.tr hG hG1⟩
      | true =>
        rw [hs] at HSP
        by_cases h2 : l[k].2 ≤ 200
        · have d2 : decide (200 < l[k].2) = false := decide_eq_false (by omega)
          have HN := Lib.hid (all_take_succ smallS l k hlt HE.out (by unfold smallS; rw [hs, decide_eq_true h2]; rfl))
          go_wp2_with (go_at_call 13; refine (HSP.out _).mono ?_; rintro e w1 ⟨rfl, hG1⟩; have cf1 := hG1.cell cf1)
          exact ⟨⟨k + 1, by omega, by go_num, Gr.tr hG hG1, HN.out⟩, by simp [intOf]; omega⟩
        · have d2 : decide (200 < l[k].2) = true := decide_eq_true (by omega)
          have HN := Lib.hid (show smallB11 l = false from by unfold smallB11; rw [all_no smallS l k hlt (by unfold smallS; rw [decide_eq_false h2]; simp)]; rfl)
          go_wp2_with (go_at_call 13; refine (HSP.out _).mono ?_; rintro e w1 ⟨rfl, hG1⟩; have cf1 := hG1.cell cf1)
          go_ret
          exact ⟨ret_bool HN.out.symm, Gr.tr hG hG1⟩
    · have HN := Lib.hid (show smallB11 l = decide (l.length ≤ 20) from by unfold smallB11; rw [all_end smallS l k hlt HE.out]; rfl)
      go_wp2_with fail
      go_ret
      refine ⟨?_, hG⟩
      rw [HN.out]
      show Ending.returned (.bool (decide ((l.length : Int) ≤ 20))) = _
      congr 2
      rw [decide_eq_decide]; omega
set_option maxHeartbeats 8000000 in
set_option maxRecDepth 100000 in
theorem object11_any (n : Nat) (w : World) (hn : n ≤ 255) : Calls Tryz.prog 8 #[.int .u8 n] w fun e w' => ∃ v o, e = .returned v ∧ o.length = 200 ∧ Byts w' v o ∧ Gr w w' := by
  have hmk := fun (w : World) => run_make_row' (P := Tryz.prog) 32 5 (.int .u8 0) 1 Tryz.underlying32 elemByte.hi rfl .i64 .i64 200 (by decide) (by decide) w
  have hcs : madeCells #[Value.int .u8 0] 200 = ((List.replicate 200 (0 : UInt8)).map byt).toArray := by kernel_rfl
  have hbk := Bk.new w 5 ((List.replicate 200 (0 : UInt8)).map byt).toArray (0, 0)
  have hG1 := Gr.al (Gr.refl w) (Obj.cells ((List.replicate 200 (0 : UInt8)).map byt).toArray 5)
  rw [hcs] at hmk
  have hmk2 : ∀ (w : World), (Instr.makeSlice 32 (.int .i64 200) (.int .i64 200)).run Tryz.prog w = .ok (.slice (some ⟨w.heap.size, 0, none⟩) 200 200) (w.alloc (.cells ((List.replicate 200 (0 : UInt8)).map byt).toArray 5)) := hmk
  have HZ := Lib.hid (show (List.replicate 200 (0 : UInt8)).length = 200 from rfl)
  generalize List.replicate 200 (0 : UInt8) = o0 at *
  clear hmk hcs
  go_enter Tryz.func8, Tryz.ntmps8
  go_upto_region 2 with fail
  generalize w.alloc (.cells (o0.map byt).toArray 5) = w1 at *
  generalize hg : w.heap.size = g at *
  have HI0 := Lib.hid (show ∃ o : List UInt8, o.length = 200 ∧ Bk w1 g 5 (o.map byt).toArray (0, 0) from ⟨o0, HZ.out, hbk⟩)
  clear hbk HZ hmk2
  go_wp2_with fail
  go_loopw [4, 8] (fun x4 i wr => ∃ k : Nat, k ≤ 200 ∧ i = .int .i64 k ∧ Gr w wr ∧ ∃ o : List UInt8, o.length = 200 ∧ Bk wr g 5 (o.map byt).toArray (0, 0)) (fun _ i _ => 200 - (intOf i).toNat)
  case atStart => exact ⟨0, Nat.zero_le _, rfl, hG1, HI0.out⟩
  case round =>
    obtain ⟨k, hk, rfl, hG, o, hol, hb⟩ := hrel
    by_cases hlt : k < 200
    · have hkn : k * n ≤ 51000 := Nat.le_trans (Nat.mul_le_mul (Nat.le_of_lt hlt) hn) (by decide)
      have hc : wr.cell? ⟨g, k, none⟩ = some (byt o[k]) := by rw [hb.cell k]; simp [hol, hlt]
      have hf := hb.free k (.inr (Nat.zero_le _))
      have HB := Lib.hid hb
      clear hb
      obtain ⟨q, hq⟩ : ∃ q : Nat, q = k * n := ⟨_, rfl⟩
      have hq2 : (k : Int) * (n : Int) = (q : Int) := by rw [hq]; exact (Int.natCast_mul k n).symm
      rw [← hq] at hkn
      clear hq
      go_upto_region 5 with fail
      go_wp2_with fail
      refine ⟨⟨k + 1, by omega, by go_num, Gr.st hG (Nat.le_of_eq hg) _, o.set k ([13, 10, 45, 97, 120][(q + k / 7) % 5]'(Nat.mod_lt _ (by decide))), by rw [List.length_set]; exact hol, ?_⟩, by simp [intOf]; omega⟩
      rw [List.map_set, ← List.setIfInBounds_toArray]
      exact HB.out.set k _
    · go_wp2_with fail
      go_ret
      exact ⟨.slice (some ⟨g, 0, none⟩) 200 200, o, rfl, hol, ⟨some ⟨g, 0, none⟩, 200, by rw [hol], by omega, by omega, .inr ⟨g, 0, rfl, hb.lt, fun j u hu => by rw [Nat.zero_add, hb.cell j]; simpa using hu⟩⟩, hG⟩
end Go.Proofs.YtnmfmcmokdoieaaGreatDoor
