/- Layer 11: how many bytes parts have: multi.Size. A contract; conditions: spans within an object, not too many bytes. -/
import Derived.Test.YtnmfmcmokdoieaaGreatDoorMulti11
set_option linter.unusedVariables false
set_option linter.unusedSimpArgs false
namespace Go.Proofs.YtnmfmcmokdoieaaGreatDoor
open Go.RowKit
theorem spanOpen_no (f t : Int) (w : World) (h : t ≠ 4611686018427387904) : Calls Tryz.prog 36 #[.agg #[.int .i64 f, .int .i64 t]] w fun e w' => e = .returned (.bool false) ∧ Gr w w' := by
  have k1 : (t == 4611686018427387904) = false := by simpa using h
  have hb := Bk.new w 31 #[.int .i64 f, .int .i64 t] (0, 0)
  have hG1 := Gr.al (Gr.refl w) (Obj.cells #[.int .i64 f, .int .i64 t] 31)
  clear h
  go_enter Tryz.func36, Tryz.ntmps36
  go_upto_region 1 with fail
  generalize w.alloc (Obj.cells #[.int .i64 f, .int .i64 t] 31) = w1 at *
  generalize w.heap.size = g at *
  obtain ⟨q0, q1⟩ := hb.cells2
  clear hb
  go_wp2_with fail
  go_ret
  exact ⟨rfl, hG1⟩
theorem spanLen_in (f t : Int) (w : World) (h0 : 0 ≤ f) (h1 : f ≤ t) (h2 : t ≤ 1000000000000) : Calls Tryz.prog 22 #[.agg #[.int .i64 f, .int .i64 t]] w fun e w' => e = .returned (.int .i64 (t - f)) ∧ Gr w w' := by
  have hs : spanB f t = true := by unfold spanB; simp; omega
  have HS := Lib.hid (fun (w : World) => spanRight_any f t w)
  have HO := Lib.hid (fun (w : World) => spanOpen_no f t w (by omega))
  rw [hs] at HS
  clear hs
  have hb := Bk.new w 31 #[.int .i64 f, .int .i64 t] (0, 0)
  have hG1 := Gr.al (Gr.refl w) (Obj.cells #[.int .i64 f, .int .i64 t] 31)
  go_enter Tryz.func22, Tryz.ntmps22
  go_upto_region 1 with fail
  generalize w.alloc (Obj.cells #[.int .i64 f, .int .i64 t] 31) = w1 at *
  generalize w.heap.size = g at *
  obtain ⟨q0, q1⟩ := hb.cells2
  clear hb
  go_wp2_with (first
    | (go_at_call 21; refine (HS.out _).mono ?_; rintro e w2 ⟨rfl, hG2⟩; have q0 := hG2.cell q0; have q1 := hG2.cell q1)
    | (go_at_call 36; refine (HO.out _).mono ?_; rintro e w3 ⟨rfl, hG3⟩; have q0 := hG3.cell q0; have q1 := hG3.cell q1))
  go_ret
  exact ⟨rfl, Gr.tr (Gr.tr hG1 hG2) hG3⟩
set_option maxHeartbeats 8000000 in
set_option maxRecDepth 100000 in
theorem size_any (u : Value) (ps : List PartT) (obj : List UInt8) (w : World) (hu : Parts w u ps) (hin : InObj obj ps) (hlen : (fillL obj ps).length ≤ 1000000000) (hobj : obj.length ≤ 1000000000) :
    Calls Tryz.prog 11 #[u] w fun e w' => e = .returned (.int .i64 ((fillL obj ps).length : Nat)) ∧ Gr w w' := by
  obtain ⟨A, c, rfl, hc, hm, hA⟩ := hu.open
  have HA := Lib.hid hA; have HIN := Lib.hid hin
  clear hA hu hin
  go_enter Tryz.func11, Tryz.ntmps11
  go_wp2_with fail
  go_loopw [3, 5, 8] (fun n x5 i wr => ∃ k : Nat, k ≤ ps.length ∧ i = .int .i64 k ∧ Gr w wr ∧ n = .int .i64 ((fillL obj (ps.take k)).length : Nat)) (fun _ _ i _ => ps.length - (intOf i).toNat)
  case atStart => exact ⟨0, Nat.zero_le _, rfl, Gr.refl _, rfl⟩
  case round =>
    obtain ⟨k, hk, rfl, hG, rfl⟩ := hrel
    have hft := fillL_take obj ps k
    by_cases hlt : k < ps.length
    · obtain ⟨b1, o1, rfl, hb1, p0, p1, p2⟩ := HA.out k hlt
      have p0 := Gr.cell hG p0; have p1 := Gr.cell hG p1; have p2 := Gr.cell hG p2
      have hft2 := fillL_take obj ps (k + 1)
      have hsn : fillL obj (ps.take (k + 1)) = fillL obj (ps.take k) ++ (if ps[k].1 = [] then objL obj ps[k].2 else ps[k].1) := by
        rw [List.take_succ_eq_append_getElem hlt, fillL_snoc]
      have HSN := Lib.hid hsn
      rw [hsn, List.length_append] at hft2
      clear hsn
      go_upto_region 6 with fail
      have hbp := Bk.new wr 46 #[str ps[k].1, .int .i64 ps[k].2.1, .int .i64 ps[k].2.2] (0, 0)
      have hGb := Gr.al (Gr.refl wr) (Obj.cells #[str ps[k].1, .int .i64 ps[k].2.1, .int .i64 ps[k].2.2] 46)
      have hG := Gr.tr hG hGb
      generalize wr.alloc (Obj.cells #[str ps[k].1, .int .i64 ps[k].2.1, .int .i64 ps[k].2.2] 46) = wb at *
      generalize wr.heap.size = gb at *
      have y0 : wb.cell? ⟨gb, 0, none⟩ = some (str ps[k].1) := hbp.cell 0
      have y1 : wb.cell? ⟨gb, 1, none⟩ = some (.int .i64 ps[k].2.1) := hbp.cell 1
      have y2 : wb.cell? ⟨gb, 2, none⟩ = some (.int .i64 ps[k].2.2) := hbp.cell 2
      clear hbp hGb p0 p1 p2
      by_cases ht : ps[k].1 = []
      · have kt : ps[k].1.isEmpty = true := by rw [ht]; rfl
        obtain ⟨i0, i1, i2⟩ := HIN.out _ (List.getElem_mem hlt) ht
        rw [if_pos ht] at HSN hft2
        have hol : (objL obj ps[k].2).length = (ps[k].2.2 - ps[k].2.1).toNat := by unfold objL; rw [List.length_take, List.length_drop]; omega
        rw [hol] at hft2
        have HOL := Lib.hid hol
        have hs : spanB ps[k].2.1 ps[k].2.2 = true := by unfold spanB; simp; omega
        have k4 : (ps[k].2.2 == 4611686018427387904) = false := by simp; omega
        have HS := Lib.hid (fun (w : World) => spanRight_any ps[k].2.1 ps[k].2.2 w)
        rw [hs] at HS
        have HL := Lib.hid (fun (w : World) => spanLen_in ps[k].2.1 ps[k].2.2 w i0 i1 (by omega))
        clear ht hol hs
        go_wp2_with (first
          | (go_at_call 21; refine (HS.out _).mono ?_; rintro e w2 ⟨rfl, hG2⟩; have y1 := hG2.cell y1; have y2 := hG2.cell y2)
          | (go_at_call 22; refine (HL.out _).mono ?_; rintro e w3 ⟨rfl, hG3⟩))
        refine ⟨⟨k + 1, by omega, by go_num, Gr.tr (Gr.tr hG hG2) hG3, ?_⟩, by simp [intOf]; omega⟩
        rw [HSN.out, List.length_append, HOL.out]
        congr 1
        omega
      · have kt : ps[k].1.isEmpty = false := by simpa using ht
        rw [if_neg ht] at HSN hft2
        clear ht
        go_wp2_with fail
        refine ⟨⟨k + 1, by omega, by go_num, hG, ?_⟩, by simp [intOf]; omega⟩
        rw [HSN.out, List.length_append]
        congr 1
    · have he : ps.take k = ps := List.take_of_length_le (by omega)
      have HE := Lib.hid he
      clear he
      go_wp2_with fail
      go_ret
      rw [HE.out]
      exact ⟨rfl, hG⟩
end Go.Proofs.YtnmfmcmokdoieaaGreatDoor
