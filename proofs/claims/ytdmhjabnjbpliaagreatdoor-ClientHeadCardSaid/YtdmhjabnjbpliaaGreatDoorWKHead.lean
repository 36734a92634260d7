/- Layer 16's law on heads alone: the walk. Conditions: the library's own variables hold what their types allow; lengths that memory holds. -/
import Derived.Test.YtdmhjabnjbpliaaGreatDoorClient16
import Derived.Test.YtdmhjabnjbpliaaGreatDoorClient20
set_option linter.unusedVariables false
set_option linter.unusedSimpArgs false
namespace Go.Proofs.YtdmhjabnjbpliaaGreatDoor.lkhead
open Go.RowKit
def headQ : ReqT := (true, [47, 97], [], ⟨[], [], false, false, -1, -1, ([], false)⟩)
theorem headQ_ok : reqC headQ = true := by decide
theorem newHead_any (W0 x : World) (h : Gr W0 x) : Calls Tryz.prog 12 #[.agg #[.bool true, str [47, 97], .slice none 0 0, .slice none 0 0, .slice none 0 0, .bool false, .bool false, .int .i64 (-1), .int .i64 (-1), str [], .bool false]] x (fun e w' => Gr x w' ∧ ∃ g, e = .returned (.tuple #[.pointer (some ⟨g, 0, none⟩), .int .i64 0]) ∧ ClR W0 w' g [g] headB false false (.head []) ∧ x.heap.size ≤ g) := by
  refine (kNew_any W0 x h headQ _ _ _ ⟨Specs.nil _, Tags.nil _, Tags.nil _⟩ ⟨by decide, by decide, (fun x hx => by cases hx), (fun x hx => by cases hx)⟩ (by decide) (by decide)).mono ?_
  intro e w' hn
  unfold NewEnd at hn
  rw [headQ_ok] at hn
  exact hn
theorem put_few {l : List Fld} (h : (put l).2 = 0) : l.length ≤ 100 := by
  unfold put at h
  split at h
  · split at h
    · cases h
    · omega
  · cases h
set_option maxHeartbeats 16000000 in
set_option maxRecDepth 100000 in
theorem walk (m o : List UInt8) (st : Int) (A : Option Addr) (c : Nat) (fs : List Fld) (u : Value) (l : List UInt8) (w : World) (hv : Vars w) (hf : Flds w (.slice A fs.length c) fs) (hs : Short2 fs) (hm : m.length ≤ 140737488355328) (ho : o.length ≤ 140737488355328) (hn : fs.length ≤ 140737488355328) (hy : Byts w u l) :
    Calls Tryz.prog 8 #[.agg #[str m, str o, .int .i64 st, .slice A fs.length c], u] w fun e w' => e = .returned (.bool true) ∧ Gr w w' := by
  obtain ⟨Au, cu, rfl, hcu, hmu, -⟩ := id hy.open
  have HAW := Lib.hid (fun (x : World) (g : Gr w x) => awake16_any x (hv.gr g))
  have HPT := Lib.hid (fun (x : World) (g : Gr w x) => show Calls Tryz.prog 27 #[.agg #[str m, str o, .int .i64 st, .slice A fs.length c]] x _ from refPut12N (m, o, st, fs) A c x (hf.gr g) hs hm ho hn)
  have HY := Lib.hid hy
  have HV := Lib.hid hv
  have HLW := Lib.hid (fun (a : (putH (m, o, st, fs)).2 = 0) (b : st ≠ 0) (d : st ≠ 206) => head_law (T := (m, o, st, fs)) a b d)
  have HFW := Lib.hid (show (putH (m, o, st, fs)).2 = 0 → fs.length ≤ 100 from fun h => (putH_ok h).2.2.2.1)
  generalize putH (m, o, st, fs) = P at *
  obtain ⟨B, E⟩ := P
  simp only at HPT HLW HFW
  have hb0 := Bk.new w 52 #[str m, str o, .int .i64 st, .slice A fs.length c] (0, 0)
  have hG0 := Gr.al (Gr.refl w) (Obj.cells #[str m, str o, .int .i64 st, .slice A fs.length c] 52)
  clear hf hs hy hv
  go_enter Tryz.func8, Tryz.ntmps8
  go_upto_region 1 with fail
  generalize w.alloc (Obj.cells #[str m, str o, .int .i64 st, .slice A fs.length c] 52) = w0 at *
  generalize w.heap.size = g at *
  have r0 : ∀ x, Gr w0 x → x.cell? ⟨g, 0, none⟩ = some (str m) := fun x h => (hb0.gr h).cell 0
  have r1 : ∀ x, Gr w0 x → x.cell? ⟨g, 1, none⟩ = some (str o) := fun x h => (hb0.gr h).cell 1
  have r2 : ∀ x, Gr w0 x → x.cell? ⟨g, 2, none⟩ = some (.int .i64 st) := fun x h => (hb0.gr h).cell 2
  have r3 : ∀ x, Gr w0 x → x.cell? ⟨g, 3, none⟩ = some (.slice A fs.length c) := fun x h => (hb0.gr h).cell 3
  have h00 : Gr w0 w0 := Gr.refl w0
  have HG0 := Lib.hid hG0
  clear hb0 hG0
  go_upto_region 2 with (go_at_call 27; refine (HPT.out _ HG0.out).mono ?_; rintro e w1 ⟨rfl, h01⟩)
  have HG1 := Lib.hid (Gr.tr HG0.out h01)
  by_cases kE : ¬ E = 0
  · have d0 := (show ((E : Int) != 0) = true by simp; omega)
    go_wp2_with (go_at_call 11; refine (HAW.out _ HG1.out).mono ?_; rintro e w2 ⟨rfl, hg2⟩)
    go_ret
    exact ⟨rfl, Gr.tr HG1.out hg2⟩
  have d0 := (show ((E : Int) != 0) = false by simp; omega)
  by_cases kS : st = 0
  · have d1 := (show (st == 0) = true by simp [kS])
    go_wp2_with (go_at_call 11; refine (HAW.out _ HG1.out).mono ?_; rintro e w2 ⟨rfl, hg2⟩)
    go_ret
    exact ⟨rfl, Gr.tr HG1.out hg2⟩
  have d1 := (show (st == 0) = false by simp [kS])
  by_cases k6 : st = 206
  · have d2 := (show (st == 206) = true by simp [k6])
    go_wp2_with (go_at_call 11; refine (HAW.out _ HG1.out).mono ?_; rintro e w2 ⟨rfl, hg2⟩)
    go_ret
    exact ⟨rfl, Gr.tr HG1.out hg2⟩
  have d2 := (show (st == 206) = false by simp [k6])
  by_cases kB : 300 < B.length
  · have d3 := (show decide (300 < (B.length : Int)) = true from decide_eq_true (by omega))
    go_wp2_with (go_at_call 11; refine (HAW.out _ HG1.out).mono ?_; rintro e w2 ⟨rfl, hg2⟩)
    go_ret
    exact ⟨rfl, Gr.tr HG1.out hg2⟩
  have d3 := (show decide (300 < (B.length : Int)) = false from decide_eq_false (by omega))
  by_cases kL : 20 < l.length
  · have d4 := (show decide (20 < (l.length : Int)) = true from decide_eq_true (by omega))
    go_wp2_with (go_at_call 11; refine (HAW.out _ HG1.out).mono ?_; rintro e w2 ⟨rfl, hg2⟩)
    go_ret
    exact ⟨rfl, Gr.tr HG1.out hg2⟩
  have d4 := (show decide (20 < (l.length : Int)) = false from decide_eq_false (by omega))
  obtain ⟨t, -, hnow⟩ := HLW.out (by simpa using kE) kS k6
  have HNOW := Lib.hid hnow
  have HFN := Lib.hid (HFW.out (by simpa using kE))
  have hB3 : B.length ≤ 300 := by omega
  have hl2 : l.length ≤ 20 := by omega
  clear hnow kE kB kL HLW HFW HPT r0 r1 r3
  go_upto_region 5 with (go_at_call 24; refine (plain16_any _).mono ?_; rintro e w2 ⟨rfl, hg2⟩; unfold reqV plainQ; simp only)
  go_upto_region 6 with fail
  refine at_world (P := Code.wp _ _ _ _) (w0 := w2.alloc (Obj.cells #[.bool true, str [47, 97], .slice none 0 0, .slice none 0 0, .slice none 0 0, .bool false, .bool false, .int .i64 (-1), .int .i64 (-1), str [], .bool false] 29)) ?_
  intro w3 hw3
  have hb3 : Bk w3 w2.heap.size 29 #[.bool true, str [47, 97], .slice none 0 0, .slice none 0 0, .slice none 0 0, .bool false, .bool false, .int .i64 (-1), .int .i64 (-1), str [], .bool false] (0, 0) := by rw [hw3]; exact Bk.new w2 _ _ _
  have hg3 : Gr w2 w3 := by rw [hw3]; exact Gr.al (Gr.refl w2) _
  clear hw3
  generalize w2.heap.size = gq at *
  have h03 := Gr.tr (Gr.tr h01 hg2) hg3
  have HG3 := Lib.hid (Gr.tr HG0.out h03)
  have q0 : w3.cell? ⟨gq, 0, none⟩ = some (.bool true) := hb3.cell 0
  have q1 : w3.cell? ⟨gq, 1, none⟩ = some (str [47, 97]) := hb3.cell 1
  have q2 : w3.cell? ⟨gq, 2, none⟩ = some (.slice none 0 0) := hb3.cell 2
  have q3 : w3.cell? ⟨gq, 3, none⟩ = some (.slice none 0 0) := hb3.cell 3
  have q4 : w3.cell? ⟨gq, 4, none⟩ = some (.slice none 0 0) := hb3.cell 4
  have q5 : w3.cell? ⟨gq, 5, none⟩ = some (.bool false) := hb3.cell 5
  have q6 : w3.cell? ⟨gq, 6, none⟩ = some (.bool false) := hb3.cell 6
  have q7 : w3.cell? ⟨gq, 7, none⟩ = some (.int .i64 (-1)) := hb3.cell 7
  have q8 : w3.cell? ⟨gq, 8, none⟩ = some (.int .i64 (-1)) := hb3.cell 8
  have q9 : w3.cell? ⟨gq, 9, none⟩ = some (str []) := hb3.cell 9
  have q10 : w3.cell? ⟨gq, 10, none⟩ = some (.bool false) := hb3.cell 10
  clear hb3 hg2 hg3 h01
  go_upto_region 7 with (go_at_call 12; refine (newHead_any w _ HG3.out).mono ?_; rintro e w4 ⟨hg4, gr, rfl, hR4, hgl⟩)
  clear q0 q1 q2 q3 q4 q5 q6 q7 q8 q9 q10
  have h04 := Gr.tr h03 hg4
  obtain ⟨A5, c5, w5, hts, hM5, hg5⟩ := toBytsM_run w4 B (by omega)
  have HTK := Lib.hid (take_own hR4 (Gr.tr HG0.out h04) HV.out hM5 hg5 (by simp [ClS.sz]; omega))
  rw [show B.foldl (clByte headB) (.head []) = _ from HNOW.out] at HTK
  have HG5 := Lib.hid (Gr.tr h04 hg5)
  have HLO := Lib.hid (show ∀ k ∈ [gr], w0.heap.size ≤ k from fun k hk => by have : k = gr := by simpa using hk
                                                                             have := h03.size; omega)
  clear hR4 hM5 hg4 hgl h03 h04
  go_upto_region 9 with (go_at_call 13; refine HTK.out.mono ?_; rintro e w6 ⟨he6, S6, hR6, hP6⟩; have he6 : e = .returned (.int .i64 0) := he6; subst he6; have h06 := hP6.old HG5.out HLO.out; have HR6 := Lib.hid hR6; clear hR6 hP6)
  have HH := Lib.hid (head_any HR6.out (fun H hh => by
    have hh : some _ = some H := hh
    injection hh with hh
    subst hh
    have := HFN.out
    show fs.length ≤ 1000000
    omega))
  clear hts hg5 HTK
  go_upto_region 10 with (go_at_call 28; refine HH.out.mono ?_; rintro e w7 ⟨hg7, A7, c7, he7, -⟩; have he7 : e = .returned (.tuple #[.agg #[.int .i64 st, .slice A7 fs.length c7, .slice none 0 0, .int .i64 0], .bool true]) := he7; subst he7)
  have hb8 := Bk.new w7 68 #[.int .i64 st, .slice A7 fs.length c7, .slice none 0 0, .int .i64 0] (0, 0)
  have hg8 := Gr.al (Gr.refl w7) (Obj.cells #[.int .i64 st, .slice A7 fs.length c7, .slice none 0 0, .int .i64 0] 68)
  generalize w7.alloc (Obj.cells #[.int .i64 st, .slice A7 fs.length c7, .slice none 0 0, .int .i64 0] 68) = w8 at *
  generalize w7.heap.size = ga at *
  have y0 : w8.cell? ⟨ga, 0, none⟩ = some (.int .i64 st) := hb8.cell 0
  have y3 : w8.cell? ⟨ga, 3, none⟩ = some (.int .i64 0) := hb8.cell 3
  have h08 := Gr.tr h06 (Gr.tr hg7 hg8)
  have HG8 := Lib.hid (Gr.tr HG0.out h08)
  have HR8 := Lib.hid (HR6.out.gr (Gr.tr hg7 hg8))
  clear hb8 hg7 hg8 h06 HR6 HH
  by_cases hlt : 0 < l.length
  · have hl0 : l ≠ [] := List.length_pos_iff.1 hlt
    have HT2 := Lib.hid (take_arg HR8.out HG8.out HV.out (Gr.refl w) HY.out (by simp [ClS.sz]; omega))
    rw [fold_done headB (show frDone (FrT.new 4 0) = true from rfl) hl0] at HT2
    go_wp2_with (first
      | (go_at_call 13; refine HT2.out.mono ?_; rintro e w9 ⟨he9, S9, hR9, hP9⟩; have he9 : e = .returned (.int .i64 2) := he9; subst he9; have HG9 := Lib.hid (hP9.old HG8.out HR8.out.lo); have HEN := Lib.hid (end_any w w9 gr S9 headB _ hR9 HG9.out HV.out (by show (0 : Nat) ≤ 60000; omega)); have HLO9 := Lib.hid hR9.lo; clear hR9 hP9)
      | (go_at_call 14; refine HEN.out.mono ?_; rintro e wx ⟨hex, hRx, hPx⟩; have hex : e = .returned (.int .i64 2) := hex; subst hex; have HWH := Lib.hid (show Calls Tryz.prog 18 #[.pointer (some ⟨gr, 0, none⟩)] wx (fun e w' => e = .returned (.bool false) ∧ Gr wx w') from whole_any hRx); have HGx := Lib.hid (hPx.old HG9.out HLO9.out); clear hRx hPx)
      | (go_at_call 18; refine HWH.out.mono ?_; rintro e wy ⟨rfl, hgy⟩; have HGy := Lib.hid (Gr.tr HGx.out hgy))
      | (go_at_call 11; refine (HAW.out _ HGy.out).mono ?_; rintro e wz ⟨rfl, hgz⟩))
    go_ret
    exact ⟨rfl, Gr.tr HGy.out hgz⟩
  · have HBC := Lib.hid (show Calls Tryz.prog 15 #[.pointer (some ⟨gr, 0, none⟩)] w8 (BytesC w8 []) from by
      have h := bytes_any HR8.out (HV.out.gr HG8.out) (by show (0 : Nat) ≤ 60000; omega)
      rw [show (ClS.body (⟨st, fs, 4, 0, t, 0, 0, []⟩ : ClH) (FrT.new 4 0) []).came = [] from clBytes_nil _] at h
      exact h)
    go_upto_region 15 with (go_at_call 15; refine HBC.out.mono ?_; rintro e w9 ⟨hg9, v1, v2, rfl, hs1, -⟩)
    obtain ⟨A1, c1, ev1, -, -, -⟩ := Spans.open hs1
    have ev1 : v1 = .slice A1 0 c1 := ev1
    subst ev1
    have HG9 := Lib.hid (Gr.tr HG8.out hg9)
    have HEN := Lib.hid (end_any w w9 gr S6 headB _ (HR8.out.gr hg9) HG9.out HV.out (by show (0 : Nat) ≤ 60000; omega))
    have HLO9 := Lib.hid HR8.out.lo
    clear hs1 HBC HR8 hg9 y0 y3
    go_wp2_with (first
      | (go_at_call 14; refine HEN.out.mono ?_; rintro e wx ⟨hex, hRx, hPx⟩; have hex : e = .returned (.int .i64 0) := hex; subst hex; have HWH := Lib.hid (show Calls Tryz.prog 18 #[.pointer (some ⟨gr, 0, none⟩)] wx (fun e w' => e = .returned (.bool true) ∧ Gr wx w') from whole_any hRx); have HGx := Lib.hid (hPx.old HG9.out HLO9.out); clear hRx hPx)
      | (go_at_call 18; refine HWH.out.mono ?_; rintro e wy ⟨rfl, hgy⟩; have HGy := Lib.hid (Gr.tr HGx.out hgy))
      | (go_at_call 11; refine (HAW.out _ HGy.out).mono ?_; rintro e wz ⟨rfl, hgz⟩))
    go_ret
    exact ⟨rfl, Gr.tr HGy.out hgz⟩
end Go.Proofs.YtdmhjabnjbpliaaGreatDoor.lkhead
