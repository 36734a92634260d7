/- Layer 16's law: a request of the whole; the document's example, walked. Contracts; conditions: the library's variables hold what their types allow. -/
import Derived.Test.YtdmhjabnjbpliaaGreatDoorJClB
import Derived.Test.YtdmhjabnjbpliaaGreatDoorClientLaw8
set_option linter.unusedVariables false
set_option linter.unusedSimpArgs false
namespace Go.Proofs.YtdmhjabnjbpliaaGreatDoor
open Go.RowKit
def plainQ : ReqT := (false, [47, 97], [], ⟨[], [], false, false, -1, -1, ([], false)⟩)
theorem plainQ_ok : reqC plainQ = true := by decide
theorem plainQ_low : ReqLow plainQ := ⟨by decide, by decide, (fun x hx => by cases hx), (fun x hx => by cases hx)⟩
theorem plainQ_at (w : World) : ReqA w plainQ (.slice none 0 0) (.slice none 0 0) (.slice none 0 0) := ⟨Specs.nil _, Tags.nil _, Tags.nil _⟩
theorem byts_litC (w : World) (l : List UInt8) (t : TypeId) (fr : Nat × Nat) (n : Nat) (hn : l.length = n) (hm : n ≤ 1000) : Byts (w.alloc (.cells (l.map byt).toArray t fr)) (.slice (some ⟨w.heap.size, 0, none⟩) n n) l := by
  subst hn
  refine ⟨_, _, rfl, Nat.le_refl _, by omega, .inr ⟨w.heap.size, 0, rfl, (Bk.new w t (l.map byt).toArray fr).lt, fun j u hu => ?_⟩⟩
  rw [Nat.zero_add, (Bk.new w t (l.map byt).toArray fr).cell j]; simpa using hu
set_option maxHeartbeats 2000000 in
set_option maxRecDepth 100000 in
theorem plain16_any (w : World) : Calls Tryz.prog 24 #[] w fun e w' => e = .returned (reqV plainQ (.slice none 0 0) (.slice none 0 0) (.slice none 0 0)) ∧ Gr w w' := by
  have hb := Bk.new w 29 #[.bool false, str [], .slice none 0 0, .slice none 0 0, .slice none 0 0, .bool false, .bool false, .int .i64 0, .int .i64 0, str [], .bool false] (0, 0)
  have HG := Lib.hid (Gr.al (Gr.refl w) (Obj.cells #[.bool false, str [], .slice none 0 0, .slice none 0 0, .slice none 0 0, .bool false, .bool false, .int .i64 0, .int .i64 0, str [], .bool false] 29))
  go_enter Tryz.func24, Tryz.ntmps24
  go_upto_region 1 with fail
  generalize w.alloc (Obj.cells #[.bool false, str [], .slice none 0 0, .slice none 0 0, .slice none 0 0, .bool false, .bool false, .int .i64 0, .int .i64 0, str [], .bool false] 29) = w0 at *
  have HS := Lib.hid (Nat.le_refl w.heap.size)
  generalize hq : w.heap.size = gr at *
  have HQ := Lib.hid hq
  have HB := Lib.hid hb
  have z0 := hb.cell 0
  have z1 := hb.cell 1
  have z2 := hb.cell 2
  have z3 := hb.cell 3
  have z4 := hb.cell 4
  have z5 := hb.cell 5
  have z6 := hb.cell 6
  have z7 := hb.cell 7
  have z8 := hb.cell 8
  have z9 := hb.cell 9
  have z10 := hb.cell 10
  simp only [List.getElem?_toArray, List.getElem?_cons_zero, List.getElem?_cons_succ] at z0 z1 z2 z3 z4 z5 z6 z7 z8 z9 z10
  have f0 : w0.frozen? ⟨gr, 0, none⟩ = false := hb.free 0 (.inr (Nat.zero_le _))
  have f1 : w0.frozen? ⟨gr, 1, none⟩ = false := hb.free 1 (.inr (Nat.zero_le _))
  have f2 : w0.frozen? ⟨gr, 2, none⟩ = false := hb.free 2 (.inr (Nat.zero_le _))
  have f3 : w0.frozen? ⟨gr, 3, none⟩ = false := hb.free 3 (.inr (Nat.zero_le _))
  have f4 : w0.frozen? ⟨gr, 4, none⟩ = false := hb.free 4 (.inr (Nat.zero_le _))
  have f5 : w0.frozen? ⟨gr, 5, none⟩ = false := hb.free 5 (.inr (Nat.zero_le _))
  have f6 : w0.frozen? ⟨gr, 6, none⟩ = false := hb.free 6 (.inr (Nat.zero_le _))
  have f7 : w0.frozen? ⟨gr, 7, none⟩ = false := hb.free 7 (.inr (Nat.zero_le _))
  have f8 : w0.frozen? ⟨gr, 8, none⟩ = false := hb.free 8 (.inr (Nat.zero_le _))
  have f9 : w0.frozen? ⟨gr, 9, none⟩ = false := hb.free 9 (.inr (Nat.zero_le _))
  have f10 : w0.frozen? ⟨gr, 10, none⟩ = false := hb.free 10 (.inr (Nat.zero_le _))
  clear hb hq
  go_wp2_with fail
  refine at_world (P := bodyPost _ _ _ _ _) (w0 := putCs w0 gr [.bool false, str [47, 97], .slice none 0 0, .slice none 0 0, .slice none 0 0, .bool false, .bool false, .int .i64 (-1), .int .i64 (-1), str [], .bool false] 0) ?_
  intro wy hwy
  have hy : Bk wy gr 29 #[.bool false, str [47, 97], .slice none 0 0, .slice none 0 0, .slice none 0 0, .bool false, .bool false, .int .i64 (-1), .int .i64 (-1), str [], .bool false] (0, 0) := by rw [hwy]; exact putCs_bk HB.out rfl
  have hgy : Gr w wy := by rw [hwy]; exact putCs_gr (by have := HQ.out; omega) _ _ _ HG.out
  have y0 : wy.cell? ⟨gr, 0, none⟩ = some (.bool false) := hy.cell 0
  have y1 : wy.cell? ⟨gr, 1, none⟩ = some (str [47, 97]) := hy.cell 1
  have y2 : wy.cell? ⟨gr, 2, none⟩ = some (.slice none 0 0) := hy.cell 2
  have y3 : wy.cell? ⟨gr, 3, none⟩ = some (.slice none 0 0) := hy.cell 3
  have y4 : wy.cell? ⟨gr, 4, none⟩ = some (.slice none 0 0) := hy.cell 4
  have y5 : wy.cell? ⟨gr, 5, none⟩ = some (.bool false) := hy.cell 5
  have y6 : wy.cell? ⟨gr, 6, none⟩ = some (.bool false) := hy.cell 6
  have y7 : wy.cell? ⟨gr, 7, none⟩ = some (.int .i64 (-1)) := hy.cell 7
  have y8 : wy.cell? ⟨gr, 8, none⟩ = some (.int .i64 (-1)) := hy.cell 8
  have y9 : wy.cell? ⟨gr, 9, none⟩ = some (str []) := hy.cell 9
  have y10 : wy.cell? ⟨gr, 10, none⟩ = some (.bool false) := hy.cell 10
  refine bodyPost_ret (v := .agg #[.bool false, str [47, 97], .slice none 0 0, .slice none 0 0, .slice none 0 0, .bool false, .bool false, .int .i64 (-1), .int .i64 (-1), str [], .bool false]) (by simp [results, Tryz.results24, go_sem, y0, y1, y2, y3, y4, y5, y6, y7, y8, y9, y10]) rfl ?_
  exact ⟨rfl, hgy⟩
set_option maxHeartbeats 16000000 in
set_option maxRecDepth 100000 in
theorem awake16_any (w : World) (hv : Vars w) : Calls Tryz.prog 11 #[] w fun e w' => e = .returned (.bool true) ∧ Gr w w' := by
  have kc := fun (w : World) (C : Array Value) (n c : Nat) => Lib.run_convert_bytes_const (P := Tryz.prog) w 30 5 C n c Tryz.underlying30 Tryz.underlying5
  have HV := Lib.hid (fun (x : World) (h : Gr w x) => hv.gr h); clear hv
  have HNW := Lib.hid (fun (x : World) (h : Gr w x) => show Calls Tryz.prog 12 #[.agg #[.bool false, str [47, 97], .slice none 0 0, .slice none 0 0, .slice none 0 0, .bool false, .bool false, .int .i64 (-1), .int .i64 (-1), str [], .bool false]] x (fun e w' => Gr x w' ∧ ∃ g, e = .returned (.tuple #[.pointer (some ⟨g, 0, none⟩), .int .i64 0]) ∧ ClR w w' g [g] getB false false (.head []) ∧ x.heap.size ≤ g) from by
    refine (kNew_any w x h plainQ _ _ _ (plainQ_at x) plainQ_low (by decide) (by decide)).mono ?_
    intro e w' hn
    unfold NewEnd at hn
    rw [plainQ_ok] at hn
    exact hn)
  go_enter Tryz.func11, Tryz.ntmps11
  go_upto_region 2 with (first | (go_at_call 24; refine (plain16_any _).mono ?_; rintro e w1 ⟨rfl, hg1⟩; unfold reqV plainQ; simp only) | (go_at_call 12; refine (HNW.out _ hg1).mono ?_; rintro e w2 ⟨hg2, g, rfl, hR, hgl⟩))
  have hG2 := Gr.tr hg1 hg2
  go_upto_region 4 with fail
  have hG3 := Gr.al (Gr.refl w2) (Obj.cells (awkB.map byt).toArray 5 (81, 82))
  have HTK := Lib.hid (take_any w (w2.alloc (Obj.cells (awkB.map byt).toArray 5 (81, 82))) g (w2.heap.size + 1) [g] getB (.head []) awkB (.slice (some ⟨w2.heap.size, 0, none⟩) 81 81) (hR.gr hG3) (Gr.tr hG2 hG3) (HV.out w (Gr.refl w)) ⟨byts_litC w2 awkB 5 (81, 82) 81 rfl (by decide), .inr (fun b hb => by
    have hb2 : w2.heap.size = b := by simpa [Value.ownBlock] using hb
    have := hR.hi g (by simp)
    subst hb2
    exact ⟨by omega, by simp; omega⟩)⟩ (by simp) (by decide))
  rw [show awkB.foldl (clByte getB) (.head []) = _ from awk_now] at HTK
  have HG3 := Lib.hid (Gr.tr hG2 hG3)
  have HLO := Lib.hid hR.lo
  clear hR hg1 hg2 hG2 hG3 hgl HNW
  go_upto_region 5 with (go_at_call 13; refine HTK.out.mono ?_; rintro e w4 ⟨he4, S4, hR4, hP4⟩; have he4 : e = .returned (.int .i64 0) := he4; subst he4)
  have HG4 := Lib.hid (hP4.old HG3.out HLO.out)
  have HBY := Lib.hid (show Calls Tryz.prog 15 #[.pointer (some ⟨g, 0, none⟩)] w4 (BytesC w4 [((3, 5), [97, 98])]) from bytes_any hR4 (HV.out _ HG4.out) (by decide))
  have HR4 := Lib.hid hR4
  clear hR4 hP4 HTK
  go_upto_region 6 with (go_at_call 15; refine HBY.out.mono ?_; rintro e w5 ⟨hg5, v1, v2, rfl, hs1, hs2⟩)
  have hs1 : Spans w5 v1 [(3, 5)] := hs1
  have hs2 : Bods w5 v2 [[97, 98]] := hs2
  obtain ⟨A1, c1, e1, hc1, -, ho1⟩ := Spans.open hs1
  obtain ⟨A2, c2, e2, hc2, -, ho2⟩ := Bods.open hs2
  have e1 : v1 = .slice A1 1 c1 := e1
  have e2 : v2 = .slice A2 1 c2 := e2
  obtain ⟨b1, o1, eA1, -, x0, x1⟩ := ho1 0 (by decide)
  obtain ⟨b2, o2, u2, eA2, x2, hu2⟩ := ho2 0 (by decide)
  have x0 : w5.cell? ⟨b1, o1, none⟩ = some (.int .i64 3) := x0
  have x1 : w5.cell? ⟨b1, o1 + 1, none⟩ = some (.int .i64 5) := x1
  have x2 : w5.cell? ⟨b2, o2, none⟩ = some u2 := x2
  have hu2 : Byts w5 u2 [97, 98] := hu2
  have hc1 : 1 ≤ c1 := hc1
  have hc2 : 1 ≤ c2 := hc2
  obtain ⟨A3, c3, e3, -, -, -⟩ := hu2.open
  have e3 : u2 = .slice A3 2 c3 := e3
  subst eA1 eA2 e1 e2 e3
  have hts := hu2.toStr
  have HLO4 := Lib.hid HR4.out.lo
  have HEN := Lib.hid (end_any w w5 g S4 getB _ (HR4.out.gr hg5) (Gr.tr HG4.out hg5) (HV.out w (Gr.refl w)) (by decide))
  have HG5 := Lib.hid (Gr.tr HG4.out hg5)
  clear hs1 hs2 ho1 ho2 hu2 HBY hg5 HR4
  go_wp2_with (first | (go_at_call 14; refine HEN.out.mono ?_; rintro e w6 ⟨he6, hR6, hP6⟩; have he6 : e = .returned (.int .i64 13) := he6; subst he6; have HWH := Lib.hid (show Calls Tryz.prog 18 #[.pointer (some ⟨g, 0, none⟩)] w6 (fun e w' => e = .returned (.bool false) ∧ Gr w6 w') from whole_any hR6); have HG6 := Lib.hid (hP6.old HG5.out HLO4.out); clear hR6 hP6) | (go_at_call 18; refine HWH.out.mono ?_; rintro e w7 ⟨rfl, hg7⟩))
  go_ret
  exact ⟨rfl, Gr.tr HG6.out hg7⟩
end Go.Proofs.YtdmhjabnjbpliaaGreatDoor
