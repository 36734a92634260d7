/- Layer 39: the text of configurations, as the document says it; configurations compared. At most 40 configurations. -/
import Derived.Test.YtghopokdfjcjlaaDoorConf9
import Derived.Test.YtghopokdfjcjlaaDoorConf10
import Derived.Test.YtghopokdfjcjlaaDoorConf13
import Derived.Test.YtghopokdfjcjlaaDoorRegion2
namespace Go.Proofs.YtghopokdfjcjlaaDoor
open Go.RowKit
theorem refNumbers39_lit (c : Cfg) (w : World) : Calls Tryd.prog 22 #[.agg #[.int .i64 c.u, .int .i64 c.wa, .int .i64 c.mo, .int .i64 c.sp, .int .i64 c.re, .int .i64 c.rt, .int .i64 c.li, .int .i64 c.bu, .int .i64 c.sh, .int .i64 c.ch]] w (TenAt w c) := refNumbers39_any c w
set_option maxHeartbeats 16000000 in
set_option maxRecDepth 100000 in
theorem refText39_any (l : List Cfg) (v : Value) (w : World) (hv : Sl w v l.length (flatC l)) (hl : l.length ≤ 40) : Calls Tryd.prog 18 #[v] w fun e w' => e = .returned (textV l) ∧ Gr w w' := by
  obtain ⟨A, ca, rfl, hc, hm, ho⟩ := hv.open
  have HO := Lib.hid ho
  clear hv ho
  go_enter Tryd.func18, Tryd.ntmps18
  go_wp2_with (first | (go_at_call 12; refine (refDefault39_any _).mono ?_; rintro e w1 ⟨rfl, hG1⟩) | (go_at_call 22; refine (refNumbers39_any Cfg.dflt _).mono ?_; rintro e w2 ⟨gd, rfl, hG2, hgd, hbd⟩))
  have HGw := Lib.hid (Gr.tr hG1 hG2)
  have HBD := Lib.hid hbd
  clear hG1 hG2 hgd hbd
  go_loopw [4, 14] (fun out i wr => ∃ k : Nat, k ≤ l.length ∧ i = .int .i64 k ∧ out = str (textL (l.take k)) ∧ Gr w2 wr ∧ ∀ j (hj : j < l.length), j < k → l[j].right = true) (fun _ i _ => l.length - (intOf i).toNat)
  case atStart => exact ⟨0, Nat.zero_le _, rfl, rfl, Gr.refl _, fun j hj h => by omega⟩
  case round =>
    obtain ⟨k, hk, rfl, rfl, hG, hall⟩ := hrel
    have HALL := Lib.hid hall
    by_cases hlt : k < l.length
    · obtain ⟨b, ob, rfl, hb, hcell⟩ := HO.out _ _ (flatC_at (j := 0) hlt (by omega))
      have HC := Lib.hid (fun (j : Nat) (u : Value) (hj : j < 10) (h : (l[k].nums.map (Value.int .i64))[j]? = some u) => hcell (k * 10 + j) u ((flatC_at hlt hj).trans h))
      have htl : (textL (l.take k)).length ≤ 13000 := by
        have := textL_len (l := l.take k) (by
          rw [List.all_eq_true]
          intro c hc
          obtain ⟨j, hj, rfl⟩ := List.getElem_of_mem hc
          rw [List.length_take] at hj
          rw [List.getElem_take]
          exact hall j (by omega) (by omega))
        rw [List.length_take] at this; omega
      clear hcell hb hall
      have HNEXT := Lib.hid (fun (h : l[k].right = true) (j : Nat) (hj : j < l.length) (hjk : j < k + 1) => show l[j].right = true from by
        rcases Nat.lt_or_ge j k with h' | h'
        · exact HALL.out j hj h'
        · obtain rfl : j = k := by omega
          exact h)
      have HBAD := Lib.hid (fun (h : l[k].right = false) => text_bad hlt h)
      have HR := Lib.hid (fun (w : World) => refRight39_any l[k] w)
      have HSU := Lib.hid (textL_succ hlt)
      have HJS := Lib.hid (fun j => linesJ_same (c := l[k]) (j := j))
      have HJO := Lib.hid (fun j => linesJ_other (c := l[k]) (j := j))
      generalize textL (l.take k) = T at *
      generalize l[k] = c at *
      unfold cfgV at HR
      have HG0 := Lib.hid hG
      have c0 : wr.cell? ⟨b, ob + k * 10, none⟩ = some (.int .i64 c.u) := by have := hG.cell (HGw.out.cell (HC.out 0 _ (by omega) rfl)); rw [← Nat.add_assoc] at this; exact this
      have c1 : wr.cell? ⟨b, ob + k * 10 + 1, none⟩ = some (.int .i64 c.wa) := by have := hG.cell (HGw.out.cell (HC.out 1 _ (by omega) rfl)); rw [← Nat.add_assoc] at this; exact this
      have c2 : wr.cell? ⟨b, ob + k * 10 + 2, none⟩ = some (.int .i64 c.mo) := by have := hG.cell (HGw.out.cell (HC.out 2 _ (by omega) rfl)); rw [← Nat.add_assoc] at this; exact this
      have c3 : wr.cell? ⟨b, ob + k * 10 + 3, none⟩ = some (.int .i64 c.sp) := by have := hG.cell (HGw.out.cell (HC.out 3 _ (by omega) rfl)); rw [← Nat.add_assoc] at this; exact this
      have c4 : wr.cell? ⟨b, ob + k * 10 + 4, none⟩ = some (.int .i64 c.re) := by have := hG.cell (HGw.out.cell (HC.out 4 _ (by omega) rfl)); rw [← Nat.add_assoc] at this; exact this
      have c5 : wr.cell? ⟨b, ob + k * 10 + 5, none⟩ = some (.int .i64 c.rt) := by have := hG.cell (HGw.out.cell (HC.out 5 _ (by omega) rfl)); rw [← Nat.add_assoc] at this; exact this
      have c6 : wr.cell? ⟨b, ob + k * 10 + 6, none⟩ = some (.int .i64 c.li) := by have := hG.cell (HGw.out.cell (HC.out 6 _ (by omega) rfl)); rw [← Nat.add_assoc] at this; exact this
      have c7 : wr.cell? ⟨b, ob + k * 10 + 7, none⟩ = some (.int .i64 c.bu) := by have := hG.cell (HGw.out.cell (HC.out 7 _ (by omega) rfl)); rw [← Nat.add_assoc] at this; exact this
      have c8 : wr.cell? ⟨b, ob + k * 10 + 8, none⟩ = some (.int .i64 c.sh) := by have := hG.cell (HGw.out.cell (HC.out 8 _ (by omega) rfl)); rw [← Nat.add_assoc] at this; exact this
      have c9 : wr.cell? ⟨b, ob + k * 10 + 9, none⟩ = some (.int .i64 c.ch) := by have := hG.cell (HGw.out.cell (HC.out 9 _ (by omega) rfl)); rw [← Nat.add_assoc] at this; exact this
      clear hG
      go_upto_region 6 with fail
      have hbf := Bk.new wr 23 #[.int .i64 c.u, .int .i64 c.wa, .int .i64 c.mo, .int .i64 c.sp, .int .i64 c.re, .int .i64 c.rt, .int .i64 c.li, .int .i64 c.bu, .int .i64 c.sh, .int .i64 c.ch] (0, 0)
      have hGf := Gr.al (Gr.refl wr) (Obj.cells #[.int .i64 c.u, .int .i64 c.wa, .int .i64 c.mo, .int .i64 c.sp, .int .i64 c.re, .int .i64 c.rt, .int .i64 c.li, .int .i64 c.bu, .int .i64 c.sh, .int .i64 c.ch] 23)
      generalize wr.alloc (Obj.cells #[.int .i64 c.u, .int .i64 c.wa, .int .i64 c.mo, .int .i64 c.sp, .int .i64 c.re, .int .i64 c.rt, .int .i64 c.li, .int .i64 c.bu, .int .i64 c.sh, .int .i64 c.ch] 23) = wf at *
      generalize wr.heap.size = gf at *
      have HGf := Lib.hid (Gr.tr HG0.out hGf)
      clear hGf c0 c1 c2 c3 c4 c5 c6 c7 c8 c9
      have d0 : wf.cell? ⟨gf, 0, none⟩ = some (.int .i64 c.u) := hbf.cell 0
      have d1 : wf.cell? ⟨gf, 1, none⟩ = some (.int .i64 c.wa) := hbf.cell 1
      have d2 : wf.cell? ⟨gf, 2, none⟩ = some (.int .i64 c.mo) := hbf.cell 2
      have d3 : wf.cell? ⟨gf, 3, none⟩ = some (.int .i64 c.sp) := hbf.cell 3
      have d4 : wf.cell? ⟨gf, 4, none⟩ = some (.int .i64 c.re) := hbf.cell 4
      have d5 : wf.cell? ⟨gf, 5, none⟩ = some (.int .i64 c.rt) := hbf.cell 5
      have d6 : wf.cell? ⟨gf, 6, none⟩ = some (.int .i64 c.li) := hbf.cell 6
      have d7 : wf.cell? ⟨gf, 7, none⟩ = some (.int .i64 c.bu) := hbf.cell 7
      have d8 : wf.cell? ⟨gf, 8, none⟩ = some (.int .i64 c.sh) := hbf.cell 8
      have d9 : wf.cell? ⟨gf, 9, none⟩ = some (.int .i64 c.ch) := hbf.cell 9
      cases hr : c.right with
      | false =>
        rw [hr] at HR
        have HB := Lib.hid (HBAD.out hr)
        go_wp2_with (go_at_call 10; refine (HR.out _).mono ?_; rintro e w3 ⟨rfl, hG3⟩)
        go_ret2
        exact ⟨by unfold textV; rw [HB.out]; rfl, Gr.tr HGw.out (Gr.tr HGf.out hG3)⟩
      | true =>
        rw [hr] at HR
        have HN := Lib.hid (HNEXT.out hr)
        have HNN := Lib.hid (right_nonneg hr)
        have HMM := Lib.hid (right_most hr)
        have HJL := Lib.hid (linesJ_len (right_nonneg hr) (right_most hr))
        clear hr HBAD HNEXT
        go_upto_region 9 with (go_at_call 10; refine (HR.out _).mono ?_; rintro e w3 ⟨rfl, hG3⟩)
        have hbf3 := hbf.gr hG3
        have g0 : w3.cell? ⟨gf, 0, none⟩ = some (.int .i64 c.u) := hbf3.cell 0
        have g1 : w3.cell? ⟨gf, 1, none⟩ = some (.int .i64 c.wa) := hbf3.cell 1
        have g2 : w3.cell? ⟨gf, 2, none⟩ = some (.int .i64 c.mo) := hbf3.cell 2
        have g3 : w3.cell? ⟨gf, 3, none⟩ = some (.int .i64 c.sp) := hbf3.cell 3
        have g4 : w3.cell? ⟨gf, 4, none⟩ = some (.int .i64 c.re) := hbf3.cell 4
        have g5 : w3.cell? ⟨gf, 5, none⟩ = some (.int .i64 c.rt) := hbf3.cell 5
        have g6 : w3.cell? ⟨gf, 6, none⟩ = some (.int .i64 c.li) := hbf3.cell 6
        have g7 : w3.cell? ⟨gf, 7, none⟩ = some (.int .i64 c.bu) := hbf3.cell 7
        have g8 : w3.cell? ⟨gf, 8, none⟩ = some (.int .i64 c.sh) := hbf3.cell 8
        have g9 : w3.cell? ⟨gf, 9, none⟩ = some (.int .i64 c.ch) := hbf3.cell 9
        clear hbf hbf3 d0 d1 d2 d3 d4 d5 d6 d7 d8 d9
        go_wp2_with (go_at_call 22; refine (refNumbers39_lit c _).mono ?_; rintro e w4 ⟨gn, rfl, hG4, hgn, hbn⟩)
        have HG4 := Lib.hid (Gr.tr HGf.out (Gr.tr hG3 hG4))
        have HBN := Lib.hid hbn
        have HBD4 := Lib.hid (HBD.out.gr HG4.out)
        clear hG3 hG4 hgn hbn g0 g1 g2 g3 g4 g5 g6 g7 g8 g9
        go_loopw [4, 26] (fun out i wr => ∃ j : Nat, j ≤ 10 ∧ i = .int .i64 j ∧ out = str ((T ++ [110, 111, 100, 101, 10]) ++ linesJ c j) ∧ Gr w4 wr) (fun _ i _ => 10 - (intOf i).toNat)
        case atStart => exact ⟨0, by omega, rfl, by simp [linesJ], Gr.refl _⟩
        case round =>
          obtain ⟨j, hj, rfl, rfl, hGr⟩ := hrel
          have HGr := Lib.hid hGr
          have hjl := HJL.out j hj
          have hbn := HBN.out.gr hGr
          have hbd := HBD4.out.gr hGr
          clear hGr
          by_cases hlt2 : j < 10
          · obtain rfl | rfl | rfl | rfl | rfl | rfl | rfl | rfl | rfl | rfl : j = 0 ∨ j = 1 ∨ j = 2 ∨ j = 3 ∨ j = 4 ∨ j = 5 ∨ j = 6 ∨ j = 7 ∨ j = 8 ∨ j = 9 := by omega
            · have a0 : wr.cell? ⟨gn, 0, none⟩ = some (.int .i64 c.u) := hbn.cell 0
              have a1 : wr.cell? ⟨gd, 0, none⟩ = some (.int .i64 65536) := hbd.cell 0
              have HJK := Lib.hid (HJS.out 0)
              have HJM := Lib.hid (HJO.out 0)
              have kz : sizedI 0 = true := rfl
              clear HJS HJO hbn hbd
              by_cases hx : c.u = 65536
              · have e1 : (c.u != 65536) = false := by simpa using hx
                have e2 : (c.u == 65536) = true := by simpa using hx
                have HE := Lib.hid (HJK.out hx)
                clear hx
                go_wp2_with fail
                exact ⟨⟨1, by omega, rfl, by rw [HE.out], HGr.out⟩, by simp [intOf]⟩
              · have e1 : (c.u != 65536) = true := by simpa using hx
                have e2 : (c.u == 65536) = false := by simpa using hx
                have HE := Lib.hid (show linesJ c 1 = linesJ c 0 ++ ([117, 110, 105, 116] ++ [32] ++ sizedL c.u ++ [10]) from HJM.out hx)
                have n0 : 0 ≤ c.u := HNN.out 0 (by omega)
                have n1 : c.u ≤ 1125899906842624 := HMM.out 0 (by omega)
                have hvl : (Lib.itoa c.u).length ≤ 20 := valL_len (i := 3) n0 n1
                have hsl := sized_len c.u (by omega)
                clear hx
                go_upto_region 15 with (go_at_call 32; refine (refPlain39_any 0 _).mono ?_; rintro e w8 ⟨rfl, hw8⟩; subst hw8)
                refine wp_region_mix [0, 2, 7] none 9 (by kernel_rfl) rfl (by kernel_rfl) (fun o _ _ _ _ h => by cases o <;> exact h) ?_
                simp only [pickOps, List.filterMap_cons, List.filterMap_nil, List.getElem?_cons_zero, List.getElem?_cons_succ]
                repeat (first | (refine wpGq_step (fun K hK => ?_); go_simp; refine hK _ ?_; clear hK K) | (refine wpGq_step (fun K hK => ?_); go_simp; apply Exists.intro; refine ⟨fun _ => ?_, hK _ ?_⟩; fail; clear hK K))
                refine wpGq_nil ?_
                refine wpG_one 1 (by kernel_rfl) rfl rfl (fun K hK wa hga => ?_)
                go_simp
                refine (refNames39_any _).mono ?_
                rintro e wb ⟨gs, rfl, hGb, hbs⟩
                simp only []
                have HGb := Lib.hid (Gr.tr hga hGb)
                refine hK _ _ (HGb.out.by _) ?_
                clear hK K
                have y0 := gx_cell (r := none) (w := wb) (p := ⟨gs, 0, none⟩) (hbs.cell 0) (by simp)
                simp only [namesL, List.map_cons, List.map_nil] at y0
                clear hbs hga hGb
                refine wpG_quiet [3, 4, 5, 6, 8, 9, 10, 11] 0 (HGb.out.by _) rfl (by kernel_rfl) (fun o _ _ _ _ h => by cases o <;> exact h) ?_
                simp only [pickOps, List.filterMap_cons, List.filterMap_nil, List.getElem?_cons_zero, List.getElem?_cons_succ]
                repeat (first | (refine wpGq_step (fun K hK => ?_); go_simp; refine hK _ ?_; clear hK K) | (refine wpGq_step (fun K hK => ?_); go_simp; simp only [↓IntWalk.iteOmega]; go_simp; refine hK _ ?_; clear hK K) | (refine wpGq_step (fun K hK => ?_); go_simp; apply Exists.intro; refine ⟨fun _ => ?_, hK _ ?_⟩; (go_at_call 14; exact refSized39_any _ _ (by omega)); clear hK K))
                refine wpGq_nil ?_
                refine wpG_done (by kernel_rfl) (fun wz hgz => ?_)
                have HGz := Lib.hid (Gr.tr HGr.out (Gr.tr HGb.out hgz))
                clear hgz y0 a0 a1
                go_wp2_with fail
                exact ⟨⟨1, by omega, rfl, by rw [HE.out]; simp, HGz.out⟩, by simp [intOf]⟩
            · have a0 : wr.cell? ⟨gn, 1, none⟩ = some (.int .i64 c.wa) := hbn.cell 1
              have a1 : wr.cell? ⟨gd, 1, none⟩ = some (.int .i64 131072) := hbd.cell 1
              have HJK := Lib.hid (HJS.out 1)
              have HJM := Lib.hid (HJO.out 1)
              have kz : sizedI 1 = true := rfl
              clear HJS HJO hbn hbd
              by_cases hx : c.wa = 131072
              · have e1 : (c.wa != 131072) = false := by simpa using hx
                have e2 : (c.wa == 131072) = true := by simpa using hx
                have HE := Lib.hid (HJK.out hx)
                clear hx
                go_wp2_with fail
                exact ⟨⟨2, by omega, rfl, by rw [HE.out], HGr.out⟩, by simp [intOf]⟩
              · have e1 : (c.wa != 131072) = true := by simpa using hx
                have e2 : (c.wa == 131072) = false := by simpa using hx
                have HE := Lib.hid (show linesJ c 2 = linesJ c 1 ++ ([119, 97, 115, 116, 101] ++ [32] ++ sizedL c.wa ++ [10]) from HJM.out hx)
                have n0 : 0 ≤ c.wa := HNN.out 1 (by omega)
                have n1 : c.wa ≤ 1125899906842624 := HMM.out 1 (by omega)
                have hvl : (Lib.itoa c.wa).length ≤ 20 := valL_len (i := 3) n0 n1
                have hsl := sized_len c.wa (by omega)
                clear hx
                go_upto_region 15 with (go_at_call 32; refine (refPlain39_any 1 _).mono ?_; rintro e w8 ⟨rfl, hw8⟩; subst hw8)
                refine wp_region_mix [0, 2, 7] none 9 (by kernel_rfl) rfl (by kernel_rfl) (fun o _ _ _ _ h => by cases o <;> exact h) ?_
                simp only [pickOps, List.filterMap_cons, List.filterMap_nil, List.getElem?_cons_zero, List.getElem?_cons_succ]
                repeat (first | (refine wpGq_step (fun K hK => ?_); go_simp; refine hK _ ?_; clear hK K) | (refine wpGq_step (fun K hK => ?_); go_simp; apply Exists.intro; refine ⟨fun _ => ?_, hK _ ?_⟩; fail; clear hK K))
                refine wpGq_nil ?_
                refine wpG_one 1 (by kernel_rfl) rfl rfl (fun K hK wa hga => ?_)
                go_simp
                refine (refNames39_any _).mono ?_
                rintro e wb ⟨gs, rfl, hGb, hbs⟩
                simp only []
                have HGb := Lib.hid (Gr.tr hga hGb)
                refine hK _ _ (HGb.out.by _) ?_
                clear hK K
                have y0 := gx_cell (r := none) (w := wb) (p := ⟨gs, 1, none⟩) (hbs.cell 1) (by simp)
                simp only [namesL, List.map_cons, List.map_nil] at y0
                clear hbs hga hGb
                refine wpG_quiet [3, 4, 5, 6, 8, 9, 10, 11] 0 (HGb.out.by _) rfl (by kernel_rfl) (fun o _ _ _ _ h => by cases o <;> exact h) ?_
                simp only [pickOps, List.filterMap_cons, List.filterMap_nil, List.getElem?_cons_zero, List.getElem?_cons_succ]
                repeat (first | (refine wpGq_step (fun K hK => ?_); go_simp; refine hK _ ?_; clear hK K) | (refine wpGq_step (fun K hK => ?_); go_simp; simp only [↓IntWalk.iteOmega]; go_simp; refine hK _ ?_; clear hK K) | (refine wpGq_step (fun K hK => ?_); go_simp; apply Exists.intro; refine ⟨fun _ => ?_, hK _ ?_⟩; (go_at_call 14; exact refSized39_any _ _ (by omega)); clear hK K))
                refine wpGq_nil ?_
                refine wpG_done (by kernel_rfl) (fun wz hgz => ?_)
                have HGz := Lib.hid (Gr.tr HGr.out (Gr.tr HGb.out hgz))
                clear hgz y0 a0 a1
                go_wp2_with fail
                exact ⟨⟨2, by omega, rfl, by rw [HE.out]; simp, HGz.out⟩, by simp [intOf]⟩
            · have a0 : wr.cell? ⟨gn, 2, none⟩ = some (.int .i64 c.mo) := hbn.cell 2
              have a1 : wr.cell? ⟨gd, 2, none⟩ = some (.int .i64 8388608) := hbd.cell 2
              have HJK := Lib.hid (HJS.out 2)
              have HJM := Lib.hid (HJO.out 2)
              have kz : sizedI 2 = true := rfl
              clear HJS HJO hbn hbd
              by_cases hx : c.mo = 8388608
              · have e1 : (c.mo != 8388608) = false := by simpa using hx
                have e2 : (c.mo == 8388608) = true := by simpa using hx
                have HE := Lib.hid (HJK.out hx)
                clear hx
                go_wp2_with fail
                exact ⟨⟨3, by omega, rfl, by rw [HE.out], HGr.out⟩, by simp [intOf]⟩
              · have e1 : (c.mo != 8388608) = true := by simpa using hx
                have e2 : (c.mo == 8388608) = false := by simpa using hx
                have HE := Lib.hid (show linesJ c 3 = linesJ c 2 ++ ([109, 111, 115, 116] ++ [32] ++ sizedL c.mo ++ [10]) from HJM.out hx)
                have n0 : 0 ≤ c.mo := HNN.out 2 (by omega)
                have n1 : c.mo ≤ 1125899906842624 := HMM.out 2 (by omega)
                have hvl : (Lib.itoa c.mo).length ≤ 20 := valL_len (i := 3) n0 n1
                have hsl := sized_len c.mo (by omega)
                clear hx
                go_upto_region 15 with (go_at_call 32; refine (refPlain39_any 2 _).mono ?_; rintro e w8 ⟨rfl, hw8⟩; subst hw8)
                refine wp_region_mix [0, 2, 7] none 9 (by kernel_rfl) rfl (by kernel_rfl) (fun o _ _ _ _ h => by cases o <;> exact h) ?_
                simp only [pickOps, List.filterMap_cons, List.filterMap_nil, List.getElem?_cons_zero, List.getElem?_cons_succ]
                repeat (first | (refine wpGq_step (fun K hK => ?_); go_simp; refine hK _ ?_; clear hK K) | (refine wpGq_step (fun K hK => ?_); go_simp; apply Exists.intro; refine ⟨fun _ => ?_, hK _ ?_⟩; fail; clear hK K))
                refine wpGq_nil ?_
                refine wpG_one 1 (by kernel_rfl) rfl rfl (fun K hK wa hga => ?_)
                go_simp
                refine (refNames39_any _).mono ?_
                rintro e wb ⟨gs, rfl, hGb, hbs⟩
                simp only []
                have HGb := Lib.hid (Gr.tr hga hGb)
                refine hK _ _ (HGb.out.by _) ?_
                clear hK K
                have y0 := gx_cell (r := none) (w := wb) (p := ⟨gs, 2, none⟩) (hbs.cell 2) (by simp)
                simp only [namesL, List.map_cons, List.map_nil] at y0
                clear hbs hga hGb
                refine wpG_quiet [3, 4, 5, 6, 8, 9, 10, 11] 0 (HGb.out.by _) rfl (by kernel_rfl) (fun o _ _ _ _ h => by cases o <;> exact h) ?_
                simp only [pickOps, List.filterMap_cons, List.filterMap_nil, List.getElem?_cons_zero, List.getElem?_cons_succ]
                repeat (first | (refine wpGq_step (fun K hK => ?_); go_simp; refine hK _ ?_; clear hK K) | (refine wpGq_step (fun K hK => ?_); go_simp; simp only [↓IntWalk.iteOmega]; go_simp; refine hK _ ?_; clear hK K) | (refine wpGq_step (fun K hK => ?_); go_simp; apply Exists.intro; refine ⟨fun _ => ?_, hK _ ?_⟩; (go_at_call 14; exact refSized39_any _ _ (by omega)); clear hK K))
                refine wpGq_nil ?_
                refine wpG_done (by kernel_rfl) (fun wz hgz => ?_)
                have HGz := Lib.hid (Gr.tr HGr.out (Gr.tr HGb.out hgz))
                clear hgz y0 a0 a1
                go_wp2_with fail
                exact ⟨⟨3, by omega, rfl, by rw [HE.out]; simp, HGz.out⟩, by simp [intOf]⟩
            · have a0 : wr.cell? ⟨gn, 3, none⟩ = some (.int .i64 c.sp) := hbn.cell 3
              have a1 : wr.cell? ⟨gd, 3, none⟩ = some (.int .i64 16) := hbd.cell 3
              have HJK := Lib.hid (HJS.out 3)
              have HJM := Lib.hid (HJO.out 3)
              have kz : sizedI 3 = false := rfl
              clear HJS HJO hbn hbd
              by_cases hx : c.sp = 16
              · have e1 : (c.sp != 16) = false := by simpa using hx
                have e2 : (c.sp == 16) = true := by simpa using hx
                have HE := Lib.hid (HJK.out hx)
                clear hx
                go_wp2_with fail
                exact ⟨⟨4, by omega, rfl, by rw [HE.out], HGr.out⟩, by simp [intOf]⟩
              · have e1 : (c.sp != 16) = true := by simpa using hx
                have e2 : (c.sp == 16) = false := by simpa using hx
                have HE := Lib.hid (show linesJ c 4 = linesJ c 3 ++ ([115, 112, 101, 99, 115] ++ [32] ++ Lib.itoa c.sp ++ [10]) from HJM.out hx)
                have n0 : 0 ≤ c.sp := HNN.out 3 (by omega)
                have n1 : c.sp ≤ 1125899906842624 := HMM.out 3 (by omega)
                have hvl : (Lib.itoa c.sp).length ≤ 20 := valL_len (i := 3) n0 n1
                have hsl := sized_len c.sp (by omega)
                clear hx
                go_upto_region 13 with (go_at_call 32; refine (refPlain39_any 3 _).mono ?_; rintro e w8 ⟨rfl, hw8⟩; subst hw8)
                refine wp_region_mix [0, 2, 7] none 9 (by kernel_rfl) rfl (by kernel_rfl) (fun o _ _ _ _ h => by cases o <;> exact h) ?_
                simp only [pickOps, List.filterMap_cons, List.filterMap_nil, List.getElem?_cons_zero, List.getElem?_cons_succ]
                repeat (first | (refine wpGq_step (fun K hK => ?_); go_simp; refine hK _ ?_; clear hK K) | (refine wpGq_step (fun K hK => ?_); go_simp; apply Exists.intro; refine ⟨fun _ => ?_, hK _ ?_⟩; fail; clear hK K))
                refine wpGq_nil ?_
                refine wpG_one 1 (by kernel_rfl) rfl rfl (fun K hK wa hga => ?_)
                go_simp
                refine (refNames39_any _).mono ?_
                rintro e wb ⟨gs, rfl, hGb, hbs⟩
                simp only []
                have HGb := Lib.hid (Gr.tr hga hGb)
                refine hK _ _ (HGb.out.by _) ?_
                clear hK K
                have y0 := gx_cell (r := none) (w := wb) (p := ⟨gs, 3, none⟩) (hbs.cell 3) (by simp)
                simp only [namesL, List.map_cons, List.map_nil] at y0
                clear hbs hga hGb
                refine wpG_quiet [3, 4, 5, 6, 8, 9, 10, 11] 0 (HGb.out.by _) rfl (by kernel_rfl) (fun o _ _ _ _ h => by cases o <;> exact h) ?_
                simp only [pickOps, List.filterMap_cons, List.filterMap_nil, List.getElem?_cons_zero, List.getElem?_cons_succ]
                repeat (first | (refine wpGq_step (fun K hK => ?_); go_simp; refine hK _ ?_; clear hK K) | (refine wpGq_step (fun K hK => ?_); go_simp; simp only [↓IntWalk.iteOmega]; go_simp; refine hK _ ?_; clear hK K) | (refine wpGq_step (fun K hK => ?_); go_simp; apply Exists.intro; refine ⟨fun _ => ?_, hK _ ?_⟩; (go_at_call 25; exact refDigits39_int _ _ (by omega) (by omega)); clear hK K))
                refine wpGq_nil ?_
                refine wpG_done (by kernel_rfl) (fun wz hgz => ?_)
                have HGz := Lib.hid (Gr.tr HGr.out (Gr.tr HGb.out hgz))
                clear hgz y0 a0 a1
                go_wp2_with fail
                exact ⟨⟨4, by omega, rfl, by rw [HE.out]; simp, HGz.out⟩, by simp [intOf]⟩
            · have a0 : wr.cell? ⟨gn, 4, none⟩ = some (.int .i64 c.re) := hbn.cell 4
              have a1 : wr.cell? ⟨gd, 4, none⟩ = some (.int .i64 2) := hbd.cell 4
              have HJK := Lib.hid (HJS.out 4)
              have HJM := Lib.hid (HJO.out 4)
              have kz : sizedI 4 = false := rfl
              clear HJS HJO hbn hbd
              by_cases hx : c.re = 2
              · have e1 : (c.re != 2) = false := by simpa using hx
                have e2 : (c.re == 2) = true := by simpa using hx
                have HE := Lib.hid (HJK.out hx)
                clear hx
                go_wp2_with fail
                exact ⟨⟨5, by omega, rfl, by rw [HE.out], HGr.out⟩, by simp [intOf]⟩
              · have e1 : (c.re != 2) = true := by simpa using hx
                have e2 : (c.re == 2) = false := by simpa using hx
                have HE := Lib.hid (show linesJ c 5 = linesJ c 4 ++ ([114, 101, 115, 116, 97, 114, 116, 115] ++ [32] ++ Lib.itoa c.re ++ [10]) from HJM.out hx)
                have n0 : 0 ≤ c.re := HNN.out 4 (by omega)
                have n1 : c.re ≤ 1125899906842624 := HMM.out 4 (by omega)
                have hvl : (Lib.itoa c.re).length ≤ 20 := valL_len (i := 3) n0 n1
                have hsl := sized_len c.re (by omega)
                clear hx
                go_upto_region 13 with (go_at_call 32; refine (refPlain39_any 4 _).mono ?_; rintro e w8 ⟨rfl, hw8⟩; subst hw8)
                refine wp_region_mix [0, 2, 7] none 9 (by kernel_rfl) rfl (by kernel_rfl) (fun o _ _ _ _ h => by cases o <;> exact h) ?_
                simp only [pickOps, List.filterMap_cons, List.filterMap_nil, List.getElem?_cons_zero, List.getElem?_cons_succ]
                repeat (first | (refine wpGq_step (fun K hK => ?_); go_simp; refine hK _ ?_; clear hK K) | (refine wpGq_step (fun K hK => ?_); go_simp; apply Exists.intro; refine ⟨fun _ => ?_, hK _ ?_⟩; fail; clear hK K))
                refine wpGq_nil ?_
                refine wpG_one 1 (by kernel_rfl) rfl rfl (fun K hK wa hga => ?_)
                go_simp
                refine (refNames39_any _).mono ?_
                rintro e wb ⟨gs, rfl, hGb, hbs⟩
                simp only []
                have HGb := Lib.hid (Gr.tr hga hGb)
                refine hK _ _ (HGb.out.by _) ?_
                clear hK K
                have y0 := gx_cell (r := none) (w := wb) (p := ⟨gs, 4, none⟩) (hbs.cell 4) (by simp)
                simp only [namesL, List.map_cons, List.map_nil] at y0
                clear hbs hga hGb
                refine wpG_quiet [3, 4, 5, 6, 8, 9, 10, 11] 0 (HGb.out.by _) rfl (by kernel_rfl) (fun o _ _ _ _ h => by cases o <;> exact h) ?_
                simp only [pickOps, List.filterMap_cons, List.filterMap_nil, List.getElem?_cons_zero, List.getElem?_cons_succ]
                repeat (first | (refine wpGq_step (fun K hK => ?_); go_simp; refine hK _ ?_; clear hK K) | (refine wpGq_step (fun K hK => ?_); go_simp; simp only [↓IntWalk.iteOmega]; go_simp; refine hK _ ?_; clear hK K) | (refine wpGq_step (fun K hK => ?_); go_simp; apply Exists.intro; refine ⟨fun _ => ?_, hK _ ?_⟩; (go_at_call 25; exact refDigits39_int _ _ (by omega) (by omega)); clear hK K))
                refine wpGq_nil ?_
                refine wpG_done (by kernel_rfl) (fun wz hgz => ?_)
                have HGz := Lib.hid (Gr.tr HGr.out (Gr.tr HGb.out hgz))
                clear hgz y0 a0 a1
                go_wp2_with fail
                exact ⟨⟨5, by omega, rfl, by rw [HE.out]; simp, HGz.out⟩, by simp [intOf]⟩
            · have a0 : wr.cell? ⟨gn, 5, none⟩ = some (.int .i64 c.rt) := hbn.cell 5
              have a1 : wr.cell? ⟨gd, 5, none⟩ = some (.int .i64 2) := hbd.cell 5
              have HJK := Lib.hid (HJS.out 5)
              have HJM := Lib.hid (HJO.out 5)
              have kz : sizedI 5 = false := rfl
              clear HJS HJO hbn hbd
              by_cases hx : c.rt = 2
              · have e1 : (c.rt != 2) = false := by simpa using hx
                have e2 : (c.rt == 2) = true := by simpa using hx
                have HE := Lib.hid (HJK.out hx)
                clear hx
                go_wp2_with fail
                exact ⟨⟨6, by omega, rfl, by rw [HE.out], HGr.out⟩, by simp [intOf]⟩
              · have e1 : (c.rt != 2) = true := by simpa using hx
                have e2 : (c.rt == 2) = false := by simpa using hx
                have HE := Lib.hid (show linesJ c 6 = linesJ c 5 ++ ([114, 101, 116, 114, 105, 101, 115] ++ [32] ++ Lib.itoa c.rt ++ [10]) from HJM.out hx)
                have n0 : 0 ≤ c.rt := HNN.out 5 (by omega)
                have n1 : c.rt ≤ 1125899906842624 := HMM.out 5 (by omega)
                have hvl : (Lib.itoa c.rt).length ≤ 20 := valL_len (i := 3) n0 n1
                have hsl := sized_len c.rt (by omega)
                clear hx
                go_upto_region 13 with (go_at_call 32; refine (refPlain39_any 5 _).mono ?_; rintro e w8 ⟨rfl, hw8⟩; subst hw8)
                refine wp_region_mix [0, 2, 7] none 9 (by kernel_rfl) rfl (by kernel_rfl) (fun o _ _ _ _ h => by cases o <;> exact h) ?_
                simp only [pickOps, List.filterMap_cons, List.filterMap_nil, List.getElem?_cons_zero, List.getElem?_cons_succ]
                repeat (first | (refine wpGq_step (fun K hK => ?_); go_simp; refine hK _ ?_; clear hK K) | (refine wpGq_step (fun K hK => ?_); go_simp; apply Exists.intro; refine ⟨fun _ => ?_, hK _ ?_⟩; fail; clear hK K))
                refine wpGq_nil ?_
                refine wpG_one 1 (by kernel_rfl) rfl rfl (fun K hK wa hga => ?_)
                go_simp
                refine (refNames39_any _).mono ?_
                rintro e wb ⟨gs, rfl, hGb, hbs⟩
                simp only []
                have HGb := Lib.hid (Gr.tr hga hGb)
                refine hK _ _ (HGb.out.by _) ?_
                clear hK K
                have y0 := gx_cell (r := none) (w := wb) (p := ⟨gs, 5, none⟩) (hbs.cell 5) (by simp)
                simp only [namesL, List.map_cons, List.map_nil] at y0
                clear hbs hga hGb
                refine wpG_quiet [3, 4, 5, 6, 8, 9, 10, 11] 0 (HGb.out.by _) rfl (by kernel_rfl) (fun o _ _ _ _ h => by cases o <;> exact h) ?_
                simp only [pickOps, List.filterMap_cons, List.filterMap_nil, List.getElem?_cons_zero, List.getElem?_cons_succ]
                repeat (first | (refine wpGq_step (fun K hK => ?_); go_simp; refine hK _ ?_; clear hK K) | (refine wpGq_step (fun K hK => ?_); go_simp; simp only [↓IntWalk.iteOmega]; go_simp; refine hK _ ?_; clear hK K) | (refine wpGq_step (fun K hK => ?_); go_simp; apply Exists.intro; refine ⟨fun _ => ?_, hK _ ?_⟩; (go_at_call 25; exact refDigits39_int _ _ (by omega) (by omega)); clear hK K))
                refine wpGq_nil ?_
                refine wpG_done (by kernel_rfl) (fun wz hgz => ?_)
                have HGz := Lib.hid (Gr.tr HGr.out (Gr.tr HGb.out hgz))
                clear hgz y0 a0 a1
                go_wp2_with fail
                exact ⟨⟨6, by omega, rfl, by rw [HE.out]; simp, HGz.out⟩, by simp [intOf]⟩
            · have a0 : wr.cell? ⟨gn, 6, none⟩ = some (.int .i64 c.li) := hbn.cell 6
              have a1 : wr.cell? ⟨gd, 6, none⟩ = some (.int .i64 262144) := hbd.cell 6
              have HJK := Lib.hid (HJS.out 6)
              have HJM := Lib.hid (HJO.out 6)
              have kz : sizedI 6 = true := rfl
              clear HJS HJO hbn hbd
              by_cases hx : c.li = 262144
              · have e1 : (c.li != 262144) = false := by simpa using hx
                have e2 : (c.li == 262144) = true := by simpa using hx
                have HE := Lib.hid (HJK.out hx)
                clear hx
                go_wp2_with fail
                exact ⟨⟨7, by omega, rfl, by rw [HE.out], HGr.out⟩, by simp [intOf]⟩
              · have e1 : (c.li != 262144) = true := by simpa using hx
                have e2 : (c.li == 262144) = false := by simpa using hx
                have HE := Lib.hid (show linesJ c 7 = linesJ c 6 ++ ([108, 105, 110, 103, 101, 114] ++ [32] ++ sizedL c.li ++ [10]) from HJM.out hx)
                have n0 : 0 ≤ c.li := HNN.out 6 (by omega)
                have n1 : c.li ≤ 1125899906842624 := HMM.out 6 (by omega)
                have hvl : (Lib.itoa c.li).length ≤ 20 := valL_len (i := 3) n0 n1
                have hsl := sized_len c.li (by omega)
                clear hx
                go_upto_region 15 with (go_at_call 32; refine (refPlain39_any 6 _).mono ?_; rintro e w8 ⟨rfl, hw8⟩; subst hw8)
                refine wp_region_mix [0, 2, 7] none 9 (by kernel_rfl) rfl (by kernel_rfl) (fun o _ _ _ _ h => by cases o <;> exact h) ?_
                simp only [pickOps, List.filterMap_cons, List.filterMap_nil, List.getElem?_cons_zero, List.getElem?_cons_succ]
                repeat (first | (refine wpGq_step (fun K hK => ?_); go_simp; refine hK _ ?_; clear hK K) | (refine wpGq_step (fun K hK => ?_); go_simp; apply Exists.intro; refine ⟨fun _ => ?_, hK _ ?_⟩; fail; clear hK K))
                refine wpGq_nil ?_
                refine wpG_one 1 (by kernel_rfl) rfl rfl (fun K hK wa hga => ?_)
                go_simp
                refine (refNames39_any _).mono ?_
                rintro e wb ⟨gs, rfl, hGb, hbs⟩
                simp only []
                have HGb := Lib.hid (Gr.tr hga hGb)
                refine hK _ _ (HGb.out.by _) ?_
                clear hK K
                have y0 := gx_cell (r := none) (w := wb) (p := ⟨gs, 6, none⟩) (hbs.cell 6) (by simp)
                simp only [namesL, List.map_cons, List.map_nil] at y0
                clear hbs hga hGb
                refine wpG_quiet [3, 4, 5, 6, 8, 9, 10, 11] 0 (HGb.out.by _) rfl (by kernel_rfl) (fun o _ _ _ _ h => by cases o <;> exact h) ?_
                simp only [pickOps, List.filterMap_cons, List.filterMap_nil, List.getElem?_cons_zero, List.getElem?_cons_succ]
                repeat (first | (refine wpGq_step (fun K hK => ?_); go_simp; refine hK _ ?_; clear hK K) | (refine wpGq_step (fun K hK => ?_); go_simp; simp only [↓IntWalk.iteOmega]; go_simp; refine hK _ ?_; clear hK K) | (refine wpGq_step (fun K hK => ?_); go_simp; apply Exists.intro; refine ⟨fun _ => ?_, hK _ ?_⟩; (go_at_call 14; exact refSized39_any _ _ (by omega)); clear hK K))
                refine wpGq_nil ?_
                refine wpG_done (by kernel_rfl) (fun wz hgz => ?_)
                have HGz := Lib.hid (Gr.tr HGr.out (Gr.tr HGb.out hgz))
                clear hgz y0 a0 a1
                go_wp2_with fail
                exact ⟨⟨7, by omega, rfl, by rw [HE.out]; simp, HGz.out⟩, by simp [intOf]⟩
            · have a0 : wr.cell? ⟨gn, 7, none⟩ = some (.int .i64 c.bu) := hbn.cell 7
              have a1 : wr.cell? ⟨gd, 7, none⟩ = some (.int .i64 1073741824) := hbd.cell 7
              have HJK := Lib.hid (HJS.out 7)
              have HJM := Lib.hid (HJO.out 7)
              have kz : sizedI 7 = true := rfl
              clear HJS HJO hbn hbd
              by_cases hx : c.bu = 1073741824
              · have e1 : (c.bu != 1073741824) = false := by simpa using hx
                have e2 : (c.bu == 1073741824) = true := by simpa using hx
                have HE := Lib.hid (HJK.out hx)
                clear hx
                go_wp2_with fail
                exact ⟨⟨8, by omega, rfl, by rw [HE.out], HGr.out⟩, by simp [intOf]⟩
              · have e1 : (c.bu != 1073741824) = true := by simpa using hx
                have e2 : (c.bu == 1073741824) = false := by simpa using hx
                have HE := Lib.hid (show linesJ c 8 = linesJ c 7 ++ ([98, 117, 100, 103, 101, 116] ++ [32] ++ sizedL c.bu ++ [10]) from HJM.out hx)
                have n0 : 0 ≤ c.bu := HNN.out 7 (by omega)
                have n1 : c.bu ≤ 1125899906842624 := HMM.out 7 (by omega)
                have hvl : (Lib.itoa c.bu).length ≤ 20 := valL_len (i := 3) n0 n1
                have hsl := sized_len c.bu (by omega)
                clear hx
                go_upto_region 15 with (go_at_call 32; refine (refPlain39_any 7 _).mono ?_; rintro e w8 ⟨rfl, hw8⟩; subst hw8)
                refine wp_region_mix [0, 2, 7] none 9 (by kernel_rfl) rfl (by kernel_rfl) (fun o _ _ _ _ h => by cases o <;> exact h) ?_
                simp only [pickOps, List.filterMap_cons, List.filterMap_nil, List.getElem?_cons_zero, List.getElem?_cons_succ]
                repeat (first | (refine wpGq_step (fun K hK => ?_); go_simp; refine hK _ ?_; clear hK K) | (refine wpGq_step (fun K hK => ?_); go_simp; apply Exists.intro; refine ⟨fun _ => ?_, hK _ ?_⟩; fail; clear hK K))
                refine wpGq_nil ?_
                refine wpG_one 1 (by kernel_rfl) rfl rfl (fun K hK wa hga => ?_)
                go_simp
                refine (refNames39_any _).mono ?_
                rintro e wb ⟨gs, rfl, hGb, hbs⟩
                simp only []
                have HGb := Lib.hid (Gr.tr hga hGb)
                refine hK _ _ (HGb.out.by _) ?_
                clear hK K
                have y0 := gx_cell (r := none) (w := wb) (p := ⟨gs, 7, none⟩) (hbs.cell 7) (by simp)
                simp only [namesL, List.map_cons, List.map_nil] at y0
                clear hbs hga hGb
                refine wpG_quiet [3, 4, 5, 6, 8, 9, 10, 11] 0 (HGb.out.by _) rfl (by kernel_rfl) (fun o _ _ _ _ h => by cases o <;> exact h) ?_
                simp only [pickOps, List.filterMap_cons, List.filterMap_nil, List.getElem?_cons_zero, List.getElem?_cons_succ]
                repeat (first | (refine wpGq_step (fun K hK => ?_); go_simp; refine hK _ ?_; clear hK K) | (refine wpGq_step (fun K hK => ?_); go_simp; simp only [↓IntWalk.iteOmega]; go_simp; refine hK _ ?_; clear hK K) | (refine wpGq_step (fun K hK => ?_); go_simp; apply Exists.intro; refine ⟨fun _ => ?_, hK _ ?_⟩; (go_at_call 14; exact refSized39_any _ _ (by omega)); clear hK K))
                refine wpGq_nil ?_
                refine wpG_done (by kernel_rfl) (fun wz hgz => ?_)
                have HGz := Lib.hid (Gr.tr HGr.out (Gr.tr HGb.out hgz))
                clear hgz y0 a0 a1
                go_wp2_with fail
                exact ⟨⟨8, by omega, rfl, by rw [HE.out]; simp, HGz.out⟩, by simp [intOf]⟩
            · have a0 : wr.cell? ⟨gn, 8, none⟩ = some (.int .i64 c.sh) := hbn.cell 8
              have a1 : wr.cell? ⟨gd, 8, none⟩ = some (.int .i64 536870912) := hbd.cell 8
              have HJK := Lib.hid (HJS.out 8)
              have HJM := Lib.hid (HJO.out 8)
              have kz : sizedI 8 = true := rfl
              clear HJS HJO hbn hbd
              by_cases hx : c.sh = 536870912
              · have e1 : (c.sh != 536870912) = false := by simpa using hx
                have e2 : (c.sh == 536870912) = true := by simpa using hx
                have HE := Lib.hid (HJK.out hx)
                clear hx
                go_wp2_with fail
                exact ⟨⟨9, by omega, rfl, by rw [HE.out], HGr.out⟩, by simp [intOf]⟩
              · have e1 : (c.sh != 536870912) = true := by simpa using hx
                have e2 : (c.sh == 536870912) = false := by simpa using hx
                have HE := Lib.hid (show linesJ c 9 = linesJ c 8 ++ ([115, 104, 97, 114, 101] ++ [32] ++ sizedL c.sh ++ [10]) from HJM.out hx)
                have n0 : 0 ≤ c.sh := HNN.out 8 (by omega)
                have n1 : c.sh ≤ 1125899906842624 := HMM.out 8 (by omega)
                have hvl : (Lib.itoa c.sh).length ≤ 20 := valL_len (i := 3) n0 n1
                have hsl := sized_len c.sh (by omega)
                clear hx
                go_upto_region 15 with (go_at_call 32; refine (refPlain39_any 8 _).mono ?_; rintro e w8 ⟨rfl, hw8⟩; subst hw8)
                refine wp_region_mix [0, 2, 7] none 9 (by kernel_rfl) rfl (by kernel_rfl) (fun o _ _ _ _ h => by cases o <;> exact h) ?_
                simp only [pickOps, List.filterMap_cons, List.filterMap_nil, List.getElem?_cons_zero, List.getElem?_cons_succ]
                repeat (first | (refine wpGq_step (fun K hK => ?_); go_simp; refine hK _ ?_; clear hK K) | (refine wpGq_step (fun K hK => ?_); go_simp; apply Exists.intro; refine ⟨fun _ => ?_, hK _ ?_⟩; fail; clear hK K))
                refine wpGq_nil ?_
                refine wpG_one 1 (by kernel_rfl) rfl rfl (fun K hK wa hga => ?_)
                go_simp
                refine (refNames39_any _).mono ?_
                rintro e wb ⟨gs, rfl, hGb, hbs⟩
                simp only []
                have HGb := Lib.hid (Gr.tr hga hGb)
                refine hK _ _ (HGb.out.by _) ?_
                clear hK K
                have y0 := gx_cell (r := none) (w := wb) (p := ⟨gs, 8, none⟩) (hbs.cell 8) (by simp)
                simp only [namesL, List.map_cons, List.map_nil] at y0
                clear hbs hga hGb
                refine wpG_quiet [3, 4, 5, 6, 8, 9, 10, 11] 0 (HGb.out.by _) rfl (by kernel_rfl) (fun o _ _ _ _ h => by cases o <;> exact h) ?_
                simp only [pickOps, List.filterMap_cons, List.filterMap_nil, List.getElem?_cons_zero, List.getElem?_cons_succ]
                repeat (first | (refine wpGq_step (fun K hK => ?_); go_simp; refine hK _ ?_; clear hK K) | (refine wpGq_step (fun K hK => ?_); go_simp; simp only [↓IntWalk.iteOmega]; go_simp; refine hK _ ?_; clear hK K) | (refine wpGq_step (fun K hK => ?_); go_simp; apply Exists.intro; refine ⟨fun _ => ?_, hK _ ?_⟩; (go_at_call 14; exact refSized39_any _ _ (by omega)); clear hK K))
                refine wpGq_nil ?_
                refine wpG_done (by kernel_rfl) (fun wz hgz => ?_)
                have HGz := Lib.hid (Gr.tr HGr.out (Gr.tr HGb.out hgz))
                clear hgz y0 a0 a1
                go_wp2_with fail
                exact ⟨⟨9, by omega, rfl, by rw [HE.out]; simp, HGz.out⟩, by simp [intOf]⟩
            · have a0 : wr.cell? ⟨gn, 9, none⟩ = some (.int .i64 c.ch) := hbn.cell 9
              have a1 : wr.cell? ⟨gd, 9, none⟩ = some (.int .i64 32768) := hbd.cell 9
              have HJK := Lib.hid (HJS.out 9)
              have HJM := Lib.hid (HJO.out 9)
              have kz : sizedI 9 = true := rfl
              clear HJS HJO hbn hbd
              by_cases hx : c.ch = 32768
              · have e1 : (c.ch != 32768) = false := by simpa using hx
                have e2 : (c.ch == 32768) = true := by simpa using hx
                have HE := Lib.hid (HJK.out hx)
                clear hx
                go_wp2_with fail
                exact ⟨⟨10, by omega, rfl, by rw [HE.out], HGr.out⟩, by simp [intOf]⟩
              · have e1 : (c.ch != 32768) = true := by simpa using hx
                have e2 : (c.ch == 32768) = false := by simpa using hx
                have HE := Lib.hid (show linesJ c 10 = linesJ c 9 ++ ([99, 104, 117, 110, 107] ++ [32] ++ sizedL c.ch ++ [10]) from HJM.out hx)
                have n0 : 0 ≤ c.ch := HNN.out 9 (by omega)
                have n1 : c.ch ≤ 1125899906842624 := HMM.out 9 (by omega)
                have hvl : (Lib.itoa c.ch).length ≤ 20 := valL_len (i := 3) n0 n1
                have hsl := sized_len c.ch (by omega)
                clear hx
                go_upto_region 15 with (go_at_call 32; refine (refPlain39_any 9 _).mono ?_; rintro e w8 ⟨rfl, hw8⟩; subst hw8)
                refine wp_region_mix [0, 2, 7] none 9 (by kernel_rfl) rfl (by kernel_rfl) (fun o _ _ _ _ h => by cases o <;> exact h) ?_
                simp only [pickOps, List.filterMap_cons, List.filterMap_nil, List.getElem?_cons_zero, List.getElem?_cons_succ]
                repeat (first | (refine wpGq_step (fun K hK => ?_); go_simp; refine hK _ ?_; clear hK K) | (refine wpGq_step (fun K hK => ?_); go_simp; apply Exists.intro; refine ⟨fun _ => ?_, hK _ ?_⟩; fail; clear hK K))
                refine wpGq_nil ?_
                refine wpG_one 1 (by kernel_rfl) rfl rfl (fun K hK wa hga => ?_)
                go_simp
                refine (refNames39_any _).mono ?_
                rintro e wb ⟨gs, rfl, hGb, hbs⟩
                simp only []
                have HGb := Lib.hid (Gr.tr hga hGb)
                refine hK _ _ (HGb.out.by _) ?_
                clear hK K
                have y0 := gx_cell (r := none) (w := wb) (p := ⟨gs, 9, none⟩) (hbs.cell 9) (by simp)
                simp only [namesL, List.map_cons, List.map_nil] at y0
                clear hbs hga hGb
                refine wpG_quiet [3, 4, 5, 6, 8, 9, 10, 11] 0 (HGb.out.by _) rfl (by kernel_rfl) (fun o _ _ _ _ h => by cases o <;> exact h) ?_
                simp only [pickOps, List.filterMap_cons, List.filterMap_nil, List.getElem?_cons_zero, List.getElem?_cons_succ]
                repeat (first | (refine wpGq_step (fun K hK => ?_); go_simp; refine hK _ ?_; clear hK K) | (refine wpGq_step (fun K hK => ?_); go_simp; simp only [↓IntWalk.iteOmega]; go_simp; refine hK _ ?_; clear hK K) | (refine wpGq_step (fun K hK => ?_); go_simp; apply Exists.intro; refine ⟨fun _ => ?_, hK _ ?_⟩; (go_at_call 14; exact refSized39_any _ _ (by omega)); clear hK K))
                refine wpGq_nil ?_
                refine wpG_done (by kernel_rfl) (fun wz hgz => ?_)
                have HGz := Lib.hid (Gr.tr HGr.out (Gr.tr HGb.out hgz))
                clear hgz y0 a0 a1
                go_wp2_with fail
                exact ⟨⟨10, by omega, rfl, by rw [HE.out]; simp, HGz.out⟩, by simp [intOf]⟩
          · obtain rfl : j = 10 := by omega
            clear hbn hbd
            go_wp2_with fail
            exact ⟨⟨k + 1, by omega, by go_num, by rw [HSU.out, List.append_assoc], Gr.tr HG4.out HGr.out, HN.out⟩, by simp [intOf]; omega⟩
    · obtain rfl : k = l.length := by omega
      have hal := all_of (fun j hj => HALL.out j hj hj)
      rw [List.take_length]
      clear HALL hall
      by_cases h16 : 16 < l.length
      · have k1 : decide (16 < (l.length : Int)) = true := decide_eq_true (by omega)
        have HT := Lib.hid (text_many hal h16)
        clear hal
        go_wp2_with fail
        go_ret2
        exact ⟨by unfold textV; rw [HT.out]; rfl, Gr.tr HGw.out hG⟩
      · have k1 : decide (16 < (l.length : Int)) = false := decide_eq_false (by omega)
        have HT := Lib.hid (text_good hal h16)
        clear hal
        go_wp2_with fail
        go_ret2
        exact ⟨by unfold textV; rw [HT.out]; rfl, Gr.tr HGw.out hG⟩
end Go.Proofs.YtghopokdfjcjlaaDoor
