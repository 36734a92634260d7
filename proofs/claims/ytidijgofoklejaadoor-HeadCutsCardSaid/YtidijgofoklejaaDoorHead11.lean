/- mandolineref12.Ask: a contract. -/
import Derived.Test.YtidijgofoklejaaDoorHead10
import Derived.Test.YtidijgofoklejaaDoorHead3
namespace Go.Proofs.YtidijgofoklejaaDoor
open Go.RowKit
set_option maxHeartbeats 2000000 in
set_option maxRecDepth 100000 in
theorem refAsk_any (s : List UInt8) (w : World) (hs : s.length < 4294967000) : Calls Tryd.prog 19 #[str s] w (HeadEnd w (askR s)) := by
  have HF := Lib.hid (fun (w : World) => refFirst_any s w (by omega))
  go_enter Tryd.func19, Tryd.ntmps19
  go_upto_region 1 with fail
  have hb1 := Lib.hid (Bk.new w 30 #[str [], str [], .int .i64 0, .slice none 0 0] (0, 0))
  have hG1 : Gr w (w.alloc (Obj.cells #[str [], str [], .int .i64 0, .slice none 0 0] 30)) := Gr.al (Gr.refl w) _
  generalize hw1 : w.alloc (Obj.cells #[str [], str [], .int .i64 0, .slice none 0 0] 30) = w1 at *
  clear hw1
  by_cases he : (firstL s).2.2 = 0
  · obtain ⟨i, hcr, hi4, hfi⟩ := firstL_ok he
    have hlt := crlf_lt hcr
    clear he
    have HFI := Lib.hid hfi
    rw [hfi] at HF
    clear hfi hcr
    go_upto_region 4 with (go_at_call 27; refine (HF.out _).mono ?_; rintro e w2 ⟨rfl, hG2⟩)
    have hGw := Gr.tr hG1 hG2
    have hb3 := Lib.hid (hb1.out.gr hG2)
    clear HF hb1 hG1 hG2
    have hxl : (s.take i).length ≤ 400 := by rw [List.length_take]; omega
    have hins : i + 2 ≤ s.length := by omega
    generalize s.take i = x at *
    go_wp2_with fail
    have hbm := Lib.hid (Bk.new w2 9 #[str [71, 69, 84], str [72, 69, 65, 68]] (0, 0))
    have hGa := Gr.al (Gr.refl w2) (Obj.cells #[str [71, 69, 84], str [72, 69, 65, 68]] 9)
    generalize w2.alloc (Obj.cells #[str [71, 69, 84], str [72, 69, 65, 68]] 9) = w3 at *
    have hGw3 := Gr.tr hGw hGa
    have hb4 := Lib.hid (hb3.out.gr hGa)
    generalize w2.heap.size = g at *
    clear hb3 hGw hGa
    go_loopw [23] (fun iv wr => ∃ k : Nat, k ≤ 2 ∧ iv = .int .i64 k ∧ Gr w3 wr ∧ (1 ≤ k → askM getB x = false) ∧ (2 ≤ k → askM headB x = false)) (fun iv _ => 2 - (intOf iv).toNat)
    case atStart => exact ⟨0, by omega, rfl, Gr.refl _, fun h => absurd h (by omega), fun h => absurd h (by omega)⟩
    case round =>
      obtain ⟨k, hk, rfl, hGr, h1, h2⟩ := hrel
      have hbr := Lib.hid (hb4.out.gr hGr)
      have hGwr := Gr.tr hGw3 hGr
      by_cases hk2 : k < 2
      · have hkc : k = 0 ∨ k = 1 := by omega
        rcases hkc with rfl | rfl
        · clear h1 h2 hk hk2
          have hcell := (hbm.out.gr hGr).cell 0
          simp only [List.getElem?_toArray, List.getElem?_cons_zero, List.getElem?_cons_succ] at hcell
          by_cases c1 : 3 + 10 < x.length
          · have d1 : decide (13 < (x.length : Int)) = true := decide_eq_true (by omega)
            have hx9 : x.length - (x.length - 9) = 9 := by omega
            cases c2 : (x.take 4 == [71, 69, 84, 32]) with
            | false =>
              have HN := Lib.hid (show askM getB x = false from by unfold askM; rw [show (x.take (getB.length + 1) == getB ++ [32]) = false from c2]; simp)
              go_wp2_with fail
              exact ⟨⟨1, by omega, rfl, hGr, fun _ => HN.out, fun h => absurd h (by omega)⟩, by simp [intOf]⟩
            | true =>
              cases c3 : (x.drop (x.length - 9) == [32, 72, 84, 84, 80, 47, 49, 46, 49]) with
              | false =>
                have HN := Lib.hid (show askM getB x = false from by unfold askM; rw [show (x.drop (x.length - 9) == 32 :: httpB) = false from c3]; simp)
                go_wp2_with fail
                exact ⟨⟨1, by omega, rfl, hGr, fun _ => HN.out, fun h => absurd h (by omega)⟩, by simp [intOf]⟩
              | true =>
                have hol : ((x.drop 4).take (x.length - 9 - 4)).length ≤ 400 := by rw [List.length_take, List.length_drop]; omega
                have HO := Lib.hid (fun (w : World) => refObject_any ((x.drop 4).take (x.length - 9 - 4)) w (by omega))
                cases c4 : objB ((x.drop 4).take (x.length - 9 - 4)) with
                | false =>
                  have HN := Lib.hid (show askM getB x = false from by unfold askM; rw [show objB ((x.drop (getB.length + 1)).take (x.length - 9 - (getB.length + 1))) = false from c4]; simp)
                  rw [c4] at HO
                  clear c4
                  go_wp2_with (go_at_call 15; refine (HO.out _).mono ?_; rintro e w4 ⟨rfl, hG4⟩)
                  exact ⟨⟨1, by omega, rfl, Gr.tr hGr hG4, fun _ => HN.out, fun h => absurd h (by omega)⟩, by simp [intOf]⟩
                | true =>
                  have HY := Lib.hid (show askN x = some (getB, (x.drop 4).take (x.length - 9 - 4)) from by
                    have hy : askM getB x = true := by
                      unfold askM
                      rw [show (x.take (getB.length + 1) == getB ++ [32]) = true from c2, show (x.drop (x.length - 9) == 32 :: httpB) = true from c3, show objB ((x.drop (getB.length + 1)).take (x.length - 9 - (getB.length + 1))) = true from c4]
                      simp; exact c1
                    unfold askN
                    rw [if_pos hy]; rfl)
                  have HT := Lib.hid (askR_some HFI.out HY.out)
                  rw [c4] at HO
                  clear c4
                  go_wp2_with (go_at_call 15; refine (HO.out _).mono ?_; rintro e w4 ⟨rfl, hG4⟩)
                  have hGw4 := Gr.tr hGwr hG4
                  have hb4 := Lib.hid (hbr.out.gr hG4)
                  refine (refRest_any getB ((x.drop 4).take (x.length - 9 - 4)) 0 s (i + 2) w4 hins hs).mono ?_
                  rintro e w7 ⟨A7, c7, rfl, hf7, hG7, hr7⟩
                  have hbr7 := Lib.hid (hb4.out.gr hG7)
                  have HN7 := Lib.hid (fresh_ne hr7 hb4.out.lt)
                  have HF7 := Lib.hid hf7
                  have HR7 := Lib.hid (Fresh.tr hGw4 hr7)
                  obtain ⟨y0, y1, y2, y3⟩ := hbr7.out.cells4
                  obtain ⟨d0, d1, d2, d3⟩ := hbr7.out.free4
                  clear hf7 hr7 hb4 HO
                  rw [← show askR s = restL getB ((x.drop 4).take (x.length - 9 - 4)) 0 s (i + 2) from HT.out] at HF7 HN7 HR7 ⊢
                  go_wp2_with fail
                  obtain ⟨x0, x1, x2, x3⟩ := (hbr7.out.set4 (str (askR s).1.1) (str (askR s).1.2.1) (.int .i64 (askR s).1.2.2.1) (.slice A7 (askR s).1.2.2.2.length c7)).cells4
                  refine bodyPost_ret (v := .tuple #[.agg #[str (askR s).1.1, str (askR s).1.2.1, .int .i64 (askR s).1.2.2.1, .slice A7 (askR s).1.2.2.2.length c7], .int .i64 (askR s).2.1, .int .i64 (askR s).2.2]) (by simp [results, Tryd.results19, go_sem, x0, x1, x2, x3]) rfl ?_
                  exact ⟨A7, c7, rfl, HF7.out.st4 HN7.out _ _ _ _, Gr.st4 (Gr.tr hGw4 hG7) (Nat.le_refl _) _ _ _ _, HR7.out⟩
          · have d1 : decide (13 < (x.length : Int)) = false := decide_eq_false (by omega)
            have HN := Lib.hid (show askM getB x = false from by unfold askM; rw [decide_eq_false (show ¬ getB.length + 10 < x.length from c1)]; simp)
            go_wp2_with fail
            exact ⟨⟨1, by omega, rfl, hGr, fun _ => HN.out, fun h => absurd h (by omega)⟩, by simp [intOf]⟩
        · clear h2 hk hk2
          have hcell := (hbm.out.gr hGr).cell 1
          simp only [List.getElem?_toArray, List.getElem?_cons_zero, List.getElem?_cons_succ] at hcell
          by_cases c1 : 4 + 10 < x.length
          · have d1 : decide (14 < (x.length : Int)) = true := decide_eq_true (by omega)
            have hx9 : x.length - (x.length - 9) = 9 := by omega
            cases c2 : (x.take 5 == [72, 69, 65, 68, 32]) with
            | false =>
              have HN := Lib.hid (show askM headB x = false from by unfold askM; rw [show (x.take (headB.length + 1) == headB ++ [32]) = false from c2]; simp)
              go_wp2_with fail
              exact ⟨⟨2, by omega, rfl, hGr, fun _ => h1 (Nat.le_refl 1), fun _ => HN.out⟩, by simp [intOf]⟩
            | true =>
              cases c3 : (x.drop (x.length - 9) == [32, 72, 84, 84, 80, 47, 49, 46, 49]) with
              | false =>
                have HN := Lib.hid (show askM headB x = false from by unfold askM; rw [show (x.drop (x.length - 9) == 32 :: httpB) = false from c3]; simp)
                go_wp2_with fail
                exact ⟨⟨2, by omega, rfl, hGr, fun _ => h1 (Nat.le_refl 1), fun _ => HN.out⟩, by simp [intOf]⟩
              | true =>
                have hol : ((x.drop 5).take (x.length - 9 - 5)).length ≤ 400 := by rw [List.length_take, List.length_drop]; omega
                have HO := Lib.hid (fun (w : World) => refObject_any ((x.drop 5).take (x.length - 9 - 5)) w (by omega))
                cases c4 : objB ((x.drop 5).take (x.length - 9 - 5)) with
                | false =>
                  have HN := Lib.hid (show askM headB x = false from by unfold askM; rw [show objB ((x.drop (headB.length + 1)).take (x.length - 9 - (headB.length + 1))) = false from c4]; simp)
                  rw [c4] at HO
                  clear c4
                  go_wp2_with (go_at_call 15; refine (HO.out _).mono ?_; rintro e w4 ⟨rfl, hG4⟩)
                  exact ⟨⟨2, by omega, rfl, Gr.tr hGr hG4, fun _ => h1 (Nat.le_refl 1), fun _ => HN.out⟩, by simp [intOf]⟩
                | true =>
                  have HY := Lib.hid (show askN x = some (headB, (x.drop 5).take (x.length - 9 - 5)) from by
                    have hy : askM headB x = true := by
                      unfold askM
                      rw [show (x.take (headB.length + 1) == headB ++ [32]) = true from c2, show (x.drop (x.length - 9) == 32 :: httpB) = true from c3, show objB ((x.drop (headB.length + 1)).take (x.length - 9 - (headB.length + 1))) = true from c4]
                      simp; exact c1
                    unfold askN
                    rw [if_neg (by rw [h1 (by omega)]; simp)]; rw [if_pos hy]; rfl)
                  have HT := Lib.hid (askR_some HFI.out HY.out)
                  rw [c4] at HO
                  clear c4
                  go_wp2_with (go_at_call 15; refine (HO.out _).mono ?_; rintro e w4 ⟨rfl, hG4⟩)
                  have hGw4 := Gr.tr hGwr hG4
                  have hb4 := Lib.hid (hbr.out.gr hG4)
                  refine (refRest_any headB ((x.drop 5).take (x.length - 9 - 5)) 0 s (i + 2) w4 hins hs).mono ?_
                  rintro e w7 ⟨A7, c7, rfl, hf7, hG7, hr7⟩
                  have hbr7 := Lib.hid (hb4.out.gr hG7)
                  have HN7 := Lib.hid (fresh_ne hr7 hb4.out.lt)
                  have HF7 := Lib.hid hf7
                  have HR7 := Lib.hid (Fresh.tr hGw4 hr7)
                  obtain ⟨y0, y1, y2, y3⟩ := hbr7.out.cells4
                  obtain ⟨d0, d1, d2, d3⟩ := hbr7.out.free4
                  clear hf7 hr7 hb4 HO
                  rw [← show askR s = restL headB ((x.drop 5).take (x.length - 9 - 5)) 0 s (i + 2) from HT.out] at HF7 HN7 HR7 ⊢
                  go_wp2_with fail
                  obtain ⟨x0, x1, x2, x3⟩ := (hbr7.out.set4 (str (askR s).1.1) (str (askR s).1.2.1) (.int .i64 (askR s).1.2.2.1) (.slice A7 (askR s).1.2.2.2.length c7)).cells4
                  refine bodyPost_ret (v := .tuple #[.agg #[str (askR s).1.1, str (askR s).1.2.1, .int .i64 (askR s).1.2.2.1, .slice A7 (askR s).1.2.2.2.length c7], .int .i64 (askR s).2.1, .int .i64 (askR s).2.2]) (by simp [results, Tryd.results19, go_sem, x0, x1, x2, x3]) rfl ?_
                  exact ⟨A7, c7, rfl, HF7.out.st4 HN7.out _ _ _ _, Gr.st4 (Gr.tr hGw4 hG7) (Nat.le_refl _) _ _ _ _, HR7.out⟩
          · have d1 : decide (14 < (x.length : Int)) = false := decide_eq_false (by omega)
            have HN := Lib.hid (show askM headB x = false from by unfold askM; rw [decide_eq_false (show ¬ headB.length + 10 < x.length from c1)]; simp)
            go_wp2_with fail
            exact ⟨⟨2, by omega, rfl, hGr, fun _ => h1 (Nat.le_refl 1), fun _ => HN.out⟩, by simp [intOf]⟩
      · have HT := Lib.hid (askR_none HFI.out (show askN x = none from by unfold askN; rw [h1 (by omega), h2 (by omega)]; rfl))
        clear h1 h2
        obtain ⟨y0, y1, y2, y3⟩ := hbr.out.cells4
        obtain ⟨d0, d1, d2, d3⟩ := hbr.out.free4
        go_wp2_with fail
        obtain ⟨x0, x1, x2, x3⟩ := (hbr.out.set4 (str []) (str []) (.int .i64 0) (.slice none 0 0)).cells4
        refine bodyPost_ret (v := .tuple #[.agg #[str [], str [], .int .i64 0, .slice none 0 0], .int .i64 0, .int .i64 2]) (by simp [results, Tryd.results19, go_sem, x0, x1, x2, x3]) rfl ?_
        rw [HT.out]
        exact headEnd_none _ _ 2 (Gr.st4 hGwr (Nat.le_refl _) _ _ _ _)
  · have hfi := firstL_bad rfl he
    have HT := Lib.hid (askR_bad hfi he)
    rw [hfi] at HF
    have hne : (((firstL s).2.2 : Int) != 0) = true := by simp; exact he
    generalize (firstL s).2.2 = en at *
    clear he hfi
    go_wp2_with (go_at_call 27; refine (HF.out _).mono ?_; rintro e w2 ⟨rfl, hG2⟩; have hb2 := Lib.hid (hb1.out.gr hG2); obtain ⟨y0, y1, y2, y3⟩ := hb2.out.cells4; obtain ⟨d0, d1, d2, d3⟩ := hb2.out.free4)
    obtain ⟨x0, x1, x2, x3⟩ := (hb2.out.set4 (str []) (str []) (.int .i64 0) (.slice none 0 0)).cells4
    refine bodyPost_ret (v := .tuple #[.agg #[str [], str [], .int .i64 0, .slice none 0 0], .int .i64 0, .int .i64 en]) (by simp [results, Tryd.results19, go_sem, x0, x1, x2, x3]) rfl ?_
    rw [HT.out]
    exact headEnd_none _ _ _ (Gr.st4 (Gr.tr hG1 hG2) (Nat.le_refl _) _ _ _ _)
end Go.Proofs.YtidijgofoklejaaDoor
