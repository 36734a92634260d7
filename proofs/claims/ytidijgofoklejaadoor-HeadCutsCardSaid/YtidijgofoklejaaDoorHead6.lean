/- mandolineref12.Tell: a contract. -/
import Derived.Test.YtidijgofoklejaaDoorHead4
namespace Go.Proofs.YtidijgofoklejaaDoor
open Go.RowKit
set_option maxHeartbeats 4000000 in
set_option maxRecDepth 100000 in
theorem refTell_any (s : List UInt8) (w : World) (hs : s.length < 4294967000) : Calls Tryd.prog 11 #[str s] w (HeadEnd w (tellR s)) := by
  have HF := Lib.hid (fun (w : World) => refFirst_any s w (by omega))
  go_enter Tryd.func11, Tryd.ntmps11
  go_upto_region 1 with fail
  have hb1 := Lib.hid (Bk.new w 30 #[str [], str [], .int .i64 0, .slice none 0 0] (0, 0))
  have hG1 : Gr w (w.alloc (Obj.cells #[str [], str [], .int .i64 0, .slice none 0 0] 30)) := Gr.al (Gr.refl w) _
  generalize hw1 : w.alloc (Obj.cells #[str [], str [], .int .i64 0, .slice none 0 0] 30) = w1 at *
  clear hw1
  by_cases he : (firstL s).2.2 = 0
  · obtain ⟨i, hcr, hi4, hfi⟩ := firstL_ok he
    have hlt := crlf_lt hcr
    clear he
    have HFI := Lib.hid hfi
    rw [hfi] at HF
    clear hfi hcr
    go_upto_region 4 with (go_at_call 27; refine (HF.out _).mono ?_; rintro e w2 ⟨rfl, hG2⟩)
    have hGw := Gr.tr hG1 hG2
    have hb3 := Lib.hid (hb1.out.gr hG2)
    have hz3 : w.heap.size < w2.heap.size := hb3.out.lt
    clear HF hb1 hG1 hG2
    have hxl : (s.take i).length ≤ 400 := by rw [List.length_take]; omega
    have hins : i + 2 ≤ s.length := by omega
    generalize s.take i = x at *
    by_cases h12 : x.length < 12
    · have HT := Lib.hid (tellR_none HFI.out (tellN_short h12))
      obtain ⟨y0, y1, y2, y3⟩ := hb3.out.cells4; obtain ⟨d0, d1, d2, d3⟩ := hb3.out.free4
      go_wp2_with fail
      obtain ⟨x0, x1, x2, x3⟩ := (hb3.out.set4 (str []) (str []) (.int .i64 0) (.slice none 0 0)).cells4
      refine bodyPost_ret (v := .tuple #[.agg #[str [], str [], .int .i64 0, .slice none 0 0], .int .i64 0, .int .i64 2]) (by simp [results, Tryd.results11, go_sem, x0, x1, x2, x3]) rfl ?_
      rw [HT.out]
      exact headEnd_none _ _ 2 (Gr.st4 hGw (Nat.le_refl _) _ _ _ _)
    · have h12' : 12 ≤ x.length := by omega
      have hd12 : decide ((x.length : Int) < 12) = false := decide_eq_false (by omega)
      clear h12
      cases hp : (httpB ++ [32]).isPrefixOf x with
      | false =>
        have HT := Lib.hid (tellR_none HFI.out (tellN_none hp))
        have hq : (x.take 9 == [72, 84, 84, 80, 47, 49, 46, 49, 32]) = false := by rw [← hp, pre9 (by omega)]; rfl
        have hq' : (x.take 9 != [72, 84, 84, 80, 47, 49, 46, 49, 32]) = true := by simp only [bne, hq]; rfl
        clear hp
        obtain ⟨y0, y1, y2, y3⟩ := hb3.out.cells4; obtain ⟨d0, d1, d2, d3⟩ := hb3.out.free4
        go_wp2_with fail
        obtain ⟨x0, x1, x2, x3⟩ := (hb3.out.set4 (str []) (str []) (.int .i64 0) (.slice none 0 0)).cells4
        refine bodyPost_ret (v := .tuple #[.agg #[str [], str [], .int .i64 0, .slice none 0 0], .int .i64 0, .int .i64 2]) (by simp [results, Tryd.results11, go_sem, x0, x1, x2, x3]) rfl ?_
        rw [HT.out]
        exact headEnd_none _ _ 2 (Gr.st4 hGw (Nat.le_refl _) _ _ _ _)
      | true =>
        have HPR := Lib.hid hp
        have hq : (x.take 9 == [72, 84, 84, 80, 47, 49, 46, 49, 32]) = true := by rw [← hp, pre9 (by omega)]; rfl
        have hq' : (x.take 9 != [72, 84, 84, 80, 47, 49, 46, 49, 32]) = false := by simp only [bne, hq]; rfl
        clear hp
        go_wp2_with fail
        clear hq hq'
        go_loop [8, 9] (fun nv jv => ∃ j : Nat, 9 ≤ j ∧ j ≤ 12 ∧ jv = .int .i64 j ∧ nv = .int .i64 (numB ((x.take j).drop 9)) ∧ ((x.take j).drop 9).all digC = true) (fun _ jv => 12 - (intOf jv).toNat)
        case atStart => exact ⟨9, by omega, by omega, rfl, by rw [List.drop_of_length_le (by rw [List.length_take]; omega)]; rfl, by rw [List.drop_of_length_le (by rw [List.length_take]; omega)]; rfl⟩
        case round =>
          obtain ⟨j, hj9, hj12, rfl, rfl, hdg⟩ := hrel
          have HD := Lib.hid hdg
          have hnb := num9_le hj9 hj12 hdg
          clear hdg
          by_cases hk3 : j < 12
          · have hkr : j < x.length := by omega
            cases hdc : digC x[j] with
            | false =>
              have HT := Lib.hid (tellR_none HFI.out (tell_dig HPR.out hj9 hk3 h12' hdc))
              have hnd : ¬ (48 ≤ (x[j].toNat : Int) ∧ (x[j].toNat : Int) ≤ 57) := fun h => by rw [digC_yes _ h] at hdc; cases hdc
              clear hdc
              obtain ⟨y0, y1, y2, y3⟩ := hb3.out.cells4; obtain ⟨d0, d1, d2, d3⟩ := hb3.out.free4
              by_cases h48 : 48 ≤ (x[j].toNat : Int)
              · have h57 : 57 < (x[j].toNat : Int) := by omega
                clear hnd
                go_wp2_with fail
                obtain ⟨x0, x1, x2, x3⟩ := (hb3.out.set4 (str []) (str []) (.int .i64 0) (.slice none 0 0)).cells4
                refine bodyPost_ret (v := .tuple #[.agg #[str [], str [], .int .i64 0, .slice none 0 0], .int .i64 0, .int .i64 2]) (by simp [results, Tryd.results11, go_sem, x0, x1, x2, x3]) rfl ?_
                rw [HT.out]
                exact headEnd_none _ _ 2 (Gr.st4 hGw (Nat.le_refl _) _ _ _ _)
              · clear hnd
                go_wp2_with fail
                obtain ⟨x0, x1, x2, x3⟩ := (hb3.out.set4 (str []) (str []) (.int .i64 0) (.slice none 0 0)).cells4
                refine bodyPost_ret (v := .tuple #[.agg #[str [], str [], .int .i64 0, .slice none 0 0], .int .i64 0, .int .i64 2]) (by simp [results, Tryd.results11, go_sem, x0, x1, x2, x3]) rfl ?_
                rw [HT.out]
                exact headEnd_none _ _ 2 (Gr.st4 hGw (Nat.le_refl _) _ _ _ _)
            | true =>
              have hyd : 48 ≤ (x[j].toNat : Int) ∧ (x[j].toNat : Int) ≤ 57 := Classical.byContradiction fun h => by rw [digC_no _ h] at hdc; cases hdc
              have HDC := Lib.hid hdc
              obtain ⟨h48, h57⟩ := hyd
              have HNS := Lib.hid (num9_succ hj9 hkr)
              clear hdc
              go_wp2_with fail
              exact ⟨⟨j + 1, by omega, by omega, by go_num, by rw [HNS.out]; congr 1; omega, dig9_succ hj9 hkr HD.out HDC.out⟩, by simp [intOf]; omega⟩
          · obtain rfl : j = 12 := by omega
            by_cases hst : 100 ≤ numB ((x.take 12).drop 9) ∧ numB ((x.take 12).drop 9) ≤ 599
            · by_cases h4 : ∃ h : 12 < x.length, (x[12].toNat : Int) ≠ 32
              · obtain ⟨h4, h5⟩ := h4
                have HT := Lib.hid (tellR_none HFI.out (tell_blank HPR.out h4 h5))
                have hne : ((x[12].toNat : Int) != 32) = true := by simpa using h5
                have s1 : decide ((numB ((x.take 12).drop 9) : Int) < 100) = false := decide_eq_false (by omega)
                have s2 : decide (599 < (numB ((x.take 12).drop 9) : Int)) = false := decide_eq_false (by omega)
                generalize numB ((x.take 12).drop 9) = N at *
                obtain ⟨y0, y1, y2, y3⟩ := hb3.out.cells4; obtain ⟨d0, d1, d2, d3⟩ := hb3.out.free4
                go_wp2_with fail
                obtain ⟨x0, x1, x2, x3⟩ := (hb3.out.set4 (str []) (str []) (.int .i64 0) (.slice none 0 0)).cells4
                refine bodyPost_ret (v := .tuple #[.agg #[str [], str [], .int .i64 0, .slice none 0 0], .int .i64 0, .int .i64 2]) (by simp [results, Tryd.results11, go_sem, x0, x1, x2, x3]) rfl ?_
                rw [HT.out]
                exact headEnd_none _ _ 2 (Gr.st4 hGw (Nat.le_refl _) _ _ _ _)
              · have h5 : ∀ h : 12 < x.length, (x[12].toNat : Int) = 32 := fun h => Classical.byContradiction fun hn => h4 ⟨h, hn⟩
                have H5 := Lib.hid h5
                clear h4 h5
                have HST := Lib.hid hst
                have s1 : decide ((numB ((x.take 12).drop 9) : Int) < 100) = false := decide_eq_false (by omega)
                have s2 : decide (599 < (numB ((x.take 12).drop 9) : Int)) = false := decide_eq_false (by omega)
                have HTS := Lib.hid (fun (k : Nat) (hk : ¬ k < x.length) (hv : ((x.take k).drop 12).all visC = true) => tell_yes HPR.out h12' hk HD.out hv H5.out hst)
                clear hst HD HST
                generalize numB ((x.take 12).drop 9) = N at *
                go_upto_region 13 with fail
                go_cut [68] (fun s68 wx => w2 = wx ∧ s68 = .bool false)
                case first =>
                  by_cases h4 : 12 < x.length
                  · have hne : ((x[12].toNat : Int) != 32) = false := by simpa using H5.out h4
                    go_wp2_with fail
                    go_meet
                    exact ⟨rfl, rfl⟩
                  · go_wp2_with fail
                    go_meet
                    exact ⟨rfl, rfl⟩
                case rest =>
                  obtain ⟨hwc, rfl⟩ := hcut
                  subst hwc
                  go_wp2_with fail
                  go_loop [10] (fun jv => ∃ j : Nat, 12 ≤ j ∧ j ≤ x.length ∧ jv = .int .i64 j ∧ ((x.take j).drop 12).all visC = true) (fun jv => x.length - (intOf jv).toNat)
                  case atStart => exact ⟨12, by omega, by omega, rfl, by rw [List.drop_of_length_le (by rw [List.length_take]; omega)]; rfl⟩
                  case round =>
                    obtain ⟨j, hj3, hjl, rfl, hvs⟩ := hrel
                    have HV := Lib.hid hvs; clear hvs
                    by_cases hjr : j < x.length
                    · cases hvc : visC x[j] with
                      | false =>
                        have HT := Lib.hid (tellR_none HFI.out (tell_vis HPR.out hj3 hjr hvc))
                        have hnv : ¬ ((32 ≤ (x[j].toNat : Int) ∧ (x[j].toNat : Int) ≤ 126) ∨ (x[j].toNat : Int) = 9) := fun h => by rw [visC_yes _ h] at hvc; cases hvc
                        have hn9 : ((x[j].toNat : Int) != 9) = true := by simp; omega
                        clear hvc
                        obtain ⟨y0, y1, y2, y3⟩ := hb3.out.cells4; obtain ⟨d0, d1, d2, d3⟩ := hb3.out.free4
                        by_cases h32 : 32 ≤ (x[j].toNat : Int)
                        · have h126 : 126 < (x[j].toNat : Int) := by omega
                          clear hnv
                          go_wp2_with fail
                          obtain ⟨x0, x1, x2, x3⟩ := (hb3.out.set4 (str []) (str []) (.int .i64 0) (.slice none 0 0)).cells4
                          refine bodyPost_ret (v := .tuple #[.agg #[str [], str [], .int .i64 0, .slice none 0 0], .int .i64 0, .int .i64 2]) (by simp [results, Tryd.results11, go_sem, x0, x1, x2, x3]) rfl ?_
                          rw [HT.out]
                          exact headEnd_none _ _ 2 (Gr.st4 hGw (Nat.le_refl _) _ _ _ _)
                        · clear hnv
                          go_wp2_with fail
                          obtain ⟨x0, x1, x2, x3⟩ := (hb3.out.set4 (str []) (str []) (.int .i64 0) (.slice none 0 0)).cells4
                          refine bodyPost_ret (v := .tuple #[.agg #[str [], str [], .int .i64 0, .slice none 0 0], .int .i64 0, .int .i64 2]) (by simp [results, Tryd.results11, go_sem, x0, x1, x2, x3]) rfl ?_
                          rw [HT.out]
                          exact headEnd_none _ _ 2 (Gr.st4 hGw (Nat.le_refl _) _ _ _ _)
                      | true =>
                        have HVC := Lib.hid hvc
                        have hvv := (visC_iff _).1 hvc
                        clear hvc
                        by_cases h9 : (x[j].toNat : Int) = 9
                        · have hn9 : ((x[j].toNat : Int) != 9) = false := by simp [h9]
                          have h32 : (x[j].toNat : Int) < 32 := by omega
                          clear h9 hvv
                          go_wp2_with fail
                          exact ⟨⟨j + 1, by omega, by omega, by go_num, vis12_succ hj3 hjr HV.out HVC.out⟩, by simp [intOf]; omega⟩
                        · have h32 : 32 ≤ (x[j].toNat : Int) := by omega
                          have h126 : (x[j].toNat : Int) ≤ 126 := by omega
                          have hn9 : ((x[j].toNat : Int) != 9) = true := by simp; omega
                          clear h9 hvv
                          have ddlt32 : decide (((x[j].toNat : Nat) : Int) < 32) = false := decide_eq_false (by omega)
                          have ddgt126 : decide (126 < ((x[j].toNat : Nat) : Int)) = false := decide_eq_false (by omega)
                          go_wp2_with fail
                          exact ⟨⟨j + 1, by omega, by omega, by go_num, vis12_succ hj3 hjr HV.out HVC.out⟩, by simp [intOf]; omega⟩
                    · have HT := Lib.hid (tellR_some HFI.out (HTS.out j hjr HV.out))
                      go_wp2_with fail
                      refine (refRest_any [] [] N s (i + 2) w2 hins hs).mono ?_
                      rintro e w6 ⟨A6, c6, rfl, hf6, hG6, hr6⟩
                      have hbr6 := Lib.hid (hb3.out.gr hG6)
                      have hne6 := fresh_ne hr6 hz3
                      have HF6 := Lib.hid hf6; have HN6 := Lib.hid hne6
                      have HR6 := Lib.hid (Fresh.tr hGw hr6)
                      obtain ⟨y0, y1, y2, y3⟩ := hbr6.out.cells4
                      obtain ⟨d0, d1, d2, d3⟩ := hbr6.out.free4
                      clear hf6 hne6 hr6 hb3
                      rw [← HT.out] at HF6 HN6 HR6 ⊢
                      generalize tellR s = T at *
                      go_wp2_with fail
                      obtain ⟨x0, x1, x2, x3⟩ := (hbr6.out.set4 (str T.1.1) (str T.1.2.1) (.int .i64 T.1.2.2.1) (.slice A6 T.1.2.2.2.length c6)).cells4
                      refine bodyPost_ret (v := .tuple #[.agg #[str T.1.1, str T.1.2.1, .int .i64 T.1.2.2.1, .slice A6 T.1.2.2.2.length c6], .int .i64 T.2.1, .int .i64 T.2.2]) (by simp [results, Tryd.results11, go_sem, x0, x1, x2, x3]) rfl ?_
                      exact ⟨A6, c6, rfl, HF6.out.st4 HN6.out _ _ _ _, Gr.st4 (Gr.tr hGw hG6) (Nat.le_refl _) _ _ _ _, HR6.out⟩
            · have HT := Lib.hid (tellR_none HFI.out (tell_num HPR.out hst))
              clear HD
              generalize numB ((x.take 12).drop 9) = N at *
              obtain ⟨y0, y1, y2, y3⟩ := hb3.out.cells4; obtain ⟨d0, d1, d2, d3⟩ := hb3.out.free4
              by_cases h100 : N < 100
              · have s1 : decide ((N : Int) < 100) = true := decide_eq_true (by omega)
                go_wp2_with fail
                obtain ⟨x0, x1, x2, x3⟩ := (hb3.out.set4 (str []) (str []) (.int .i64 0) (.slice none 0 0)).cells4
                refine bodyPost_ret (v := .tuple #[.agg #[str [], str [], .int .i64 0, .slice none 0 0], .int .i64 0, .int .i64 2]) (by simp [results, Tryd.results11, go_sem, x0, x1, x2, x3]) rfl ?_
                rw [HT.out]
                exact headEnd_none _ _ 2 (Gr.st4 hGw (Nat.le_refl _) _ _ _ _)
              · have s1 : decide ((N : Int) < 100) = false := decide_eq_false (by omega)
                have s2 : decide (599 < (N : Int)) = true := decide_eq_true (by omega)
                go_wp2_with fail
                obtain ⟨x0, x1, x2, x3⟩ := (hb3.out.set4 (str []) (str []) (.int .i64 0) (.slice none 0 0)).cells4
                refine bodyPost_ret (v := .tuple #[.agg #[str [], str [], .int .i64 0, .slice none 0 0], .int .i64 0, .int .i64 2]) (by simp [results, Tryd.results11, go_sem, x0, x1, x2, x3]) rfl ?_
                rw [HT.out]
                exact headEnd_none _ _ 2 (Gr.st4 hGw (Nat.le_refl _) _ _ _ _)
  · have hfi := firstL_bad rfl he
    have HT := Lib.hid (tellR_bad hfi he)
    rw [hfi] at HF
    have hne : (((firstL s).2.2 : Int) != 0) = true := by simp; exact he
    generalize (firstL s).2.2 = en at *
    clear he hfi
    go_wp2_with (go_at_call 27; refine (HF.out _).mono ?_; rintro e w2 ⟨rfl, hG2⟩; have hb2 := Lib.hid (hb1.out.gr hG2); obtain ⟨y0, y1, y2, y3⟩ := hb2.out.cells4; obtain ⟨d0, d1, d2, d3⟩ := hb2.out.free4)
    obtain ⟨x0, x1, x2, x3⟩ := (hb2.out.set4 (str []) (str []) (.int .i64 0) (.slice none 0 0)).cells4
    refine bodyPost_ret (v := .tuple #[.agg #[str [], str [], .int .i64 0, .slice none 0 0], .int .i64 0, .int .i64 en]) (by simp [results, Tryd.results11, go_sem, x0, x1, x2, x3]) rfl ?_
    rw [HT.out]
    exact headEnd_none _ _ _ (Gr.st4 (Gr.tr hG1 hG2) (Nat.le_refl _) _ _ _ _)
end Go.Proofs.YtidijgofoklejaaDoor
