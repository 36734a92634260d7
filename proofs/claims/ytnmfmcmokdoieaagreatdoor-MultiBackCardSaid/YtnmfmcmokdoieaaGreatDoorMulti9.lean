/- Layer 11: the ranges of a body: multi.Read. A contract; conditions: the library's own variables hold what their types allow; a body of at most a thousand million bytes. -/
import Derived.Test.YtnmfmcmokdoieaaGreatDoorMulti8
set_option linter.unusedVariables false
set_option linter.unusedSimpArgs false
namespace Go.Proofs.YtnmfmcmokdoieaaGreatDoor
open Go.RowKit
set_option maxHeartbeats 8000000 in
set_option maxRecDepth 100000 in
theorem read_any (u : Value) (s0 bnd : List UInt8) (w : World) (hv : Vars w) (hu : Byts w u s0) (h0 : s0.length ≤ 1000000) (hbn : bnd.length ≤ 1000000) :
    Calls Tryz.prog 10 #[u, str bnd] w (ReadEnd w (multiL bnd s0)) := by
  have HV := Lib.hid (fun (x : World) (h : Gr w x) => hv.gr h); clear hv
  obtain ⟨A, c, rfl, hc, hm, _⟩ := hu.open
  have HU := Lib.hid hu; clear hu
  have HBN := Lib.hid (fun (w : World) => bounds_any bnd w (by omega))
  cases hb : boundB bnd with
  | false =>
    rw [hb] at HBN
    have HR := Lib.hid (multiL_no (s := s0) hb)
    go_enter Tryz.func10, Tryz.ntmps10
    go_wp2_with (go_at_call 15; refine (HBN.out _).mono ?_; rintro e w1 ⟨rfl, hG1⟩)
    go_ret2
    rw [HR.out]
    exact ⟨hG1, rfl⟩
  | true =>
    rw [hb] at HBN
    rw [multiL_eq hb]
    go_enter Tryz.func10, Tryz.ntmps10
    go_upto_region 4 with (go_at_call 15; refine (HBN.out _).mono ?_; rintro e w1 ⟨rfl, hG1⟩)
    have hbk := Bk.new w1 51 #[.slice A s0.length c, .int .i64 0] (0, 0)
    have hG2 := Gr.al (Gr.refl w1) (Obj.cells #[.slice A s0.length c, .int .i64 0] 51)
    have hown : s0 = [] ∨ ∀ b, (Value.slice A s0.length c).ownBlock = some b → b < w1.heap.size := by
      rcases HU.out with ⟨A', c', hv, _, _, hh⟩
      injection hv with e1 e2 e3
      subst e1 e3
      rcases hh with hh | ⟨b, o, rfl, hb, _⟩
      · left; exact List.map_eq_nil_iff.1 hh
      · right; intro b' e
        have : b = b' := by simpa [Value.ownBlock] using e
        have := hG1.size
        omega
    have hscan : Scan (w1.alloc (Obj.cells #[.slice A s0.length c, .int .i64 0] 51)) w1.heap.size s0 0 := ⟨A, c, hbk, HU.out.gr (Gr.tr hG1 hG2), hown⟩
    have hgw : w.heap.size ≤ w1.heap.size := hG1.size
    have hGw := Gr.tr hG1 hG2
    have hgl : w1.heap.size < (w1.alloc (Obj.cells #[.slice A s0.length c, .int .i64 0] 51)).heap.size := hbk.lt
    generalize hW0 : w1.alloc (Obj.cells #[.slice A s0.length c, .int .i64 0] 51) = W0 at *
    generalize w1.heap.size = g at *
    clear hW0 hbk hG2 hG1 hown HU HBN
    have hI0 : RdI w W0 g bnd s0 [] s0 0 (.slice none 0 0) W0 := ⟨Own.nil _ _ _ _, by simp, hscan, hGw, Nat.le_refl _, ⟨fun _ => ⟨by simp, rfl⟩, fun h => absurd rfl h⟩⟩
    have HI0 := Lib.hid hI0
    have hww : w.heap.size ≤ W0.heap.size := hGw.size
    clear hI0 hscan hGw
    go_wp2_with fail
    go_loopg [4, 5, 7, 8, 9] (s0.length + 2) (fun gk s4 s5 s7 s8 s9 wr => ∃ L s e, gk = (if e = 0 then s.length + 1 else 0) + 1 ∧ RdI w W0 g bnd s0 L s e s7 wr)
    case atStart => exact ⟨[], s0, 0, by simp, HI0.out⟩
    case round =>
      obtain ⟨L, s, e, hgk, hI⟩ := hrel
      have HI := Lib.hid hI
      obtain ⟨A1, c1, hrow⟩ := hI.row.form
      subst hrow
      obtain ⟨A2, c2, hb2, hy2, ho2⟩ := hI.scan
      obtain ⟨q0, q1⟩ := hb2.cells2
      obtain ⟨f0, f1⟩ := hb2.free2
      have HB2 := Lib.hid hb2; have HY2 := Lib.hid hy2; have HO2 := Lib.hid ho2
      clear hI hb2 hy2 ho2
      by_cases he : e = 0
      · subst he
        have hfw := (HI.out.all.1 rfl).1
        have HRG := Lib.hid (HI.out.all.1 rfl).2
        by_cases hL : L = []
        · subst hL
          obtain ⟨s1, hs1⟩ : ∃ s1, s1 = s := ⟨_, rfl⟩
          subst hs1
          obtain ⟨e1, he1⟩ : ∃ e1, e1 = 0 := ⟨_, rfl⟩
          have HS4 := Lib.hid HI.out.scan
          have hk4 := (Gr.refl wr).by (some g)
          rw [← he1] at HS4
          have HAP := Lib.hid (show aheadP [] s1 = (s1, e1) from by rw [he1]; rfl)
          clear he1
          simp only [List.length_nil] at *
          obtain ⟨t, s2, e2, hline⟩ : ∃ t s2 e2, lineS s1 e1 = (t, s2, e2) := ⟨_, _, _, rfl⟩
          have hlen := lineS_len s1 e1
          rw [hline] at hlen
          simp only at hlen
          have HLN := Lib.hid (line_eq hline)
          go_upto_region 12 with (go_at_call 19; refine (HLN.out _ _ HS4.out (HV.out _ (gr_by HI.out.gr hk4 hgw)).ml (by omega)).mono ?_; rintro e w5 ⟨rfl, hs5, hk5⟩; have HS5 := Lib.hid hs5; have hk5 := by_trans hk4 hk5; obtain ⟨A5, c5, hb5, hy5, ho5⟩ := hs5; obtain ⟨q0, q1⟩ := hb5.cells2; have HY5 := Lib.hid hy5; clear hb5 hy5 ho5)
          clear HS4 hk4 HLN
          have HST := Lib.hid (round_next (bnd := bnd) (out := []) (s := s1) (t := t) (s2 := s2) (e2 := e2) (fun h => absurd rfl h) (by rw [HAP.out]; exact hline) (fun hh => hh.2.1 rfl))
          rw [show (List.isEmpty ([] : List PieceT)) = true from rfl, show totOf [] = 0 from rfl] at HST
          clear hline HAP
          go_cut [50] (fun s50 wx => s50 = .bool false ∧ w5 = wx)
          case first =>
            by_cases h20 : e2 = 0
            · subst h20
              go_wp2_with fail
              go_meet
              exact ⟨rfl, rfl⟩
            · have k20 : ((e2 : Int) == 0) = false := by simpa using h20
              go_wp2_with fail
              go_meet
              exact ⟨rfl, rfl⟩
          case rest =>
            obtain ⟨rfl, rfl⟩ := hcut
            clear q0 q1
            go_upto_region 17 with (go_at_call 18; refine (scanMust_any _ _ _ _ _ HS5.out).mono ?_; rintro e w6 ⟨rfl, hs6, hk6⟩; have HS6 := Lib.hid (show Scan w6 g s2 (mustS (t == [45, 45] ++ bnd) e2) from hs6); have hk6 := by_trans hk5 hk6)
            have hI6 := HI.out.by hk6 hgl hgw HS6.out
            obtain ⟨ro6, by6, _, gr6⟩ := hI6
            replace ro6 : Own W0 w6 40 4 (.slice A1 0 c1) 0 [] := ro6
            have HRO := Lib.hid ro6; have HBY := Lib.hid by6
            have HP := Lib.hid (piece_any w6 g s2 (mustS (t == [45, 45] ++ bnd) e2) true 0 HS6.out (fun x hx => HV.out x (gr_by gr6 hx hgw)) (by omega))
            clear ro6 by6 hs6
            generalize mustS (t == [45, 45] ++ bnd) e2 = e3 at *
            cases hp : pieceE true 0 s2 e3 with
            | inl n =>
              rw [hp] at HP HST
              have hn := pieceE_ne hp
              have HR := Lib.hid (show readG bnd [] s0 = .inl n from by rw [← HRG.out]; exact readG_end HST.out)
              go_wp2_with (first
                | (go_at_call 20; refine HP.out.mono ?_; rintro e w7 ⟨hk7, l7, rfl, hs7⟩; have hro7 := own_kr HRO.out hk7 (.inr (own_ne HRO.out hgl)); have HS7 := Lib.hid hs7; have HR7 := Lib.hid hro7; have hz7 : W0.heap.size ≤ w7.heap.size := (by_trans hk6 hk7).size |> Nat.le_trans HI.out.szr; clear hs7 hro7)
                | (at_builtin; refine wpList_app1x (W0 := W0) (W := w7) elemPiece rfl _ _ rfl rfl rfl hz7 HR7.out rfl (one_piece _ _ _ _ _ _) (by omega) (by omega) ?_; intro v8 w8 hown8 happ8))
              go_roundg 1
              case measure => first | omega | (rw [hgk]; simp)
              case rel =>
                refine ⟨([] : List (PieceT × Value)) ++ [(((0, 0, 0), []), .slice none 0 0)], l7, n, by rw [if_neg hn], ?_⟩
                have hk78 := by_trans hk6 hk7
                have hI7 := HI.out.by hk78 hgl hgw HS7.out
                exact RdI.app hI7.1 hI7.2.1 hI7.2.2.1 hI7.2.2.2 hgl hz7 happ8 (by first | exact hown8 | simpa using hown8) (Own.nil _ _ _ _) hww ⟨fun h => absurd h hn, fun _ => HR.out⟩
            | inr x =>
              obtain ⟨p, r⟩ := x
              obtain ⟨⟨pf, pt, pn⟩, pb⟩ := p
              rw [hp] at HP HST
              have hless := (stepR_less HST.out).1
              have HR := Lib.hid (show readG bnd (([] : List (PieceT × Value)).map (·.1) ++ [((pf, pt, pn), pb)]) r = readG bnd [] s0 from by rw [← HRG.out]; exact (readG_step HST.out).symm)
              go_wp2_with (first
                | (go_at_call 20; refine HP.out.mono ?_; rintro e w7 ⟨hk7, v7, rfl, hs7, hw7⟩; have hro7 := own_kr HRO.out hk7 (.inr (own_ne HRO.out hgl)); obtain ⟨A7, c7, rfl⟩ := hw7.form; have HS7 := Lib.hid hs7; have HR7 := Lib.hid hro7; have HW7 := Lib.hid hw7; have hz7 : W0.heap.size ≤ w7.heap.size := (by_trans hk6 hk7).size |> Nat.le_trans HI.out.szr; clear hs7 hro7 hw7)
                | (at_builtin; refine wpList_app1x (W0 := W0) (W := w7) elemPiece rfl _ _ rfl rfl rfl hz7 HR7.out rfl (one_piece _ _ _ _ _ _) (by omega) (by omega) ?_; intro v8 w8 hown8 happ8))
              go_roundg (r.length + 2)
              case measure => first | omega | (rw [hgk]; simp; omega)
              case rel =>
                refine ⟨([] : List (PieceT × Value)) ++ [(((pf, pt, pn), pb), .slice A7 pb.length c7)], r, 0, by simp, ?_⟩
                have hk78 := by_trans hk6 hk7
                have hI7 := HI.out.by hk78 hgl hgw HS7.out
                refine RdI.app hI7.1 hI7.2.1 hI7.2.2.1 hI7.2.2.2 hgl hz7 happ8 (by first | exact hown8 | simpa using hown8) (own_base HW7.out (Nat.le_trans HI.out.szr hk6.size)) hww ⟨fun _ => ⟨by simp; omega, by rw [List.map_append]; exact HR.out⟩, fun h => absurd rfl h⟩
        · have hln : 0 < L.length := List.length_pos_iff.2 hL
          have HNE := Lib.hid (show L.map (·.1) ≠ [] from by simpa using hL)
          have dl : decide (0 < (L.length : Int)) = true := decide_eq_true (by omega)
          have dl0 : ((L.length : Int) == 0) = false := by simpa using hL
          clear hL
          by_cases h2 : s.length < 2
          · have d2 : decide ((s.length : Int) < 2) = true := decide_eq_true (by omega)
            have HR := Lib.hid (show readG bnd [] s0 = .inl 13 from by rw [← HRG.out]; exact readG_end (round_short HNE.out h2))
            go_wp2_with fail
            go_ret2
            rw [HR.out]
            exact ⟨HI.out.gr, rfl⟩
          · have d2 : decide ((s.length : Int) < 2) = false := decide_eq_false (by omega)
            go_upto_region 11 with (first
              | (refine wpList_slHi _ _ rfl rfl rfl rfl HY2.out ?_ ?_ ?_; omega; omega; intro A3 hA3; have HA3 := Lib.hid hA3; clear hA3)
              | (refine wpList_toStr _ rfl rfl rfl HA3.out ?_)
              | (go_at_call 18; refine (scanMust_any _ _ _ _ _ HI.out.scan).mono ?_; rintro e w3 ⟨rfl, hs3, hk3⟩; obtain ⟨A5, c5, hb5, hy5, ho5⟩ := hs3; obtain ⟨q0, q1⟩ := hb5.cells2; obtain ⟨f0, f1⟩ := hb5.free2; have HY5 := Lib.hid hy5; have HB5 := Lib.hid hb5; have HO5 := Lib.hid ho5; clear hb5 hy5 ho5)
              | (refine wpList_slLoB _ _ rfl rfl rfl rfl HY5.out ?_ ?_ ?_; omega; omega; intro A6 hA6 hO6; have HA6 := Lib.hid hA6; have HO6 := Lib.hid hO6; clear hA6 hO6))
            have hs4 : Scan (w3.setCell ⟨g, 0, none⟩ (.slice A6 (s.length - 2) (c5 - 2))) g (s.drop 2) (mustS (s.take 2 == [13, 10]) 0) := by
              have hx := HB5.out.set 0 (.slice A6 (s.length - 2) (c5 - 2))
              simp only [List.setIfInBounds_toArray, List.set_cons_zero] at hx
              have hne : s.drop 2 = [] ∨ ∀ b, (Value.slice A6 (s.length - 2) (c5 - 2)).ownBlock = some b → b < g := by
                rcases HO5.out with h | h
                · left; rw [h]; rfl
                · right; intro b hb; exact h b (HO6.out.symm.trans hb)
              refine ⟨A6, c5 - 2, ?_, ?_, ?_⟩
              · simp only [List.length_drop]; exact hx
              · simp only [List.length_drop]; exact HA6.out.stO hne (Nat.le_refl g) 0 _
              · simp only [List.length_drop]; exact hne
            have hk4 := by_st hk3 0 (.slice A6 (s.length - 2) (c5 - 2))
            have HS4 := Lib.hid hs4
            have HAP := Lib.hid (show aheadP (L.map (·.1)) s = (s.drop 2, mustS (s.take 2 == [13, 10]) 0) from if_neg HNE.out)
            have hl1 : (s.drop 2).length ≤ s.length := by rw [List.length_drop]; omega
            generalize w3.setCell ⟨g, 0, none⟩ (.slice A6 (s.length - 2) (c5 - 2)) = w4 at *
            generalize s.drop 2 = s1 at *
            generalize mustS (s.take 2 == [13, 10]) 0 = e1 at *
            clear hs4 hk3 HB5 HY5 HO5 HA6 HO6 HA3
            obtain ⟨t, s2, e2, hline⟩ : ∃ t s2 e2, lineS s1 e1 = (t, s2, e2) := ⟨_, _, _, rfl⟩
            have hlen := lineS_len s1 e1
            rw [hline] at hlen
            simp only at hlen
            have HLN := Lib.hid (line_eq hline)
            go_upto_region 12 with (go_at_call 19; refine (HLN.out _ _ HS4.out (HV.out _ (gr_by HI.out.gr hk4 hgw)).ml (by omega)).mono ?_; rintro e w5 ⟨rfl, hs5, hk5⟩; have HS5 := Lib.hid hs5; have hk5 := by_trans hk4 hk5; obtain ⟨A5, c5, hb5, hy5, ho5⟩ := hs5; obtain ⟨q0, q1⟩ := hb5.cells2; have HY5 := Lib.hid hy5; clear hb5 hy5 ho5)
            clear HS4 hk4 HLN
            by_cases hcl : e2 = 0 ∧ t = [45, 45] ++ bnd ++ [45, 45]
            · obtain ⟨rfl, ht⟩ := hcl
              have kt : (t == [45, 45] ++ bnd ++ [45, 45]) = true := by simpa using ht
              have kt2 : (t == 45 :: 45 :: (bnd ++ [45, 45])) = true := by simpa using ht
              have HST := Lib.hid (round_last (bnd := bnd) (t := t) (s2 := s2) HNE.out h2 (by rw [HAP.out]; exact hline) ht)
              clear ht hline
              by_cases hs2 : s2 = []
              · have HR := Lib.hid (show readG bnd [] s0 = .inr (L.map (·.1)) from by rw [← HRG.out, readG_end HST.out, if_pos hs2])
                subst hs2
                go_wp2_with fail
                go_ret2
                rw [HR.out]
                have hI5 := HI.out.by hk5 hgl hgw HS5.out
                exact ⟨hI5.2.2.2, _, rfl, L, rfl, hI5.1.sl (by decide), fun x hx => own_byts (hI5.2.1 x hx)⟩
              · have HR := Lib.hid (show readG bnd [] s0 = .inl 2 from by rw [← HRG.out, readG_end HST.out, if_neg hs2])
                have kz : 0 < s2.length := List.length_pos_iff.2 hs2
                clear hs2
                go_wp2_with fail
                go_ret2
                rw [HR.out]
                exact ⟨(HI.out.by hk5 hgl hgw HS5.out).2.2.2, rfl⟩
            have HST := Lib.hid (round_next (bnd := bnd) (out := L.map (·.1)) (s := s) (t := t) (s2 := s2) (e2 := e2) (fun _ => h2) (by rw [HAP.out]; exact hline) (fun hh => hcl ⟨hh.1, hh.2.2⟩))
            rw [show (L.map (·.1)).isEmpty = false from by cases L with | nil => simp at hln | cons a b => rfl] at HST
            clear hline HAP
            go_cut [50] (fun s50 wx => s50 = .bool false ∧ w5 = wx)
            case first =>
              by_cases h20 : e2 = 0
              · subst h20
                have kt : (t == [45, 45] ++ bnd ++ [45, 45]) = false := by simpa using fun h => hcl ⟨rfl, by simpa using h⟩
                have kt2 : (t == 45 :: 45 :: (bnd ++ [45, 45])) = false := by simpa using fun h => hcl ⟨rfl, by simpa using h⟩
                go_wp2_with fail
                go_meet
                exact ⟨rfl, rfl⟩
              · have k20 : ((e2 : Int) == 0) = false := by simpa using h20
                go_wp2_with fail
                go_meet
                exact ⟨rfl, rfl⟩
            case rest =>
              obtain ⟨rfl, rfl⟩ := hcut
              clear q0 q1
              go_upto_region 17 with (go_at_call 18; refine (scanMust_any _ _ _ _ _ HS5.out).mono ?_; rintro e w6 ⟨rfl, hs6, hk6⟩; have HS6 := Lib.hid (show Scan w6 g s2 (mustS (t == [45, 45] ++ bnd) e2) from hs6); have hk6 := by_trans hk5 hk6)
              have hI6 := HI.out.by hk6 hgl hgw HS6.out
              obtain ⟨ro6, by6, _, gr6⟩ := hI6
              have HRO := Lib.hid ro6; have HBY := Lib.hid by6
              have HP := Lib.hid (piece_any w6 g s2 (mustS (t == [45, 45] ++ bnd) e2) false (totOf (L.map (·.1))) HS6.out (fun x hx => HV.out x (gr_by gr6 hx hgw)) (by omega))
              obtain ⟨ba, hba, hca⟩ := rd_at ro6 hln
              subst hba
              have y2 := rd_get ro6 (flatQ_tot hln)
              clear ro6 by6 hs6
              generalize mustS (t == [45, 45] ++ bnd) e2 = e3 at *
              cases hp : pieceE false (totOf (L.map (·.1))) s2 e3 with
              | inl n =>
                rw [hp] at HP HST
                have hn := pieceE_ne hp
                have HR := Lib.hid (show readG bnd [] s0 = .inl n from by rw [← HRG.out]; exact readG_end HST.out)
                go_wp2_with (first
                  | (go_at_call 20; refine HP.out.mono ?_; rintro e w7 ⟨hk7, l7, rfl, hs7⟩; have hro7 := own_kr HRO.out hk7 (.inr (own_ne HRO.out hgl)); have HS7 := Lib.hid hs7; have HR7 := Lib.hid hro7; have hz7 : W0.heap.size ≤ w7.heap.size := (by_trans hk6 hk7).size |> Nat.le_trans HI.out.szr; clear hs7 hro7)
                  | (at_builtin; refine wpList_app1x (W0 := W0) (W := w7) elemPiece rfl _ _ rfl rfl rfl hz7 HR7.out rfl (one_piece _ _ _ _ _ _) (by omega) (by omega) ?_; intro v8 w8 hown8 happ8))
                go_roundg 1
                case measure => first | omega | (rw [hgk]; simp)
                case rel =>
                  refine ⟨L ++ [(((0, 0, 0), []), .slice none 0 0)], l7, n, by rw [if_neg hn], ?_⟩
                  have hk78 := by_trans hk6 hk7
                  have hI7 := HI.out.by hk78 hgl hgw HS7.out
                  exact RdI.app hI7.1 hI7.2.1 hI7.2.2.1 hI7.2.2.2 hgl hz7 happ8 (by first | exact hown8 | simpa using hown8) (Own.nil _ _ _ _) hww ⟨fun h => absurd h hn, fun _ => HR.out⟩
              | inr x =>
                obtain ⟨p, r⟩ := x
                obtain ⟨⟨pf, pt, pn⟩, pb⟩ := p
                rw [hp] at HP HST
                have hless := (stepR_less HST.out).1
                have HR := Lib.hid (show readG bnd (L.map (·.1) ++ [((pf, pt, pn), pb)]) r = readG bnd [] s0 from by rw [← HRG.out]; exact (readG_step HST.out).symm)
                go_wp2_with (first
                  | (go_at_call 20; refine HP.out.mono ?_; rintro e w7 ⟨hk7, v7, rfl, hs7, hw7⟩; have hro7 := own_kr HRO.out hk7 (.inr (own_ne HRO.out hgl)); obtain ⟨A7, c7, rfl⟩ := hw7.form; have HS7 := Lib.hid hs7; have HR7 := Lib.hid hro7; have HW7 := Lib.hid hw7; have hz7 : W0.heap.size ≤ w7.heap.size := (by_trans hk6 hk7).size |> Nat.le_trans HI.out.szr; clear hs7 hro7 hw7)
                  | (at_builtin; refine wpList_app1x (W0 := W0) (W := w7) elemPiece rfl _ _ rfl rfl rfl hz7 HR7.out rfl (one_piece _ _ _ _ _ _) (by omega) (by omega) ?_; intro v8 w8 hown8 happ8))
                go_roundg (r.length + 2)
                case measure => first | omega | (rw [hgk]; simp; omega)
                case rel =>
                  refine ⟨L ++ [(((pf, pt, pn), pb), .slice A7 pb.length c7)], r, 0, by simp, ?_⟩
                  have hk78 := by_trans hk6 hk7
                  have hI7 := HI.out.by hk78 hgl hgw HS7.out
                  refine RdI.app hI7.1 hI7.2.1 hI7.2.2.1 hI7.2.2.2 hgl hz7 happ8 (by first | exact hown8 | simpa using hown8) (own_base HW7.out (Nat.le_trans HI.out.szr hk6.size)) hww ⟨fun _ => ⟨by simp; omega, by rw [List.map_append]; exact HR.out⟩, fun h => absurd rfl h⟩
      · have hn : ((e : Int) == 0) = false := by simp; exact he
        have HR := Lib.hid (HI.out.all.2 he)
        go_upto_region 21 with fail
        have k1 := fun i => Gr.cell (gw_gr wr i) q1
        refine wp_region_gw (by kernel_rfl) (by kernel_rfl) ?_
        repeat (first | go_big_quiet_step (fail) | quiet_step (fail))
        refine wpQuiet_nil ?_; intro wq hwq; obtain ⟨iq, rfl⟩ := hwq
        go_wp2_with fail
        go_ret2
        rw [HR.out]
        exact ⟨Gr.tr HI.out.gr (gw_gr _ _), rfl⟩
end Go.Proofs.YtnmfmcmokdoieaaGreatDoor
