/- Layer 45: the request of bytes, by the document. A contract; conditions: not too many bytes. -/
import Derived.Test.YtcfefflnebkjnaaGreatDoorGate6H
set_option linter.unusedVariables false
set_option linter.unusedSimpArgs false
namespace Go.Proofs.YtcfefflnebkjnaaGreatDoor
open Go.RowKit
set_option maxHeartbeats 16000000 in
set_option maxRecDepth 100000 in
theorem refAsk45_any (v : Value) (s : List UInt8) (w : World) (hb : Byts w v s) (hs : s.length ≤ 100000) : Calls Tryz.prog 13 #[v] w (AskEnd w (askQ s)) := by
  obtain ⟨Av, cv, rfl, _, _, _⟩ := id hb
  have HBY := Lib.hid (fun (x : World) (g : Gr w x) => hb.gr g)
  have HH := Lib.hid (fun (x : World) => refAsk_any s x (by omega))
  have H31 := Lib.hid (askR_right s)
  have HQ := Lib.hid (show askQ s = if (askR s).2.2 = 0 then askF (askR s).1 (askR s).2.1 else (ReqT.zero, 0, (askR s).2.2) from rfl)
  generalize askQ s = Q at *
  generalize askR s = R at *
  obtain ⟨⟨m, o, st, fs⟩, n, e⟩ := R
  clear hb
  go_enter Tryz.func13, Tryz.ntmps13
  go_upto_region 1 with fail
  have hbr := Bk.new w 31 #[.bool false, str [], .slice none 0 0, .slice none 0 0, .slice none 0 0, .bool false, .bool false, .int .i64 0, .int .i64 0, str [], .bool false] (0, 0)
  have hG0 := Gr.al (Gr.refl w) (Obj.cells #[.bool false, str [], .slice none 0 0, .slice none 0 0, .slice none 0 0, .bool false, .bool false, .int .i64 0, .int .i64 0, str [], .bool false] 31)
  obtain ⟨gr, hgg⟩ : ∃ g, g = w.heap.size := ⟨_, rfl⟩
  rw [← hgg] at hbr ⊢
  have HGG := Lib.hid (show w.heap.size ≤ gr from Nat.le_of_eq hgg.symm)
  clear hgg
  generalize w.alloc (Obj.cells #[.bool false, str [], .slice none 0 0, .slice none 0 0, .slice none 0 0, .bool false, .bool false, .int .i64 0, .int .i64 0, str [], .bool false] 31) = w0' at *
  have hgr0 := hbr.lt
  go_upto_region 2 with fail
  have hbn := Bk.new w0' 31 #[.bool false, str [], .slice none 0 0, .slice none 0 0, .slice none 0 0, .bool false, .bool false, .int .i64 0, .int .i64 0, str [], .bool false] (0, 0)
  have hGn := Gr.al (Gr.refl w0') (Obj.cells #[.bool false, str [], .slice none 0 0, .slice none 0 0, .slice none 0 0, .bool false, .bool false, .int .i64 0, .int .i64 0, str [], .bool false] 31)
  have HRN := Lib.hid (show gr < w0'.heap.size from hgr0)
  generalize w0'.alloc (Obj.cells #[.bool false, str [], .slice none 0 0, .slice none 0 0, .slice none 0 0, .bool false, .bool false, .int .i64 0, .int .i64 0, str [], .bool false] 31) = w0 at *
  generalize w0'.heap.size = gn at *
  have HBR := Lib.hid (fun (x : World) (g : Gr w0 x) => hbr.gr (Gr.tr hGn g))
  have HBN := Lib.hid (fun (x : World) (g : Gr w0 x) => hbn.gr g)
  have HR0 := Lib.hid (show gr < w0.heap.size from Nat.lt_trans HRN.out hbn.lt)
  have HG0 := Lib.hid (Gr.tr hG0 hGn)
  have HBY0 := Lib.hid (HBY.out _ HG0.out)
  clear hbr hbn hG0 hGn hgr0 HBY
  go_upto_region 3 with (first
    | (refine wpList_toStr _ rfl rfl rfl HBY0.out ?_)
    | (go_at_call 44; refine (HH.out _).mono ?_; rintro e1 w1 ⟨A1, c1, rfl, hF1, hG1, hR1⟩; have HF1 := Lib.hid hF1; clear hF1 hR1))
  have hb2 := Bk.new w1 69 #[str m, str o, .int .i64 st, .slice A1 fs.length c1] (0, 0)
  have hG2 := Gr.al (Gr.refl w1) (Obj.cells #[str m, str o, .int .i64 st, .slice A1 fs.length c1] 69)
  have HF2 := Lib.hid (HF1.out.gr hG2)
  have hG02 := Gr.tr hG1 hG2
  generalize w1.alloc (Obj.cells #[str m, str o, .int .i64 st, .slice A1 fs.length c1] 69) = w2 at *
  generalize w1.heap.size = gh at *
  have r0 : ∀ x, Gr w2 x → x.cell? ⟨gh, 0, none⟩ = some (str m) := fun x h => (hb2.gr h).cell 0
  have r1 : ∀ x, Gr w2 x → x.cell? ⟨gh, 1, none⟩ = some (str o) := fun x h => (hb2.gr h).cell 1
  have r3 : ∀ x, Gr w2 x → x.cell? ⟨gh, 3, none⟩ = some (.slice A1 fs.length c1) := fun x h => (hb2.gr h).cell 3
  have h22 : Gr w2 w2 := Gr.refl w2
  clear hb2 hG1 hG2 HF1 HH HBY0
  by_cases he : e = 0
  · subst he
    have HQ := Lib.hid (show Q = askF (m, o, st, fs) n from by rw [HQ.out, if_pos rfl])
    have HMD := Lib.hid (mid_of H31.out)
    have HG02 := Lib.hid hG02
    clear H31 hG02
    have HOF := Lib.hid (fun (x : World) (nm : List UInt8) (hn : nm.length ≤ 1000) (g : Gr w2 x) => refOf_any _ fs nm x (HF2.out.gr g) HMD.out.short (by omega) (by have := HMD.out.few; omega))
    have HO0 := Lib.hid (HOF.out w2 codingN (by decide) h22)
    have HL0 := Lib.hid (HMD.out.ofLen codingN)
    by_cases h1 : ofN fs codingN = []
    · have HQ0 := Lib.hid (fun (h : (ofN fs lengthN).all (· == [48]) = false) => show Q = (ReqT.zero, 0, 2) from HQ.out.trans (askF_sized h1 h))
      have HQ1 := Lib.hid (fun (h : (ofN fs lengthN).all (· == [48]) = true) => show Q = if (condP fs).2 ≠ 0 then (ReqT.zero, 0, (condP fs).2) else ((m == headB, o, rngV (ofN fs rngN), (condP fs).1), n, 0) from HQ.out.trans (askF_good h1 h))
      rw [h1] at HO0
      clear HQ h1 HL0
      go_upto_region 7 with (go_at_call 45; refine HO0.out.mono ?_; rintro e3 w3 ⟨v3, rfl, hS3, hG3⟩; obtain ⟨A3, c3, rfl, -, -, -⟩ := hS3.open; clear hS3)
      clear HO0
      have HO1 := Lib.hid (HOF.out w3 lengthN (by decide) hG3)
      have HB1 := Lib.hid (HMD.out.ofB lengthN)
      have HL1 := Lib.hid (HMD.out.ofLen lengthN)
      generalize ofN fs lengthN = vs at *
      go_upto_region 9 with (go_at_call 45; refine HO1.out.mono ?_; rintro e4 w4 ⟨v4, rfl, hS4, hG4⟩; obtain ⟨A4, c4, rfl, hc4, hx4, hA4⟩ := hS4.open; have HA4 := Lib.hid hA4; clear hS4 hA4)
      clear HO1
      have hG24 := Gr.tr hG3 hG4
      have hvl := HL1.out
      clear hG3 hG4
      go_loopw [10] (fun i wr => ∃ k : Nat, k ≤ vs.length ∧ i = .int .i64 k ∧ Gr w4 wr ∧ (vs.take k).all (· == [48]) = true) (fun i _ => vs.length - (intOf i).toNat)
      case atStart => exact ⟨0, Nat.zero_le _, rfl, Gr.refl _, rfl⟩
      case round =>
        obtain ⟨k, hk, rfl, hG, hE⟩ := hrel
        have HE := Lib.hid hE
        clear hE
        by_cases hlt : k < vs.length
        · obtain ⟨b5, o5, rfl, hb5, p5⟩ := HA4.out k hlt
          have p5 := Gr.cell hG p5
          have HB5 := Lib.hid (HB1.out _ (List.getElem_mem hlt))
          cases hz : (vs[k] == [48]) with
          | true =>
            have HS := Lib.hid (all_take_succ _ vs k hlt HE.out hz)
            go_wp2_with fail
            exact ⟨⟨k + 1, by omega, by go_num, hG, HS.out⟩, by simp [intOf]; omega⟩
          | false =>
            have HX := Lib.hid (HQ0.out (by rw [List.all_eq_false]; exact ⟨vs[k], List.getElem_mem hlt, by simp [hz]⟩))
            have HGX := Lib.hid (Gr.tr HG02.out (Gr.tr hG24 hG))
            clear HQ0 HQ1 HE
            go_upto_region 12 with fail
            have hbz := HBR.out _ (Gr.tr HG02.out (Gr.tr hG24 hG))
            have hbn := HBN.out _ (Gr.tr HG02.out (Gr.tr hG24 hG))
            generalize hww : wr = wx at *
            clear hww
            have az0 : wx.cell? ⟨gr, 0, none⟩ = some (.bool false) := hbz.cell 0
            have af0 := hbz.free 0 (.inr (Nat.zero_le _))
            have az1 : wx.cell? ⟨gr, 1, none⟩ = some (str []) := hbz.cell 1
            have af1 := hbz.free 1 (.inr (Nat.zero_le _))
            have az2 : wx.cell? ⟨gr, 2, none⟩ = some (.slice none 0 0) := hbz.cell 2
            have af2 := hbz.free 2 (.inr (Nat.zero_le _))
            have az3 : wx.cell? ⟨gr, 3, none⟩ = some (.slice none 0 0) := hbz.cell 3
            have af3 := hbz.free 3 (.inr (Nat.zero_le _))
            have az4 : wx.cell? ⟨gr, 4, none⟩ = some (.slice none 0 0) := hbz.cell 4
            have af4 := hbz.free 4 (.inr (Nat.zero_le _))
            have az5 : wx.cell? ⟨gr, 5, none⟩ = some (.bool false) := hbz.cell 5
            have af5 := hbz.free 5 (.inr (Nat.zero_le _))
            have az6 : wx.cell? ⟨gr, 6, none⟩ = some (.bool false) := hbz.cell 6
            have af6 := hbz.free 6 (.inr (Nat.zero_le _))
            have az7 : wx.cell? ⟨gr, 7, none⟩ = some (.int .i64 0) := hbz.cell 7
            have af7 := hbz.free 7 (.inr (Nat.zero_le _))
            have az8 : wx.cell? ⟨gr, 8, none⟩ = some (.int .i64 0) := hbz.cell 8
            have af8 := hbz.free 8 (.inr (Nat.zero_le _))
            have az9 : wx.cell? ⟨gr, 9, none⟩ = some (str []) := hbz.cell 9
            have af9 := hbz.free 9 (.inr (Nat.zero_le _))
            have az10 : wx.cell? ⟨gr, 10, none⟩ = some (.bool false) := hbz.cell 10
            have af10 := hbz.free 10 (.inr (Nat.zero_le _))
            have nz0 : wx.cell? ⟨gn, 0, none⟩ = some (.bool false) := hbn.cell 0
            have nz1 : wx.cell? ⟨gn, 1, none⟩ = some (str []) := hbn.cell 1
            have nz2 : wx.cell? ⟨gn, 2, none⟩ = some (.slice none 0 0) := hbn.cell 2
            have nz3 : wx.cell? ⟨gn, 3, none⟩ = some (.slice none 0 0) := hbn.cell 3
            have nz4 : wx.cell? ⟨gn, 4, none⟩ = some (.slice none 0 0) := hbn.cell 4
            have nz5 : wx.cell? ⟨gn, 5, none⟩ = some (.bool false) := hbn.cell 5
            have nz6 : wx.cell? ⟨gn, 6, none⟩ = some (.bool false) := hbn.cell 6
            have nz7 : wx.cell? ⟨gn, 7, none⟩ = some (.int .i64 0) := hbn.cell 7
            have nz8 : wx.cell? ⟨gn, 8, none⟩ = some (.int .i64 0) := hbn.cell 8
            have nz9 : wx.cell? ⟨gn, 9, none⟩ = some (str []) := hbn.cell 9
            have nz10 : wx.cell? ⟨gn, 10, none⟩ = some (.bool false) := hbn.cell 10
            go_wp2_with fail
            refine at_world (P := bodyPost _ _ _ _ _) (w0 := putCs wx gr zq 0) ?_
            intro wy hwy
            have hy : Bk wy gr 31 #[.bool false, str [], .slice none 0 0, .slice none 0 0, .slice none 0 0, .bool false, .bool false, .int .i64 0, .int .i64 0, str [], .bool false] (0, 0) := by rw [hwy]; exact putCs_bk hbz rfl
            have yz0 : wy.cell? ⟨gr, 0, none⟩ = some (.bool false) := hy.cell 0
            have yz1 : wy.cell? ⟨gr, 1, none⟩ = some (str []) := hy.cell 1
            have yz2 : wy.cell? ⟨gr, 2, none⟩ = some (.slice none 0 0) := hy.cell 2
            have yz3 : wy.cell? ⟨gr, 3, none⟩ = some (.slice none 0 0) := hy.cell 3
            have yz4 : wy.cell? ⟨gr, 4, none⟩ = some (.slice none 0 0) := hy.cell 4
            have yz5 : wy.cell? ⟨gr, 5, none⟩ = some (.bool false) := hy.cell 5
            have yz6 : wy.cell? ⟨gr, 6, none⟩ = some (.bool false) := hy.cell 6
            have yz7 : wy.cell? ⟨gr, 7, none⟩ = some (.int .i64 0) := hy.cell 7
            have yz8 : wy.cell? ⟨gr, 8, none⟩ = some (.int .i64 0) := hy.cell 8
            have yz9 : wy.cell? ⟨gr, 9, none⟩ = some (str []) := hy.cell 9
            have yz10 : wy.cell? ⟨gr, 10, none⟩ = some (.bool false) := hy.cell 10
            refine bodyPost_ret (v := .tuple #[.agg #[.bool false, str [], .slice none 0 0, .slice none 0 0, .slice none 0 0, .bool false, .bool false, .int .i64 0, .int .i64 0, str [], .bool false], .int .i64 0, .int .i64 2]) (by simp [results, Tryz.results13, go_sem, yz0, yz1, yz2, yz3, yz4, yz5, yz6, yz7, yz8, yz9, yz10]) rfl ?_
            rw [HX.out, hwy]
            exact ask_zero _ (Gr.tr HG0.out (HGX.out)) HGG.out
        · have hvk : vs.take k = vs := List.take_of_length_le (by omega)
          have HQ2 := Lib.hid (HQ1.out (by have := HE.out; rwa [hvk] at this))
          clear HQ0 HQ1 HE hvk HA4 HB1
          have hG2r := Gr.tr hG24 hG
          have HCP := Lib.hid (fun (x : World) (g : Gr w2 x) => refCondParse_any _ fs x (HF2.out.gr g) HMD.out)
          generalize condP fs = CP at *
          obtain ⟨C, ec⟩ := CP
          have HRR := Lib.hid (show gr < wr.heap.size from Nat.lt_of_lt_of_le HR0.out (Gr.tr HG02.out hG2r).size)
          go_upto_region 14 with (go_at_call 46; refine (HCP.out _ hG2r).mono ?_; rintro e9 w9 hce; obtain ⟨A7, c7, A8, c8, rfl, hT7, hT8, hG9, hR7, hR8⟩ := condEndX hce; clear hce; have HT7 := Lib.hid hT7; have HT8 := Lib.hid hT8; have HFR7 := Lib.hid (Fresh.tr (Gr.tr HG0.out (Gr.tr HG02.out hG2r)) hR7); have HFR8 := Lib.hid (Fresh.tr (Gr.tr HG0.out (Gr.tr HG02.out hG2r)) hR8); have HN7 := Lib.hid (specs_ne hR7 HRR.out); have HN8 := Lib.hid (specs_ne hR8 HRR.out); clear hT7 hT8 hR7 hR8)
          have hG29 := Gr.tr hG2r hG9
          have hbc := Bk.new w9 29 #[.slice A7 C.mt.length c7, .slice A8 C.no.length c8, .bool C.am, .bool C.an, .int .i64 C.si, .int .i64 C.un, str C.rg.1, .bool C.rg.2] (0, 0)
          have hGc := Gr.al (Gr.refl w9) (Obj.cells #[.slice A7 C.mt.length c7, .slice A8 C.no.length c8, .bool C.am, .bool C.an, .int .i64 C.si, .int .i64 C.un, str C.rg.1, .bool C.rg.2] 29)
          have hG210 := Gr.tr hG29 hGc
          generalize w9.alloc (Obj.cells #[.slice A7 C.mt.length c7, .slice A8 C.no.length c8, .bool C.am, .bool C.an, .int .i64 C.si, .int .i64 C.un, str C.rg.1, .bool C.rg.2] 29) = w10 at *
          generalize w9.heap.size = gc at *
          have HT7 := Lib.hid (HT7.out.gr hGc)
          have HT8 := Lib.hid (HT8.out.gr hGc)
          clear hG hG24 hG2r hG9 hG29 hGc HCP
          by_cases hec : ec = 0
          · subst hec
            have d4 : ((((0 : Nat) : Int)) != 0) = false := rfl
            have HX0 := Lib.hid (show Q = ((m == headB, o, rngV (ofN fs rngN), C), n, 0) from by rw [HQ2.out]; rfl)
            clear HQ2
            have cz0 : w10.cell? ⟨gc, 0, none⟩ = some (.slice A7 C.mt.length c7) := hbc.cell 0
            have cz1 : w10.cell? ⟨gc, 1, none⟩ = some (.slice A8 C.no.length c8) := hbc.cell 1
            have cz2 : w10.cell? ⟨gc, 2, none⟩ = some (.bool C.am) := hbc.cell 2
            have cz3 : w10.cell? ⟨gc, 3, none⟩ = some (.bool C.an) := hbc.cell 3
            have cz4 : w10.cell? ⟨gc, 4, none⟩ = some (.int .i64 C.si) := hbc.cell 4
            have cz5 : w10.cell? ⟨gc, 5, none⟩ = some (.int .i64 C.un) := hbc.cell 5
            have cz6 : w10.cell? ⟨gc, 6, none⟩ = some (str C.rg.1) := hbc.cell 6
            have cz7 : w10.cell? ⟨gc, 7, none⟩ = some (.bool C.rg.2) := hbc.cell 7
            go_upto_region 17 with fail
            clear cz0 cz1 cz2 cz3 cz4 cz5 cz6 cz7
            refine at_world (P := Code.wp _ _ _ _) (w0 := w10.alloc (Obj.cells #[.bool (m == headB), str o, .slice none 0 0, .slice A7 C.mt.length c7, .slice A8 C.no.length c8, .bool C.am, .bool C.an, .int .i64 C.si, .int .i64 C.un, str C.rg.1, .bool C.rg.2] 31)) ?_
            intro wq hwq
            have hbq : Bk wq w10.heap.size 31 #[.bool (m == headB), str o, .slice none 0 0, .slice A7 C.mt.length c7, .slice A8 C.no.length c8, .bool C.am, .bool C.an, .int .i64 C.si, .int .i64 C.un, str C.rg.1, .bool C.rg.2] (0, 0) := by rw [hwq]; exact Bk.new w10 31 #[.bool (m == headB), str o, .slice none 0 0, .slice A7 C.mt.length c7, .slice A8 C.no.length c8, .bool C.am, .bool C.an, .int .i64 C.si, .int .i64 C.un, str C.rg.1, .bool C.rg.2] (0, 0)
            have hGq : Gr w10 wq := by rw [hwq]; exact Gr.al (Gr.refl w10) _
            clear hwq
            have hgq2 : w2.heap.size ≤ w10.heap.size := hG210.size
            have HRQ := Lib.hid (show gr < w10.heap.size from Nat.lt_of_lt_of_le HR0.out (Gr.tr HG02.out hG210).size)
            have hG2q := Gr.tr hG210 hGq
            clear hbc
            obtain ⟨gq, hgq⟩ : ∃ g, g = w10.heap.size := ⟨_, rfl⟩
            rw [← hgq] at hbq hgq2 HRQ ⊢
            have HGQ := Lib.hid (show w10.heap.size ≤ gq from Nat.le_of_eq hgq.symm)
            clear hgq
            have hlq := hbq.lt
            have HO2 := Lib.hid (HOF.out wq rngN (by decide) hG2q)
            have HB2 := Lib.hid (HMD.out.ofB rngN)
            have HL2 := Lib.hid (HMD.out.ofLen rngN)
            clear HOF HMD HF2
            generalize ofN fs rngN = rs at *
            go_upto_region 18 with (go_at_call 45; refine HO2.out.mono ?_; rintro e11 w11 ⟨v11, rfl, hS11, hG11⟩; obtain ⟨A11, c11, rfl, hc11, hx11, hA11⟩ := hS11.open; have HAC11 := Lib.hid hA11; clear hS11 hA11)
            have hbq11 := hbq.gr hG11
            have hG211 := Gr.tr hG2q hG11
            have HA11 := Lib.hid (Gr.tr hGq hG11)
            have HM11 := Lib.hid (HT7.out.gr HA11.out)
            have HO11 := Lib.hid (HT8.out.gr HA11.out)
            have hlq11 := Nat.lt_of_lt_of_le hlq hG11.size
            clear hbq HO2 hGq
            have hrl := HL2.out
            by_cases h1r : rs.length = 1
            · obtain ⟨x, rfl⟩ : ∃ x, rs = [x] := List.length_eq_one_iff.1 h1r
              obtain ⟨b12, o12, rfl, hb12, p12⟩ := HAC11.out 0 (by simp)
              simp only [List.getElem_cons_zero, Nat.add_zero] at p12
              have HSP := Lib.hid (refSpecParse_any x w11 (by have := HB2.out x (List.mem_singleton.2 rfl); omega))
              have HRV := Lib.hid (show rngV [x] = if (specP x).2 = 0 then (specP x).1 else [] from rfl)
              rw [HRV.out] at HX0
              clear HRV h1r HL2 HB2 HAC11
              generalize specP x = SX at *
              obtain ⟨sl, es⟩ := SX
              go_upto_region 20 with (go_at_call 47; refine HSP.out.mono ?_; rintro e13 w13 ⟨v13, rfl, hS13, hG13, hR13⟩; have HS13 := Lib.hid hS13; have HFR13 := Lib.hid (Fresh.tr (Gr.tr HG0.out (Gr.tr HG02.out hG211)) hR13); have HN13 := Lib.hid (specs_ne hR13 (Nat.lt_trans HRQ.out hlq11)); have HQ13 := Lib.hid (specs_ne hR13 hlq11); clear hS13 hR13)
              have hbq13 := hbq11.gr hG13
              have hG213 := Gr.tr hG211 hG13
              have HM13 := Lib.hid (HM11.out.gr hG13)
              have HO13 := Lib.hid (HO11.out.gr hG13)
              clear HM11 HO11 hbq11 HSP
              by_cases hes : es = 0
              · subst hes
                obtain ⟨A13, c13, rfl, -, -, -⟩ := HS13.out.open
                have HX := Lib.hid (show Q = ((m == headB, o, sl, C), n, 0) from by rw [HX0.out]; rfl)
                clear HX0
                have zz2 : w13.cell? ⟨gq, 2, none⟩ = some (.slice none 0 0) := hbq13.cell 2
                have zf2 := hbq13.free 2 (.inr (Nat.zero_le _))
                go_upto_region 22 with fail
                have hbq14 := hbq13.set 2 (.slice A13 sl.length c13)
                have HM14 := Lib.hid (show Tags (w13.setCell ⟨gq, 2, none⟩ (.slice A13 sl.length c13)) (.slice A7 C.mt.length c7) C.mt from HT7.out.gr ((Gr.tr HA11.out hG13).st (p := ⟨gq, 2, none⟩) HGQ.out _))
                have HO14 := Lib.hid (show Tags (w13.setCell ⟨gq, 2, none⟩ (.slice A13 sl.length c13)) (.slice A8 C.no.length c8) C.no from HT8.out.gr ((Gr.tr HA11.out hG13).st (p := ⟨gq, 2, none⟩) HGQ.out _))
                have HS14 := Lib.hid (show Specs (w13.setCell ⟨gq, 2, none⟩ (.slice A13 sl.length c13)) (.slice A13 sl.length c13) sl from Sl.st HS13.out HQ13.out _ _)
                have hG214 : Gr w2 (w13.setCell ⟨gq, 2, none⟩ (.slice A13 sl.length c13)) := hG213.st (p := ⟨gq, 2, none⟩) hgq2 _
                clear hbq13 HM13 HO13 HS13 hG213 zz2 zf2
                generalize w13.setCell ⟨gq, 2, none⟩ (.slice A13 sl.length c13) = w14 at *
                have hbq14 : Bk w14 gq 31 #[.bool (m == headB), str o, .slice A13 sl.length c13, .slice A7 C.mt.length c7, .slice A8 C.no.length c8, .bool C.am, .bool C.an, .int .i64 C.si, .int .i64 C.un, str C.rg.1, .bool C.rg.2] (0, 0) := by simpa using hbq14
                have HGF2 := Lib.hid (Gr.tr HG02.out (hG214))
                have hbz := HBR.out _ HGF2.out
                have az0 : w14.cell? ⟨gr, 0, none⟩ = some (.bool false) := hbz.cell 0
                have af0 := hbz.free 0 (.inr (Nat.zero_le _))
                have az1 : w14.cell? ⟨gr, 1, none⟩ = some (str []) := hbz.cell 1
                have af1 := hbz.free 1 (.inr (Nat.zero_le _))
                have az2 : w14.cell? ⟨gr, 2, none⟩ = some (.slice none 0 0) := hbz.cell 2
                have af2 := hbz.free 2 (.inr (Nat.zero_le _))
                have az3 : w14.cell? ⟨gr, 3, none⟩ = some (.slice none 0 0) := hbz.cell 3
                have af3 := hbz.free 3 (.inr (Nat.zero_le _))
                have az4 : w14.cell? ⟨gr, 4, none⟩ = some (.slice none 0 0) := hbz.cell 4
                have af4 := hbz.free 4 (.inr (Nat.zero_le _))
                have az5 : w14.cell? ⟨gr, 5, none⟩ = some (.bool false) := hbz.cell 5
                have af5 := hbz.free 5 (.inr (Nat.zero_le _))
                have az6 : w14.cell? ⟨gr, 6, none⟩ = some (.bool false) := hbz.cell 6
                have af6 := hbz.free 6 (.inr (Nat.zero_le _))
                have az7 : w14.cell? ⟨gr, 7, none⟩ = some (.int .i64 0) := hbz.cell 7
                have af7 := hbz.free 7 (.inr (Nat.zero_le _))
                have az8 : w14.cell? ⟨gr, 8, none⟩ = some (.int .i64 0) := hbz.cell 8
                have af8 := hbz.free 8 (.inr (Nat.zero_le _))
                have az9 : w14.cell? ⟨gr, 9, none⟩ = some (str []) := hbz.cell 9
                have af9 := hbz.free 9 (.inr (Nat.zero_le _))
                have az10 : w14.cell? ⟨gr, 10, none⟩ = some (.bool false) := hbz.cell 10
                have af10 := hbz.free 10 (.inr (Nat.zero_le _))
                have bz0 : w14.cell? ⟨gq, 0, none⟩ = some (.bool (m == headB)) := hbq14.cell 0
                have bz1 : w14.cell? ⟨gq, 1, none⟩ = some (str o) := hbq14.cell 1
                have bz2 : w14.cell? ⟨gq, 2, none⟩ = some (.slice A13 sl.length c13) := hbq14.cell 2
                have bz3 : w14.cell? ⟨gq, 3, none⟩ = some (.slice A7 C.mt.length c7) := hbq14.cell 3
                have bz4 : w14.cell? ⟨gq, 4, none⟩ = some (.slice A8 C.no.length c8) := hbq14.cell 4
                have bz5 : w14.cell? ⟨gq, 5, none⟩ = some (.bool C.am) := hbq14.cell 5
                have bz6 : w14.cell? ⟨gq, 6, none⟩ = some (.bool C.an) := hbq14.cell 6
                have bz7 : w14.cell? ⟨gq, 7, none⟩ = some (.int .i64 C.si) := hbq14.cell 7
                have bz8 : w14.cell? ⟨gq, 8, none⟩ = some (.int .i64 C.un) := hbq14.cell 8
                have bz9 : w14.cell? ⟨gq, 9, none⟩ = some (str C.rg.1) := hbq14.cell 9
                have bz10 : w14.cell? ⟨gq, 10, none⟩ = some (.bool C.rg.2) := hbq14.cell 10
                go_wp2_with fail
                refine at_world (P := bodyPost _ _ _ _ _) (w0 := putCs w14 gr [.bool (m == headB), str o, .slice A13 sl.length c13, .slice A7 C.mt.length c7, .slice A8 C.no.length c8, .bool C.am, .bool C.an, .int .i64 C.si, .int .i64 C.un, str C.rg.1, .bool C.rg.2] 0) ?_
                intro wy hwy
                have hy : Bk wy gr 31 #[.bool (m == headB), str o, .slice A13 sl.length c13, .slice A7 C.mt.length c7, .slice A8 C.no.length c8, .bool C.am, .bool C.an, .int .i64 C.si, .int .i64 C.un, str C.rg.1, .bool C.rg.2] (0, 0) := by rw [hwy]; exact putCs_bk hbz rfl
                have yz0 : wy.cell? ⟨gr, 0, none⟩ = some (.bool (m == headB)) := hy.cell 0
                have yz1 : wy.cell? ⟨gr, 1, none⟩ = some (str o) := hy.cell 1
                have yz2 : wy.cell? ⟨gr, 2, none⟩ = some (.slice A13 sl.length c13) := hy.cell 2
                have yz3 : wy.cell? ⟨gr, 3, none⟩ = some (.slice A7 C.mt.length c7) := hy.cell 3
                have yz4 : wy.cell? ⟨gr, 4, none⟩ = some (.slice A8 C.no.length c8) := hy.cell 4
                have yz5 : wy.cell? ⟨gr, 5, none⟩ = some (.bool C.am) := hy.cell 5
                have yz6 : wy.cell? ⟨gr, 6, none⟩ = some (.bool C.an) := hy.cell 6
                have yz7 : wy.cell? ⟨gr, 7, none⟩ = some (.int .i64 C.si) := hy.cell 7
                have yz8 : wy.cell? ⟨gr, 8, none⟩ = some (.int .i64 C.un) := hy.cell 8
                have yz9 : wy.cell? ⟨gr, 9, none⟩ = some (str C.rg.1) := hy.cell 9
                have yz10 : wy.cell? ⟨gr, 10, none⟩ = some (.bool C.rg.2) := hy.cell 10
                refine bodyPost_ret (v := .tuple #[.agg #[.bool (m == headB), str o, .slice A13 sl.length c13, .slice A7 C.mt.length c7, .slice A8 C.no.length c8, .bool C.am, .bool C.an, .int .i64 C.si, .int .i64 C.un, str C.rg.1, .bool C.rg.2], .int .i64 n, .int .i64 0]) (by simp [results, Tryz.results13, go_sem, yz0, yz1, yz2, yz3, yz4, yz5, yz6, yz7, yz8, yz9, yz10]) rfl ?_
                rw [HX.out, hwy]
                exact ⟨_, _, _, rfl, ⟨putCs_sl HN13.out _ _ _ HS14.out, putCs_sl HN7.out _ _ _ HM14.out, putCs_sl HN8.out _ _ _ HO14.out⟩, putCs_gr HGG.out _ _ _ (Gr.tr HG0.out HGF2.out), HFR13.out, HFR7.out, HFR8.out⟩
              · have HX := Lib.hid (show Q = ((m == headB, o, [], C), n, 0) from by rw [HX0.out]; show ((m == headB, o, if es = 0 then sl else [], C), n, 0) = _; rw [if_neg hes])
                have d5 : ((es : Int) == 0) = false := by simp; omega
                clear HX0 hes
                have HGF2 := Lib.hid (Gr.tr HG02.out (hG213))
                have hbz := HBR.out _ HGF2.out
                have az0 : w13.cell? ⟨gr, 0, none⟩ = some (.bool false) := hbz.cell 0
                have af0 := hbz.free 0 (.inr (Nat.zero_le _))
                have az1 : w13.cell? ⟨gr, 1, none⟩ = some (str []) := hbz.cell 1
                have af1 := hbz.free 1 (.inr (Nat.zero_le _))
                have az2 : w13.cell? ⟨gr, 2, none⟩ = some (.slice none 0 0) := hbz.cell 2
                have af2 := hbz.free 2 (.inr (Nat.zero_le _))
                have az3 : w13.cell? ⟨gr, 3, none⟩ = some (.slice none 0 0) := hbz.cell 3
                have af3 := hbz.free 3 (.inr (Nat.zero_le _))
                have az4 : w13.cell? ⟨gr, 4, none⟩ = some (.slice none 0 0) := hbz.cell 4
                have af4 := hbz.free 4 (.inr (Nat.zero_le _))
                have az5 : w13.cell? ⟨gr, 5, none⟩ = some (.bool false) := hbz.cell 5
                have af5 := hbz.free 5 (.inr (Nat.zero_le _))
                have az6 : w13.cell? ⟨gr, 6, none⟩ = some (.bool false) := hbz.cell 6
                have af6 := hbz.free 6 (.inr (Nat.zero_le _))
                have az7 : w13.cell? ⟨gr, 7, none⟩ = some (.int .i64 0) := hbz.cell 7
                have af7 := hbz.free 7 (.inr (Nat.zero_le _))
                have az8 : w13.cell? ⟨gr, 8, none⟩ = some (.int .i64 0) := hbz.cell 8
                have af8 := hbz.free 8 (.inr (Nat.zero_le _))
                have az9 : w13.cell? ⟨gr, 9, none⟩ = some (str []) := hbz.cell 9
                have af9 := hbz.free 9 (.inr (Nat.zero_le _))
                have az10 : w13.cell? ⟨gr, 10, none⟩ = some (.bool false) := hbz.cell 10
                have af10 := hbz.free 10 (.inr (Nat.zero_le _))
                have bz0 : w13.cell? ⟨gq, 0, none⟩ = some (.bool (m == headB)) := hbq13.cell 0
                have bz1 : w13.cell? ⟨gq, 1, none⟩ = some (str o) := hbq13.cell 1
                have bz2 : w13.cell? ⟨gq, 2, none⟩ = some (.slice none 0 0) := hbq13.cell 2
                have bz3 : w13.cell? ⟨gq, 3, none⟩ = some (.slice A7 C.mt.length c7) := hbq13.cell 3
                have bz4 : w13.cell? ⟨gq, 4, none⟩ = some (.slice A8 C.no.length c8) := hbq13.cell 4
                have bz5 : w13.cell? ⟨gq, 5, none⟩ = some (.bool C.am) := hbq13.cell 5
                have bz6 : w13.cell? ⟨gq, 6, none⟩ = some (.bool C.an) := hbq13.cell 6
                have bz7 : w13.cell? ⟨gq, 7, none⟩ = some (.int .i64 C.si) := hbq13.cell 7
                have bz8 : w13.cell? ⟨gq, 8, none⟩ = some (.int .i64 C.un) := hbq13.cell 8
                have bz9 : w13.cell? ⟨gq, 9, none⟩ = some (str C.rg.1) := hbq13.cell 9
                have bz10 : w13.cell? ⟨gq, 10, none⟩ = some (.bool C.rg.2) := hbq13.cell 10
                go_wp2_with fail
                refine at_world (P := bodyPost _ _ _ _ _) (w0 := putCs w13 gr [.bool (m == headB), str o, .slice none 0 0, .slice A7 C.mt.length c7, .slice A8 C.no.length c8, .bool C.am, .bool C.an, .int .i64 C.si, .int .i64 C.un, str C.rg.1, .bool C.rg.2] 0) ?_
                intro wy hwy
                have hy : Bk wy gr 31 #[.bool (m == headB), str o, .slice none 0 0, .slice A7 C.mt.length c7, .slice A8 C.no.length c8, .bool C.am, .bool C.an, .int .i64 C.si, .int .i64 C.un, str C.rg.1, .bool C.rg.2] (0, 0) := by rw [hwy]; exact putCs_bk hbz rfl
                have yz0 : wy.cell? ⟨gr, 0, none⟩ = some (.bool (m == headB)) := hy.cell 0
                have yz1 : wy.cell? ⟨gr, 1, none⟩ = some (str o) := hy.cell 1
                have yz2 : wy.cell? ⟨gr, 2, none⟩ = some (.slice none 0 0) := hy.cell 2
                have yz3 : wy.cell? ⟨gr, 3, none⟩ = some (.slice A7 C.mt.length c7) := hy.cell 3
                have yz4 : wy.cell? ⟨gr, 4, none⟩ = some (.slice A8 C.no.length c8) := hy.cell 4
                have yz5 : wy.cell? ⟨gr, 5, none⟩ = some (.bool C.am) := hy.cell 5
                have yz6 : wy.cell? ⟨gr, 6, none⟩ = some (.bool C.an) := hy.cell 6
                have yz7 : wy.cell? ⟨gr, 7, none⟩ = some (.int .i64 C.si) := hy.cell 7
                have yz8 : wy.cell? ⟨gr, 8, none⟩ = some (.int .i64 C.un) := hy.cell 8
                have yz9 : wy.cell? ⟨gr, 9, none⟩ = some (str C.rg.1) := hy.cell 9
                have yz10 : wy.cell? ⟨gr, 10, none⟩ = some (.bool C.rg.2) := hy.cell 10
                refine bodyPost_ret (v := .tuple #[.agg #[.bool (m == headB), str o, .slice none 0 0, .slice A7 C.mt.length c7, .slice A8 C.no.length c8, .bool C.am, .bool C.an, .int .i64 C.si, .int .i64 C.un, str C.rg.1, .bool C.rg.2], .int .i64 n, .int .i64 0]) (by simp [results, Tryz.results13, go_sem, yz0, yz1, yz2, yz3, yz4, yz5, yz6, yz7, yz8, yz9, yz10]) rfl ?_
                rw [HX.out, hwy]
                exact ⟨_, _, _, rfl, ⟨Specs.nil _, putCs_sl HN7.out _ _ _ HM13.out, putCs_sl HN8.out _ _ _ HO13.out⟩, putCs_gr HGG.out _ _ _ (Gr.tr HG0.out HGF2.out), fresh_nil _, HFR7.out, HFR8.out⟩
            · have HX := Lib.hid (show Q = ((m == headB, o, [], C), n, 0) from by
                rw [HX0.out]
                have : rngV rs = [] := by
                  unfold rngV; split
                  · exact absurd rfl h1r
                  · rfl
                rw [this])
              have d5 : ((rs.length : Int) == 1) = false := by simp; omega
              clear HX0 h1r
              have HGF2 := Lib.hid (Gr.tr HG02.out (hG211))
              have hbz := HBR.out _ HGF2.out
              have az0 : w11.cell? ⟨gr, 0, none⟩ = some (.bool false) := hbz.cell 0
              have af0 := hbz.free 0 (.inr (Nat.zero_le _))
              have az1 : w11.cell? ⟨gr, 1, none⟩ = some (str []) := hbz.cell 1
              have af1 := hbz.free 1 (.inr (Nat.zero_le _))
              have az2 : w11.cell? ⟨gr, 2, none⟩ = some (.slice none 0 0) := hbz.cell 2
              have af2 := hbz.free 2 (.inr (Nat.zero_le _))
              have az3 : w11.cell? ⟨gr, 3, none⟩ = some (.slice none 0 0) := hbz.cell 3
              have af3 := hbz.free 3 (.inr (Nat.zero_le _))
              have az4 : w11.cell? ⟨gr, 4, none⟩ = some (.slice none 0 0) := hbz.cell 4
              have af4 := hbz.free 4 (.inr (Nat.zero_le _))
              have az5 : w11.cell? ⟨gr, 5, none⟩ = some (.bool false) := hbz.cell 5
              have af5 := hbz.free 5 (.inr (Nat.zero_le _))
              have az6 : w11.cell? ⟨gr, 6, none⟩ = some (.bool false) := hbz.cell 6
              have af6 := hbz.free 6 (.inr (Nat.zero_le _))
              have az7 : w11.cell? ⟨gr, 7, none⟩ = some (.int .i64 0) := hbz.cell 7
              have af7 := hbz.free 7 (.inr (Nat.zero_le _))
              have az8 : w11.cell? ⟨gr, 8, none⟩ = some (.int .i64 0) := hbz.cell 8
              have af8 := hbz.free 8 (.inr (Nat.zero_le _))
              have az9 : w11.cell? ⟨gr, 9, none⟩ = some (str []) := hbz.cell 9
              have af9 := hbz.free 9 (.inr (Nat.zero_le _))
              have az10 : w11.cell? ⟨gr, 10, none⟩ = some (.bool false) := hbz.cell 10
              have af10 := hbz.free 10 (.inr (Nat.zero_le _))
              have bz0 : w11.cell? ⟨gq, 0, none⟩ = some (.bool (m == headB)) := hbq11.cell 0
              have bz1 : w11.cell? ⟨gq, 1, none⟩ = some (str o) := hbq11.cell 1
              have bz2 : w11.cell? ⟨gq, 2, none⟩ = some (.slice none 0 0) := hbq11.cell 2
              have bz3 : w11.cell? ⟨gq, 3, none⟩ = some (.slice A7 C.mt.length c7) := hbq11.cell 3
              have bz4 : w11.cell? ⟨gq, 4, none⟩ = some (.slice A8 C.no.length c8) := hbq11.cell 4
              have bz5 : w11.cell? ⟨gq, 5, none⟩ = some (.bool C.am) := hbq11.cell 5
              have bz6 : w11.cell? ⟨gq, 6, none⟩ = some (.bool C.an) := hbq11.cell 6
              have bz7 : w11.cell? ⟨gq, 7, none⟩ = some (.int .i64 C.si) := hbq11.cell 7
              have bz8 : w11.cell? ⟨gq, 8, none⟩ = some (.int .i64 C.un) := hbq11.cell 8
              have bz9 : w11.cell? ⟨gq, 9, none⟩ = some (str C.rg.1) := hbq11.cell 9
              have bz10 : w11.cell? ⟨gq, 10, none⟩ = some (.bool C.rg.2) := hbq11.cell 10
              go_wp2_with fail
              refine at_world (P := bodyPost _ _ _ _ _) (w0 := putCs w11 gr [.bool (m == headB), str o, .slice none 0 0, .slice A7 C.mt.length c7, .slice A8 C.no.length c8, .bool C.am, .bool C.an, .int .i64 C.si, .int .i64 C.un, str C.rg.1, .bool C.rg.2] 0) ?_
              intro wy hwy
              have hy : Bk wy gr 31 #[.bool (m == headB), str o, .slice none 0 0, .slice A7 C.mt.length c7, .slice A8 C.no.length c8, .bool C.am, .bool C.an, .int .i64 C.si, .int .i64 C.un, str C.rg.1, .bool C.rg.2] (0, 0) := by rw [hwy]; exact putCs_bk hbz rfl
              have yz0 : wy.cell? ⟨gr, 0, none⟩ = some (.bool (m == headB)) := hy.cell 0
              have yz1 : wy.cell? ⟨gr, 1, none⟩ = some (str o) := hy.cell 1
              have yz2 : wy.cell? ⟨gr, 2, none⟩ = some (.slice none 0 0) := hy.cell 2
              have yz3 : wy.cell? ⟨gr, 3, none⟩ = some (.slice A7 C.mt.length c7) := hy.cell 3
              have yz4 : wy.cell? ⟨gr, 4, none⟩ = some (.slice A8 C.no.length c8) := hy.cell 4
              have yz5 : wy.cell? ⟨gr, 5, none⟩ = some (.bool C.am) := hy.cell 5
              have yz6 : wy.cell? ⟨gr, 6, none⟩ = some (.bool C.an) := hy.cell 6
              have yz7 : wy.cell? ⟨gr, 7, none⟩ = some (.int .i64 C.si) := hy.cell 7
              have yz8 : wy.cell? ⟨gr, 8, none⟩ = some (.int .i64 C.un) := hy.cell 8
              have yz9 : wy.cell? ⟨gr, 9, none⟩ = some (str C.rg.1) := hy.cell 9
              have yz10 : wy.cell? ⟨gr, 10, none⟩ = some (.bool C.rg.2) := hy.cell 10
              refine bodyPost_ret (v := .tuple #[.agg #[.bool (m == headB), str o, .slice none 0 0, .slice A7 C.mt.length c7, .slice A8 C.no.length c8, .bool C.am, .bool C.an, .int .i64 C.si, .int .i64 C.un, str C.rg.1, .bool C.rg.2], .int .i64 n, .int .i64 0]) (by simp [results, Tryz.results13, go_sem, yz0, yz1, yz2, yz3, yz4, yz5, yz6, yz7, yz8, yz9, yz10]) rfl ?_
              rw [HX.out, hwy]
              exact ⟨_, _, _, rfl, ⟨Specs.nil _, putCs_sl HN7.out _ _ _ HM11.out, putCs_sl HN8.out _ _ _ HO11.out⟩, putCs_gr HGG.out _ _ _ (Gr.tr HG0.out HGF2.out), fresh_nil _, HFR7.out, HFR8.out⟩
          · have d4 : ((ec : Int) != 0) = true := by simp; omega
            have HX := Lib.hid (show Q = (ReqT.zero, 0, ec) from by rw [HQ2.out, if_pos hec])
            have HGX := Lib.hid (Gr.tr HG02.out hG210)
            clear HQ2 hec HOF HMD HF2 HT7 HT8 hbc
            have hbz := HBR.out _ (Gr.tr HG02.out hG210)
            have hbn := HBN.out _ (Gr.tr HG02.out hG210)
            generalize hww : w10 = wx at *
            clear hww
            have az0 : wx.cell? ⟨gr, 0, none⟩ = some (.bool false) := hbz.cell 0
            have af0 := hbz.free 0 (.inr (Nat.zero_le _))
            have az1 : wx.cell? ⟨gr, 1, none⟩ = some (str []) := hbz.cell 1
            have af1 := hbz.free 1 (.inr (Nat.zero_le _))
            have az2 : wx.cell? ⟨gr, 2, none⟩ = some (.slice none 0 0) := hbz.cell 2
            have af2 := hbz.free 2 (.inr (Nat.zero_le _))
            have az3 : wx.cell? ⟨gr, 3, none⟩ = some (.slice none 0 0) := hbz.cell 3
            have af3 := hbz.free 3 (.inr (Nat.zero_le _))
            have az4 : wx.cell? ⟨gr, 4, none⟩ = some (.slice none 0 0) := hbz.cell 4
            have af4 := hbz.free 4 (.inr (Nat.zero_le _))
            have az5 : wx.cell? ⟨gr, 5, none⟩ = some (.bool false) := hbz.cell 5
            have af5 := hbz.free 5 (.inr (Nat.zero_le _))
            have az6 : wx.cell? ⟨gr, 6, none⟩ = some (.bool false) := hbz.cell 6
            have af6 := hbz.free 6 (.inr (Nat.zero_le _))
            have az7 : wx.cell? ⟨gr, 7, none⟩ = some (.int .i64 0) := hbz.cell 7
            have af7 := hbz.free 7 (.inr (Nat.zero_le _))
            have az8 : wx.cell? ⟨gr, 8, none⟩ = some (.int .i64 0) := hbz.cell 8
            have af8 := hbz.free 8 (.inr (Nat.zero_le _))
            have az9 : wx.cell? ⟨gr, 9, none⟩ = some (str []) := hbz.cell 9
            have af9 := hbz.free 9 (.inr (Nat.zero_le _))
            have az10 : wx.cell? ⟨gr, 10, none⟩ = some (.bool false) := hbz.cell 10
            have af10 := hbz.free 10 (.inr (Nat.zero_le _))
            have nz0 : wx.cell? ⟨gn, 0, none⟩ = some (.bool false) := hbn.cell 0
            have nz1 : wx.cell? ⟨gn, 1, none⟩ = some (str []) := hbn.cell 1
            have nz2 : wx.cell? ⟨gn, 2, none⟩ = some (.slice none 0 0) := hbn.cell 2
            have nz3 : wx.cell? ⟨gn, 3, none⟩ = some (.slice none 0 0) := hbn.cell 3
            have nz4 : wx.cell? ⟨gn, 4, none⟩ = some (.slice none 0 0) := hbn.cell 4
            have nz5 : wx.cell? ⟨gn, 5, none⟩ = some (.bool false) := hbn.cell 5
            have nz6 : wx.cell? ⟨gn, 6, none⟩ = some (.bool false) := hbn.cell 6
            have nz7 : wx.cell? ⟨gn, 7, none⟩ = some (.int .i64 0) := hbn.cell 7
            have nz8 : wx.cell? ⟨gn, 8, none⟩ = some (.int .i64 0) := hbn.cell 8
            have nz9 : wx.cell? ⟨gn, 9, none⟩ = some (str []) := hbn.cell 9
            have nz10 : wx.cell? ⟨gn, 10, none⟩ = some (.bool false) := hbn.cell 10
            go_wp2_with fail
            refine at_world (P := bodyPost _ _ _ _ _) (w0 := putCs wx gr zq 0) ?_
            intro wy hwy
            have hy : Bk wy gr 31 #[.bool false, str [], .slice none 0 0, .slice none 0 0, .slice none 0 0, .bool false, .bool false, .int .i64 0, .int .i64 0, str [], .bool false] (0, 0) := by rw [hwy]; exact putCs_bk hbz rfl
            have yz0 : wy.cell? ⟨gr, 0, none⟩ = some (.bool false) := hy.cell 0
            have yz1 : wy.cell? ⟨gr, 1, none⟩ = some (str []) := hy.cell 1
            have yz2 : wy.cell? ⟨gr, 2, none⟩ = some (.slice none 0 0) := hy.cell 2
            have yz3 : wy.cell? ⟨gr, 3, none⟩ = some (.slice none 0 0) := hy.cell 3
            have yz4 : wy.cell? ⟨gr, 4, none⟩ = some (.slice none 0 0) := hy.cell 4
            have yz5 : wy.cell? ⟨gr, 5, none⟩ = some (.bool false) := hy.cell 5
            have yz6 : wy.cell? ⟨gr, 6, none⟩ = some (.bool false) := hy.cell 6
            have yz7 : wy.cell? ⟨gr, 7, none⟩ = some (.int .i64 0) := hy.cell 7
            have yz8 : wy.cell? ⟨gr, 8, none⟩ = some (.int .i64 0) := hy.cell 8
            have yz9 : wy.cell? ⟨gr, 9, none⟩ = some (str []) := hy.cell 9
            have yz10 : wy.cell? ⟨gr, 10, none⟩ = some (.bool false) := hy.cell 10
            refine bodyPost_ret (v := .tuple #[.agg #[.bool false, str [], .slice none 0 0, .slice none 0 0, .slice none 0 0, .bool false, .bool false, .int .i64 0, .int .i64 0, str [], .bool false], .int .i64 0, .int .i64 ec]) (by simp [results, Tryz.results13, go_sem, yz0, yz1, yz2, yz3, yz4, yz5, yz6, yz7, yz8, yz9, yz10]) rfl ?_
            rw [HX.out, hwy]
            exact ask_zero _ (Gr.tr HG0.out (HGX.out)) HGG.out
    · have HX := Lib.hid (show Q = (ReqT.zero, 0, 2) from HQ.out.trans (askF_coded h1))
      generalize ofN fs codingN = vs at *
      have dp : 0 < vs.length := List.length_pos_iff.2 h1
      have hvl := HL0.out
      clear HQ h1
      go_upto_region 6 with (go_at_call 45; refine HO0.out.mono ?_; rintro e3 w3 ⟨v3, rfl, hS3, hG3⟩; obtain ⟨A3, c3, rfl, -, -, -⟩ := hS3.open; clear hS3)
      have HGX := Lib.hid (Gr.tr HG02.out hG3)
      clear HOF HO0
      have hbz := HBR.out _ (HGX.out)
      have hbn := HBN.out _ (HGX.out)
      generalize hww : w3 = wx at *
      clear hww
      have az0 : wx.cell? ⟨gr, 0, none⟩ = some (.bool false) := hbz.cell 0
      have af0 := hbz.free 0 (.inr (Nat.zero_le _))
      have az1 : wx.cell? ⟨gr, 1, none⟩ = some (str []) := hbz.cell 1
      have af1 := hbz.free 1 (.inr (Nat.zero_le _))
      have az2 : wx.cell? ⟨gr, 2, none⟩ = some (.slice none 0 0) := hbz.cell 2
      have af2 := hbz.free 2 (.inr (Nat.zero_le _))
      have az3 : wx.cell? ⟨gr, 3, none⟩ = some (.slice none 0 0) := hbz.cell 3
      have af3 := hbz.free 3 (.inr (Nat.zero_le _))
      have az4 : wx.cell? ⟨gr, 4, none⟩ = some (.slice none 0 0) := hbz.cell 4
      have af4 := hbz.free 4 (.inr (Nat.zero_le _))
      have az5 : wx.cell? ⟨gr, 5, none⟩ = some (.bool false) := hbz.cell 5
      have af5 := hbz.free 5 (.inr (Nat.zero_le _))
      have az6 : wx.cell? ⟨gr, 6, none⟩ = some (.bool false) := hbz.cell 6
      have af6 := hbz.free 6 (.inr (Nat.zero_le _))
      have az7 : wx.cell? ⟨gr, 7, none⟩ = some (.int .i64 0) := hbz.cell 7
      have af7 := hbz.free 7 (.inr (Nat.zero_le _))
      have az8 : wx.cell? ⟨gr, 8, none⟩ = some (.int .i64 0) := hbz.cell 8
      have af8 := hbz.free 8 (.inr (Nat.zero_le _))
      have az9 : wx.cell? ⟨gr, 9, none⟩ = some (str []) := hbz.cell 9
      have af9 := hbz.free 9 (.inr (Nat.zero_le _))
      have az10 : wx.cell? ⟨gr, 10, none⟩ = some (.bool false) := hbz.cell 10
      have af10 := hbz.free 10 (.inr (Nat.zero_le _))
      have nz0 : wx.cell? ⟨gn, 0, none⟩ = some (.bool false) := hbn.cell 0
      have nz1 : wx.cell? ⟨gn, 1, none⟩ = some (str []) := hbn.cell 1
      have nz2 : wx.cell? ⟨gn, 2, none⟩ = some (.slice none 0 0) := hbn.cell 2
      have nz3 : wx.cell? ⟨gn, 3, none⟩ = some (.slice none 0 0) := hbn.cell 3
      have nz4 : wx.cell? ⟨gn, 4, none⟩ = some (.slice none 0 0) := hbn.cell 4
      have nz5 : wx.cell? ⟨gn, 5, none⟩ = some (.bool false) := hbn.cell 5
      have nz6 : wx.cell? ⟨gn, 6, none⟩ = some (.bool false) := hbn.cell 6
      have nz7 : wx.cell? ⟨gn, 7, none⟩ = some (.int .i64 0) := hbn.cell 7
      have nz8 : wx.cell? ⟨gn, 8, none⟩ = some (.int .i64 0) := hbn.cell 8
      have nz9 : wx.cell? ⟨gn, 9, none⟩ = some (str []) := hbn.cell 9
      have nz10 : wx.cell? ⟨gn, 10, none⟩ = some (.bool false) := hbn.cell 10
      go_wp2_with fail
      refine at_world (P := bodyPost _ _ _ _ _) (w0 := putCs wx gr zq 0) ?_
      intro wy hwy
      have hy : Bk wy gr 31 #[.bool false, str [], .slice none 0 0, .slice none 0 0, .slice none 0 0, .bool false, .bool false, .int .i64 0, .int .i64 0, str [], .bool false] (0, 0) := by rw [hwy]; exact putCs_bk hbz rfl
      have yz0 : wy.cell? ⟨gr, 0, none⟩ = some (.bool false) := hy.cell 0
      have yz1 : wy.cell? ⟨gr, 1, none⟩ = some (str []) := hy.cell 1
      have yz2 : wy.cell? ⟨gr, 2, none⟩ = some (.slice none 0 0) := hy.cell 2
      have yz3 : wy.cell? ⟨gr, 3, none⟩ = some (.slice none 0 0) := hy.cell 3
      have yz4 : wy.cell? ⟨gr, 4, none⟩ = some (.slice none 0 0) := hy.cell 4
      have yz5 : wy.cell? ⟨gr, 5, none⟩ = some (.bool false) := hy.cell 5
      have yz6 : wy.cell? ⟨gr, 6, none⟩ = some (.bool false) := hy.cell 6
      have yz7 : wy.cell? ⟨gr, 7, none⟩ = some (.int .i64 0) := hy.cell 7
      have yz8 : wy.cell? ⟨gr, 8, none⟩ = some (.int .i64 0) := hy.cell 8
      have yz9 : wy.cell? ⟨gr, 9, none⟩ = some (str []) := hy.cell 9
      have yz10 : wy.cell? ⟨gr, 10, none⟩ = some (.bool false) := hy.cell 10
      refine bodyPost_ret (v := .tuple #[.agg #[.bool false, str [], .slice none 0 0, .slice none 0 0, .slice none 0 0, .bool false, .bool false, .int .i64 0, .int .i64 0, str [], .bool false], .int .i64 0, .int .i64 2]) (by simp [results, Tryz.results13, go_sem, yz0, yz1, yz2, yz3, yz4, yz5, yz6, yz7, yz8, yz9, yz10]) rfl ?_
      rw [HX.out, hwy]
      exact ask_zero _ (Gr.tr HG0.out (HGX.out)) HGG.out
  · have d0 : ((e : Int) != 0) = true := by simp; omega
    have HX := Lib.hid (show Q = (ReqT.zero, 0, e) from by rw [HQ.out, if_neg he])
    have HGX := Lib.hid hG02
    clear HQ H31 he
    have hbz := HBR.out _ (hG02)
    have hbn := HBN.out _ (hG02)
    generalize hww : w2 = wx at *
    clear hww
    have az0 : wx.cell? ⟨gr, 0, none⟩ = some (.bool false) := hbz.cell 0
    have af0 := hbz.free 0 (.inr (Nat.zero_le _))
    have az1 : wx.cell? ⟨gr, 1, none⟩ = some (str []) := hbz.cell 1
    have af1 := hbz.free 1 (.inr (Nat.zero_le _))
    have az2 : wx.cell? ⟨gr, 2, none⟩ = some (.slice none 0 0) := hbz.cell 2
    have af2 := hbz.free 2 (.inr (Nat.zero_le _))
    have az3 : wx.cell? ⟨gr, 3, none⟩ = some (.slice none 0 0) := hbz.cell 3
    have af3 := hbz.free 3 (.inr (Nat.zero_le _))
    have az4 : wx.cell? ⟨gr, 4, none⟩ = some (.slice none 0 0) := hbz.cell 4
    have af4 := hbz.free 4 (.inr (Nat.zero_le _))
    have az5 : wx.cell? ⟨gr, 5, none⟩ = some (.bool false) := hbz.cell 5
    have af5 := hbz.free 5 (.inr (Nat.zero_le _))
    have az6 : wx.cell? ⟨gr, 6, none⟩ = some (.bool false) := hbz.cell 6
    have af6 := hbz.free 6 (.inr (Nat.zero_le _))
    have az7 : wx.cell? ⟨gr, 7, none⟩ = some (.int .i64 0) := hbz.cell 7
    have af7 := hbz.free 7 (.inr (Nat.zero_le _))
    have az8 : wx.cell? ⟨gr, 8, none⟩ = some (.int .i64 0) := hbz.cell 8
    have af8 := hbz.free 8 (.inr (Nat.zero_le _))
    have az9 : wx.cell? ⟨gr, 9, none⟩ = some (str []) := hbz.cell 9
    have af9 := hbz.free 9 (.inr (Nat.zero_le _))
    have az10 : wx.cell? ⟨gr, 10, none⟩ = some (.bool false) := hbz.cell 10
    have af10 := hbz.free 10 (.inr (Nat.zero_le _))
    have nz0 : wx.cell? ⟨gn, 0, none⟩ = some (.bool false) := hbn.cell 0
    have nz1 : wx.cell? ⟨gn, 1, none⟩ = some (str []) := hbn.cell 1
    have nz2 : wx.cell? ⟨gn, 2, none⟩ = some (.slice none 0 0) := hbn.cell 2
    have nz3 : wx.cell? ⟨gn, 3, none⟩ = some (.slice none 0 0) := hbn.cell 3
    have nz4 : wx.cell? ⟨gn, 4, none⟩ = some (.slice none 0 0) := hbn.cell 4
    have nz5 : wx.cell? ⟨gn, 5, none⟩ = some (.bool false) := hbn.cell 5
    have nz6 : wx.cell? ⟨gn, 6, none⟩ = some (.bool false) := hbn.cell 6
    have nz7 : wx.cell? ⟨gn, 7, none⟩ = some (.int .i64 0) := hbn.cell 7
    have nz8 : wx.cell? ⟨gn, 8, none⟩ = some (.int .i64 0) := hbn.cell 8
    have nz9 : wx.cell? ⟨gn, 9, none⟩ = some (str []) := hbn.cell 9
    have nz10 : wx.cell? ⟨gn, 10, none⟩ = some (.bool false) := hbn.cell 10
    go_wp2_with fail
    refine at_world (P := bodyPost _ _ _ _ _) (w0 := putCs wx gr zq 0) ?_
    intro wy hwy
    have hy : Bk wy gr 31 #[.bool false, str [], .slice none 0 0, .slice none 0 0, .slice none 0 0, .bool false, .bool false, .int .i64 0, .int .i64 0, str [], .bool false] (0, 0) := by rw [hwy]; exact putCs_bk hbz rfl
    have yz0 : wy.cell? ⟨gr, 0, none⟩ = some (.bool false) := hy.cell 0
    have yz1 : wy.cell? ⟨gr, 1, none⟩ = some (str []) := hy.cell 1
    have yz2 : wy.cell? ⟨gr, 2, none⟩ = some (.slice none 0 0) := hy.cell 2
    have yz3 : wy.cell? ⟨gr, 3, none⟩ = some (.slice none 0 0) := hy.cell 3
    have yz4 : wy.cell? ⟨gr, 4, none⟩ = some (.slice none 0 0) := hy.cell 4
    have yz5 : wy.cell? ⟨gr, 5, none⟩ = some (.bool false) := hy.cell 5
    have yz6 : wy.cell? ⟨gr, 6, none⟩ = some (.bool false) := hy.cell 6
    have yz7 : wy.cell? ⟨gr, 7, none⟩ = some (.int .i64 0) := hy.cell 7
    have yz8 : wy.cell? ⟨gr, 8, none⟩ = some (.int .i64 0) := hy.cell 8
    have yz9 : wy.cell? ⟨gr, 9, none⟩ = some (str []) := hy.cell 9
    have yz10 : wy.cell? ⟨gr, 10, none⟩ = some (.bool false) := hy.cell 10
    refine bodyPost_ret (v := .tuple #[.agg #[.bool false, str [], .slice none 0 0, .slice none 0 0, .slice none 0 0, .bool false, .bool false, .int .i64 0, .int .i64 0, str [], .bool false], .int .i64 0, .int .i64 e]) (by simp [results, Tryz.results13, go_sem, yz0, yz1, yz2, yz3, yz4, yz5, yz6, yz7, yz8, yz9, yz10]) rfl ?_
    rw [HX.out, hwy]
    exact ask_zero _ (Gr.tr HG0.out (HGX.out)) HGG.out
end Go.Proofs.YtcfefflnebkjnaaGreatDoor
