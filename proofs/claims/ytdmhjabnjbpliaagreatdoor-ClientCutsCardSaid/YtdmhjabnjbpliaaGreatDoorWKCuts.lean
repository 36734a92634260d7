/- Layer 16's law on how an answer's bytes are dealt: the walk. Conditions: the library's own variables hold what their types allow; lengths that memory holds. -/
import Derived.Test.YtdmhjabnjbpliaaGreatDoorClient23
set_option linter.unusedVariables false
set_option linter.unusedSimpArgs false
namespace Go.Proofs.YtdmhjabnjbpliaaGreatDoor.lkcuts
open Go.RowKit
theorem now_two (asked l : List UInt8) (k : Nat) : (l.drop k).foldl (clByte asked) ((l.take k).foldl (clByte asked) (.head [])) = nowL asked l := by
  rw [← List.foldl_append, List.take_append_drop]; rfl
theorem now_one (asked l : List UInt8) (k : Nat) (h : k < l.length) : ((l.drop k).take 1).foldl (clByte asked) (nowL asked (l.take k)) = nowL asked (l.take (k + 1)) := by
  rw [← now_app]
  congr 1
  rw [List.take_succ_eq_append_getElem h, List.drop_eq_getElem_cons h]
  rfl
theorem now_sz (asked l : List UInt8) : (nowL asked l).sz ≤ l.length := by
  have := fold_sz asked l (.head [])
  simpa [ClS.sz, nowL] using this
theorem stp_off {w w' : World} {g : Nat} {S : List Nat} (h : Stp w [g] w' S) (hh : ∀ k ∈ S, k < w'.heap.size) : ∀ k ∈ S, k = g ∨ (w.heap.size ≤ k ∧ k < w'.heap.size) := fun k hk => by
  rcases h.sub k hk with h1 | h1
  · exact .inl (by simpa using h1)
  · exact .inr ⟨h1, hh k hk⟩
set_option maxHeartbeats 16000000 in
set_option maxRecDepth 100000 in
theorem walk (q : ReqT) (vs vm vn : Value) (u : Value) (l : List UInt8) (ct : Int) (w : World) (hv : Vars w) (ha : ReqA w q vs vm vn) (hl : ReqLow q) (hy : Byts w u l) (hct : 0 ≤ ct ∧ ct ≤ 65535) :
    Calls Tryz.prog 3 #[reqV q vs vm vn, u, .int .u16 ct] w fun e w' => e = .returned (.bool true) ∧ Gr w w' := by
  obtain ⟨hc0, hc1⟩ := hct
  obtain ⟨Au, cu, rfl, hcu, hmu, -⟩ := id hy.open
  have HFW := Lib.hid (fun (x : World) (g : Gr w x) => refFew16_any q vs vm vn x (ha.gr g) hl)
  have HRT := Lib.hid (fun (x : World) (g : Gr w x) (h1 : q.2.2.2.mt.length ≤ 1000000) (h2 : q.2.2.2.no.length ≤ 1000000) => refRight16_any q vs vm vn x (ha.gr g) hl h1 h2)
  have HNW := Lib.hid (fun (hf : fewC q = true) (hr : reqC q = true) (x : World) (g : Gr w x) => newQ_any w x g q vs vm vn (ha.gr g) hl hf hr)
  have HLN := Lib.hid (show fewC q = true → q.2.2.2.mt.length ≤ 1000000 ∧ q.2.2.2.no.length ≤ 1000000 from fun h => by
    unfold fewC at h
    simp only [Bool.and_eq_true] at h
    have := fewB_iff.1 h.2
    omega)
  have HAW := Lib.hid (fun (x : World) (g : Gr w x) => awake16_any x (hv.gr g))
  have HY := Lib.hid hy
  have HV := Lib.hid hv
  obtain ⟨hs, hm, hn⟩ := ha
  obtain ⟨A1, a1, rfl, _, _, _⟩ := id hs.open
  obtain ⟨A2, a2, rfl, _, _, _⟩ := id hm.open
  obtain ⟨A3, a3, rfl, _, _, _⟩ := id hn.open
  generalize fewC q = F at *
  generalize reqC q = R at *
  obtain ⟨hd, o, ls, mt, no, am, an, si, un, rx, rk⟩ := q
  clear hs hm hn hl hv hy
  unfold reqV at *
  simp only at *
  generalize hask : (if hd then headB else getB) = asked at *
  clear hask
  have hbr := Bk.new w 29 #[.bool hd, str o, .slice A1 ls.length a1, .slice A2 mt.length a2, .slice A3 no.length a3, .bool am, .bool an, .int .i64 si, .int .i64 un, str rx, .bool rk] (0, 0)
  have hG0 := Gr.al (Gr.refl w) (Obj.cells #[.bool hd, str o, .slice A1 ls.length a1, .slice A2 mt.length a2, .slice A3 no.length a3, .bool am, .bool an, .int .i64 si, .int .i64 un, str rx, .bool rk] 29)
  go_enter Tryz.func3, Tryz.ntmps3
  go_upto_region 1 with fail
  generalize w.alloc (Obj.cells #[.bool hd, str o, .slice A1 ls.length a1, .slice A2 mt.length a2, .slice A3 no.length a3, .bool am, .bool an, .int .i64 si, .int .i64 un, str rx, .bool rk] 29) = w0 at *
  generalize w.heap.size = g at *
  have r0 : ∀ x, Gr w0 x → x.cell? ⟨g, 0, none⟩ = some (.bool hd) := fun x h => (hbr.gr h).cell 0
  have r1 : ∀ x, Gr w0 x → x.cell? ⟨g, 1, none⟩ = some (str o) := fun x h => (hbr.gr h).cell 1
  have r2 : ∀ x, Gr w0 x → x.cell? ⟨g, 2, none⟩ = some (.slice A1 ls.length a1) := fun x h => (hbr.gr h).cell 2
  have r3 : ∀ x, Gr w0 x → x.cell? ⟨g, 3, none⟩ = some (.slice A2 mt.length a2) := fun x h => (hbr.gr h).cell 3
  have r4 : ∀ x, Gr w0 x → x.cell? ⟨g, 4, none⟩ = some (.slice A3 no.length a3) := fun x h => (hbr.gr h).cell 4
  have r5 : ∀ x, Gr w0 x → x.cell? ⟨g, 5, none⟩ = some (.bool am) := fun x h => (hbr.gr h).cell 5
  have r6 : ∀ x, Gr w0 x → x.cell? ⟨g, 6, none⟩ = some (.bool an) := fun x h => (hbr.gr h).cell 6
  have r7 : ∀ x, Gr w0 x → x.cell? ⟨g, 7, none⟩ = some (.int .i64 si) := fun x h => (hbr.gr h).cell 7
  have r8 : ∀ x, Gr w0 x → x.cell? ⟨g, 8, none⟩ = some (.int .i64 un) := fun x h => (hbr.gr h).cell 8
  have r9 : ∀ x, Gr w0 x → x.cell? ⟨g, 9, none⟩ = some (str rx) := fun x h => (hbr.gr h).cell 9
  have r10 : ∀ x, Gr w0 x → x.cell? ⟨g, 10, none⟩ = some (.bool rk) := fun x h => (hbr.gr h).cell 10
  have h00 : Gr w0 w0 := Gr.refl w0
  have HG0 := Lib.hid hG0
  clear hbr hG0
  by_cases k1 : 500 < l.length
  · have d1 : decide (500 < (l.length : Int)) = true := decide_eq_true (by omega)
    go_wp2_with (go_at_call 11; refine (HAW.out _ HG0.out).mono ?_; rintro e w2 ⟨rfl, hg2⟩)
    go_ret
    exact ⟨rfl, Gr.tr HG0.out hg2⟩
  have d1 : decide (500 < (l.length : Int)) = false := decide_eq_false (by omega)
  have hl5 : l.length ≤ 500 := by omega
  clear k1
  cases F with
  | false =>
    go_wp2_with (first
      | (go_at_call 9; refine (HFW.out _ HG0.out).mono ?_; rintro e w1 ⟨rfl, h01⟩; have HG1 := Lib.hid (Gr.tr HG0.out h01))
      | (go_at_call 11; refine (HAW.out _ HG1.out).mono ?_; rintro e w2 ⟨rfl, hg2⟩))
    go_ret
    exact ⟨rfl, Gr.tr HG1.out hg2⟩
  | true =>
    obtain ⟨l1, l2⟩ := HLN.out rfl
    clear HLN
    cases R with
    | false =>
      go_wp2_with (first
        | (go_at_call 9; refine (HFW.out _ HG0.out).mono ?_; rintro e w1 ⟨rfl, h01⟩; have HG1 := Lib.hid (Gr.tr HG0.out h01))
        | (go_at_call 10; refine (HRT.out _ HG1.out l1 l2).mono ?_; rintro e w2 ⟨rfl, hg2⟩; have HG2 := Lib.hid (Gr.tr HG1.out hg2))
        | (go_at_call 11; refine (HAW.out _ HG2.out).mono ?_; rintro e w3 ⟨rfl, hg3⟩))
      go_ret
      exact ⟨rfl, Gr.tr HG2.out hg3⟩
    | true =>
      have HNQ := Lib.hid (HNW.out rfl rfl)
      clear HNW
      have hk0 : 0 ≤ ct % ((l.length : Int) + 1) := Int.emod_nonneg _ (by omega)
      have hk1 : ct % ((l.length : Int) + 1) < (l.length : Int) + 1 := Int.emod_lt_of_pos _ (by omega)
      go_upto_region 4 with (first
        | (go_at_call 9; refine (HFW.out _ HG0.out).mono ?_; rintro e w1 ⟨rfl, h01⟩; have HG1 := Lib.hid (Gr.tr HG0.out h01))
        | (go_at_call 10; refine (HRT.out _ HG1.out l1 l2).mono ?_; rintro e w2 ⟨rfl, hg2⟩; have h02 := Gr.tr h01 hg2))
      generalize ct % ((l.length : Int) + 1) = kk at *
      obtain ⟨K, rfl⟩ : ∃ K : Nat, kk = K := ⟨kk.toNat, by omega⟩
      have hK : K ≤ l.length := by omega
      clear hk0 hk1 h01 hg2 HG1 HFW HRT
      have HG2 := Lib.hid (Gr.tr HG0.out h02)
      go_upto_region 5 with (go_at_call 12; refine (HNQ.out _ HG2.out).mono ?_; rintro e w3 ⟨hg3, ga, rfl, hRa3, hga⟩)
      have h03 := Gr.tr h02 hg3
      have HG3 := Lib.hid (Gr.tr HG0.out h03)
      go_upto_region 6 with (go_at_call 12; refine (HNQ.out _ HG3.out).mono ?_; rintro e w4 ⟨hg4, gc, rfl, hRc4, hgc⟩)
      have h04 := Gr.tr h03 hg4
      have HG4 := Lib.hid (Gr.tr HG0.out h04)
      go_upto_region 9 with (go_at_call 12; refine (HNQ.out _ HG4.out).mono ?_; rintro e w5 ⟨hg5, gd, rfl, hRd5, hgd⟩)
      have HG5 := Lib.hid (Gr.tr HG4.out hg5)
      have hac : ga < gc := by have := hRa3.hi ga (by simp); omega
      have hcd : gc < gd := by have := hRc4.hi gc (by simp); omega
      have hd5 : gd < w5.heap.size := hRd5.hi gd (by simp)
      have HRa5 := Lib.hid (hRa3.gr (Gr.tr hg4 hg5))
      have HRc5 := Lib.hid (hRc4.gr hg5)
      have HRd5 := Lib.hid hRd5
      clear hRa3 hRc4 hRd5 h02 h03 h04 hg3 hg4 hg5 hga hgc hgd h00 r0 r1 r2 r3 r4 r5 r6 r7 r8 r9 r10 HNQ HG2 HG3 HG4
      go_upto_region 10 with fail
      go_loopw [14, 83] (fun x14 i wr => ∃ k : Nat, k ≤ l.length ∧ i = .int .i64 k ∧ ∃ Sa, ClR w wr ga Sa asked false false (nowL asked (l.take k)) ∧ Stp w5 [ga] wr Sa) (fun _ i _ => l.length - (intOf i).toNat)
      case atStart => exact ⟨0, Nat.zero_le _, rfl, [ga], HRa5.out, Stp.refl _ _⟩
      case round =>
        obtain ⟨k, hk, rfl, Sa, hRa, hPa⟩ := hrel
        have HRa := Lib.hid hRa
        have HPa := Lib.hid hPa
        have HGr := Lib.hid (hPa.old HG5.out HRa5.out.lo)
        clear hRa hPa
        by_cases hlt : k < l.length
        · have HONE := Lib.hid (now_one asked l k hlt)
          have hsz := now_sz asked (l.take k)
          rw [List.length_take] at hsz
          go_wp2_with (first
            | (refine slArgLH (W := w) (l := l) (j := (k : Int)) (k := (k : Int) + 1) _ _ _ rfl rfl rfl rfl rfl HY.out ?_ ?_ ?_ ?_; omega; omega; omega; intro A6 hA6; have e1 : ((k : Int) + 1).toNat - ((k : Int)).toNat = 1 := (by omega); have e2 : ((k : Int)).toNat = k := (by omega); rw [e1, e2] at hA6; rw [e1, e2]; have HTK := Lib.hid (take_arg HRa.out HGr.out HV.out (Gr.refl w) hA6 (by simp; omega)); rw [HONE.out] at HTK; clear hA6)
            | (go_at_call 13; refine HTK.out.mono ?_; rintro e w6 ⟨he, S6, hR6, hP6⟩; obtain ⟨zw6, hz⟩ : ∃ z : Int, e = .returned (.int .i64 z) := ⟨_, he⟩; subst hz; clear he))
          exact ⟨⟨k + 1, by omega, by go_num, S6, hR6, HPa.out.tr hP6⟩, by simp [intOf]; omega⟩
        · have hk' : k = l.length := by omega
          subst hk'
          rw [List.take_length] at HRa
          have HSA := Lib.hid (stp_off HPa.out HRa.out.hi)
          have hs56 : w5.heap.size ≤ wr.heap.size := HPa.out.kr.size
          have HRc6 := Lib.hid (HRc5.out.stp HPa.out (fun b hb hb' => by have e1 : b = gc := (by simpa using hb); have e2 : b = ga := (by simpa using hb'); omega))
          have HRd6 := Lib.hid (HRd5.out.stp HPa.out (fun b hb hb' => by have e1 : b = gd := (by simpa using hb); have e2 : b = ga := (by simpa using hb'); omega))
          have HTW := Lib.hid (now_two asked l K)
          clear hlt hk HRa5 HRc5 HRd5
          go_upto_region 15 with (first
            | (refine slArgHi (W := w) (l := l) (k := (K : Int)) _ _ rfl rfl rfl rfl HY.out ?_ ?_ ?_; omega; omega; intro A6 hA6; have e2 : ((K : Int)).toNat = K := (by omega); rw [e2] at hA6; rw [e2]; have HTK := Lib.hid (take_arg HRc6.out HGr.out HV.out (Gr.refl w) hA6 (by simp [ClS.sz]; omega)); clear hA6)
            | (go_at_call 13; refine HTK.out.mono ?_; rintro e w7 ⟨he, Sc, hRc7, hPc⟩; obtain ⟨zw7, hz⟩ : ∃ z : Int, e = .returned (.int .i64 z) := ⟨_, he⟩; subst hz; clear he))
          have HG7 := Lib.hid (hPc.old HGr.out HRc6.out.lo)
          have HRc7 := Lib.hid hRc7
          have HPc := Lib.hid hPc
          have hszK : ((l.take K).foldl (clByte asked) (.head [])).sz ≤ K := by have := now_sz asked (l.take K); rw [List.length_take] at this; unfold nowL at this; omega
          clear hRc7 hPc HTK
          go_upto_region 16 with (first
            | (refine slArgLo (W := w) (l := l) (k := (K : Int)) _ _ rfl rfl rfl rfl HY.out ?_ ?_ ?_; omega; omega; intro A6 hA6; have e2 : ((K : Int)).toNat = K := (by omega); rw [e2] at hA6; rw [e2]; rw [← List.length_drop] at hA6; have HTK := Lib.hid (take_arg HRc7.out HG7.out HV.out (Gr.refl w) hA6 (by rw [List.length_drop]; omega)); rw [HTW.out, List.length_drop] at HTK; clear hA6)
            | (go_at_call 13; refine HTK.out.mono ?_; rintro e w8 ⟨he, Sc8, hRc8, hPc8⟩; obtain ⟨zw8, hz⟩ : ∃ z : Int, e = .returned (.int .i64 z) := ⟨_, he⟩; subst hz; clear he))
          have HRc8 := Lib.hid hRc8
          have HPc8 := Lib.hid (HPc.out.tr hPc8)
          have HG8 := Lib.hid (HPc8.out.old HGr.out HRc6.out.lo)
          have HSC := Lib.hid (stp_off HPc8.out hRc8.hi)
          have hs68 : wr.heap.size ≤ w8.heap.size := HPc8.out.kr.size
          clear hRc8 hPc8 HTK HRc7 HPc HG7 HTW hszK
          have HRd8 := Lib.hid (HRd6.out.stp HPc8.out (fun b hb hb' => by have e1 : b = gd := (by simpa using hb); have e2 : b = gc := (by simpa using hb'); omega))
          have HRa8 := Lib.hid (HRa.out.stp HPc8.out (fun b hb hb' => by have e2 : b = gc := (by simpa using hb'); rcases HSA.out b hb with h | h <;> omega))
          have HTK := Lib.hid (take_arg HRd8.out HG8.out HV.out (Gr.refl w) HY.out (by simp [ClS.sz]; omega))
          go_upto_region 17 with (go_at_call 13; refine HTK.out.mono ?_; rintro e w9 ⟨he, Sd, hRd9, hPd⟩; obtain ⟨zw9, hz⟩ : ∃ z : Int, e = .returned (.int .i64 z) := ⟨_, he⟩; subst hz; clear he)
          have HRd9 := Lib.hid (show ClR w w9 gd Sd asked false false (nowL asked l) from hRd9)
          have HPd := Lib.hid hPd
          have HG9 := Lib.hid (hPd.old HG8.out HRd8.out.lo)
          have HSD := Lib.hid (stp_off hPd hRd9.hi)
          have HRa9 := Lib.hid (HRa8.out.stp hPd (fun b hb hb' => by have e2 : b = gd := (by simpa using hb'); rcases HSA.out b hb with h | h <;> omega))
          have HRc9 := Lib.hid (HRc8.out.stp hPd (fun b hb hb' => by have e2 : b = gd := (by simpa using hb'); rcases HSC.out b hb with h | h <;> omega))
          have HAC := Lib.hid (show ∀ b ∈ Sa, b ∉ Sc8 from fun b hb hb' => by rcases HSA.out b hb with h | h <;> rcases HSC.out b hb' with h' | h' <;> omega)
          have HAD := Lib.hid (show ∀ b ∈ Sa, b ∉ Sd from fun b hb hb' => by rcases HSA.out b hb with h | h <;> rcases HSD.out b hb' with h' | h' <;> omega)
          have HCD := Lib.hid (show ∀ b ∈ Sc8, b ∉ Sd from fun b hb hb' => by rcases HSC.out b hb with h | h <;> rcases HSD.out b hb' with h' | h' <;> omega)
          have hszF := now_sz asked l
          clear hRd9 hPd HTK HRa8 HRc8 HRd8 HRd6 HRc6 HRa HPc8 HPa HPd HSA HSC HSD
          generalize nowL asked l = FF at *
          have HE1 := Lib.hid (end_any w w9 ga Sa asked FF HRa9.out HG9.out HV.out (by omega))
          go_upto_region 18 with (first
            | (go_at_call 14; (with_reducible refine HE1.out.mono ?_); rintro e w10 ⟨rfl, hRa10, hP10⟩; have HRa10 := Lib.hid hRa10; have HG10 := Lib.hid (hP10.old HG9.out HRa9.out.lo); have HRc10 := Lib.hid (HRc9.out.stp hP10 (fun b hb hb' => HAC.out b hb' hb)); have HRd10 := Lib.hid (HRd9.out.stp hP10 (fun b hb hb' => HAD.out b hb' hb)); have HE2 := Lib.hid (end_any w w10 gc Sc8 asked FF HRc10.out HG10.out HV.out (by omega)); clear HE1 hRa10 hP10)
            | (go_at_call 14; (with_reducible refine HE2.out.mono ?_); rintro e w11 ⟨rfl, hRc11, hP11⟩; have HRc11 := Lib.hid hRc11; have HG11 := Lib.hid (hP11.old HG10.out HRc10.out.lo); have HRa11 := Lib.hid (HRa10.out.stp hP11 (fun b hb hb' => HAC.out b hb hb')); have HRd11 := Lib.hid (HRd10.out.stp hP11 (fun b hb hb' => HCD.out b hb' hb)); have HE3 := Lib.hid (end_any w w11 gd Sd asked FF HRd11.out HG11.out HV.out (by omega)); clear HE2 hRc11 hP11)
            | (go_at_call 14; (with_reducible refine HE3.out.mono ?_); rintro e w12 ⟨rfl, hRd12, hP12⟩; have HRd12 := Lib.hid hRd12; have HG12 := Lib.hid (hP12.old HG11.out HRd11.out.lo); have HRa12 := Lib.hid (HRa11.out.stp hP12 (fun b hb hb' => HAD.out b hb hb')); have HRc12 := Lib.hid (HRc11.out.stp hP12 (fun b hb hb' => HCD.out b hb hb')); clear HE3 hRd12 hP12))
          clear HRa9 HRc9 HRd9 HRa10 HRc10 HRd10 HRa11 HRc11 HRd11 HAC HAD HCD HG8 HG9 HG10 HG11
          generalize (FF.ends == 0) = wh at *
          generalize (!FF.wrong) = en at *
          have HBA := Lib.hid (bytes_any HRa12.out (HV.out.gr HG12.out) (by omega))
          go_upto_region 19 with (go_at_call 15; refine HBA.out.mono ?_; rintro e w13 ⟨hg13, v1, v2, rfl, hs1, hs2⟩)
          obtain ⟨SPL, hSPL⟩ : ∃ l, l = FF.came.map (·.1) := ⟨_, rfl⟩
          obtain ⟨BDL, hBDL⟩ : ∃ l, l = FF.came.map (·.2) := ⟨_, rfl⟩
          rw [← hSPL] at hs1
          rw [← hBDL] at hs2
          have HSPL := Lib.hid hSPL
          have HBDL := Lib.hid hBDL
          clear hSPL hBDL
          obtain ⟨B1, e1, rfl, -, -, -⟩ := id hs1.open
          obtain ⟨B2, e2, rfl, -, -, -⟩ := id hs2.open
          have hbp := Bk.new w13 34 #[.pointer (some ⟨gc, 0, none⟩), .pointer (some ⟨gd, 0, none⟩)] (0, 0)
          have hg14 := Gr.al (Gr.refl w13) (Obj.cells #[.pointer (some ⟨gc, 0, none⟩), .pointer (some ⟨gd, 0, none⟩)] 34)
          go_wp2_with fail
          generalize w13.alloc (Obj.cells #[.pointer (some ⟨gc, 0, none⟩), .pointer (some ⟨gd, 0, none⟩)] 34) = w14 at *
          generalize w13.heap.size = gp at *
          have HG14 := Lib.hid (Gr.tr HG12.out (Gr.tr hg13 hg14))
          have HRa14 := Lib.hid (HRa12.out.gr (Gr.tr hg13 hg14))
          have HRc14 := Lib.hid (HRc12.out.gr (Gr.tr hg13 hg14))
          have HRd14 := Lib.hid (HRd12.out.gr (Gr.tr hg13 hg14))
          have HS1 := Lib.hid (hs1.gr hg14)
          have HS2 := Lib.hid (hs2.gr hg14)
          have HBP := Lib.hid hbp
          clear hs1 hs2 hbp hg13 hg14 HBA HRa12 HRc12 HRd12 HG12
          go_loopw [21, 22, 23, 122] (fun x21 x22 x23 i wz => ∃ k : Nat, k ≤ 2 ∧ i = .int .i64 k ∧ Gr w14 wz) (fun _ _ _ i _ => 2 - (intOf i).toNat)
          case atStart => exact ⟨0, Nat.zero_le _, rfl, Gr.refl _⟩
          case round =>
            obtain ⟨k, hk2, rfl, hG⟩ := hrel
            by_cases hlt : k < 2
            · obtain ⟨gx, Sx, hcx, hRx⟩ : ∃ gx Sx, w14.cell? ⟨gp, k, none⟩ = some (.pointer (some ⟨gx, 0, none⟩)) ∧ ClR w w14 gx Sx asked en wh FF := by
                obtain h | h : k = 0 ∨ k = 1 := by omega
                · subst h; exact ⟨gc, Sc8, HBP.out.cell 0, HRc14.out⟩
                · subst h; exact ⟨gd, Sd, HBP.out.cell 1, HRd14.out⟩
              have hcx := Gr.cell hG hcx
              have HRx := Lib.hid hRx
              have HG := Lib.hid hG
              have HBX := Lib.hid (bytes_any (hRx.gr hG) (HV.out.gr (Gr.tr HG14.out hG)) (by omega))
              clear hRx hG
              go_wp2_with (first
                | (go_at_call 15; refine HBX.out.mono ?_; rintro e w15 ⟨hg15, v3, v4, rfl, hs3, hs4⟩; rw [← HSPL.out] at hs3; rw [← HBDL.out] at hs4; have HG15 := Lib.hid (Gr.tr HG.out hg15); have HSP := Lib.hid (spans_same _ _ _ w15 (HS1.out.gr HG15.out) hs3); have HS4 := Lib.hid hs4; clear hs3 hs4 hg15)
                | (go_at_call 16; refine HSP.out.mono ?_; rintro e w16 ⟨rfl, hg16⟩; have HG16 := Lib.hid (Gr.tr HG15.out hg16); have HBO := Lib.hid (bodies_same _ _ _ w16 (HS2.out.gr HG16.out) (HS4.out.gr hg16)); clear hg16)
                | (go_at_call 17; refine HBO.out.mono ?_; rintro e w17 ⟨rfl, hg17⟩; have HG17 := Lib.hid (Gr.tr HG16.out hg17); have HW1 := Lib.hid (whole_any (HRx.out.gr HG17.out)); have HW2 := Lib.hid (fun (x : World) (hx : Gr w17 x) => whole_any (HRa14.out.gr (Gr.tr HG17.out hx))); clear hg17)
                | (go_at_call 18; (with_reducible refine HW1.out.mono ?_); rintro e w18 ⟨rfl, hg18⟩; have HG18 := Lib.hid (Gr.tr HG17.out hg18); clear HW1)
                | (go_at_call 18; (with_reducible refine (HW2.out _ hg18).mono ?_); rintro e w19 ⟨rfl, hg19⟩; have HG19 := Lib.hid (Gr.tr HG18.out hg19); clear hg19))
              exact ⟨⟨k + 1, by omega, by go_num, HG19.out⟩, by simp [intOf]; omega⟩
            · have hk' : k = 2 := by omega
              subst hk'
              have HGz := Lib.hid (Gr.tr HG14.out hG)
              go_wp2_with (go_at_call 11; refine (HAW.out _ HGz.out).mono ?_; rintro e w20 ⟨rfl, hg20⟩)
              go_ret
              exact ⟨rfl, Gr.tr HGz.out hg20⟩
end Go.Proofs.YtdmhjabnjbpliaaGreatDoor.lkcuts
