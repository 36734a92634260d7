/- The walk of the law GateBack: a right request is read as it was, whatever stands behind; cut off anywhere, more is asked for. Conditions: the library's tables and variables. -/
import Derived.Test.YtcfefflnebkjnaaGreatDoorGate9W
import Derived.Test.YtcfefflnebkjnaaGreatDoorGate7
set_option linter.unusedVariables false
set_option linter.unusedSimpArgs false
namespace Go.Proofs.YtcfefflnebkjnaaGreatDoor.lgback
open Go.RowKit
set_option maxHeartbeats 16000000 in
set_option maxRecDepth 100000 in
theorem walk (q : ReqT) (vs vm vn : Value) (u : Value) (bh : List UInt8) (cut : Int) (w : World) (hm : Ml w) (hp : Pw w) (hz : Tz w) (ha : ReqA w q vs vm vn) (hl : ReqLow q) (hu : Byts w u bh) (hcut : -9223372036854775808 ≤ cut ∧ cut ≤ 9223372036854775807) :
    Calls Tryz.prog 5 #[reqV q vs vm vn, u, .int .i64 cut] w fun e w' => e = .returned (.bool true) ∧ Gr w w' := by
  obtain ⟨Au, cu, rfl, _, _, _⟩ := id hu.open
  have HU := Lib.hid (fun (x : World) (g : Gr w x) => hu.gr g)
  clear hu
  obtain ⟨hd, o, l, mt, no, am, an, si, un, rx, rk⟩ := q
  have HA := Lib.hid ha
  have HL := Lib.hid hl
  obtain ⟨hs, hm', hn'⟩ := id ha
  simp only at hs hm' hn'
  obtain ⟨A1, a1, rfl, _, _, _⟩ := id hs.open
  obtain ⟨A2, a2, rfl, _, _, _⟩ := id hm'.open
  obtain ⟨A3, a3, rfl, _, _, _⟩ := id hn'.open
  have HAW := Lib.hid (fun (x : World) (g : Gr w x) => awake45_any x (hm.gr g) (hp.gr g) (hz.gr g))
  have HWD := Lib.hid (fun (x : World) (g : Gr w x) => show Calls Tryz.prog 15 #[.agg #[.bool hd, str o, .slice A1 l.length a1, .slice A2 mt.length a2, .slice A3 no.length a3, .bool am, .bool an, .int .i64 si, .int .i64 un, str rx, .bool rk]] x (fun e w' => e = .returned (.bool (wideB (hd, o, l, ⟨mt, no, am, an, si, un, (rx, rk)⟩))) ∧ Gr x w') from refWide_any (hd, o, l, ⟨mt, no, am, an, si, un, (rx, rk)⟩) _ _ _ x (ha.gr g) hl)
  have HLN := Lib.hid (fun (hw : wideB (hd, o, l, ⟨mt, no, am, an, si, un, (rx, rk)⟩) = false) => show mt.length ≤ 1000000 ∧ no.length ≤ 1000000 from by
    have h1 := (fewB_iff.1 (wideB_no hw).2.2)
    simp only at h1
    omega)
  have HPU := Lib.hid (fun (hw : wideB (hd, o, l, ⟨mt, no, am, an, si, un, (rx, rk)⟩) = false) (x : World) (g : Gr w x) => show Calls Tryz.prog 16 #[.agg #[.bool hd, str o, .slice A1 l.length a1, .slice A2 mt.length a2, .slice A3 no.length a3, .bool am, .bool an, .int .i64 si, .int .i64 un, str rx, .bool rk]] x (PutM x (putQ (hd, o, l, ⟨mt, no, am, an, si, un, (rx, rk)⟩))) from gatePut_any (hd, o, l, ⟨mt, no, am, an, si, un, (rx, rk)⟩) _ _ _ x (hp.gr g) (ha.gr g) hl (HLN.out hw).1 (HLN.out hw).2)
  have HRR := Lib.hid (fun (hw : wideB (hd, o, l, ⟨mt, no, am, an, si, un, (rx, rk)⟩) = false) (x : World) (g : Gr w x) => show Calls Tryz.prog 18 #[.agg #[.bool hd, str o, .slice A1 l.length a1, .slice A2 mt.length a2, .slice A3 no.length a3, .bool am, .bool an, .int .i64 si, .int .i64 un, str rx, .bool rk]] x (fun e w' => e = .returned (.bool (reqB (hd, o, l, ⟨mt, no, am, an, si, un, (rx, rk)⟩))) ∧ Gr x w') from refRight45_any (hd, o, l, ⟨mt, no, am, an, si, un, (rx, rk)⟩) _ _ _ x (ha.gr g) hl (HLN.out hw).1 (HLN.out hw).2)
  have HAK := Lib.hid (fun (s : List UInt8) (v : Value) (x : World) (g : Gr w x) (hb : Byts x v s) (h : s.length ≤ 100000) => gateAsk_any v s x hb (hm.gr g) h)
  have hbr := Bk.new w 31 #[.bool hd, str o, .slice A1 l.length a1, .slice A2 mt.length a2, .slice A3 no.length a3, .bool am, .bool an, .int .i64 si, .int .i64 un, str rx, .bool rk] (0, 0)
  have hG0 := Gr.al (Gr.refl w) (Obj.cells #[.bool hd, str o, .slice A1 l.length a1, .slice A2 mt.length a2, .slice A3 no.length a3, .bool am, .bool an, .int .i64 si, .int .i64 un, str rx, .bool rk] 31)
  clear hs hm' hn' ha hl hm hp hz
  unfold reqV
  simp only
  go_enter Tryz.func5, Tryz.ntmps5
  go_upto_region 1 with fail
  generalize w.alloc (Obj.cells #[.bool hd, str o, .slice A1 l.length a1, .slice A2 mt.length a2, .slice A3 no.length a3, .bool am, .bool an, .int .i64 si, .int .i64 un, str rx, .bool rk] 31) = w0 at *
  obtain ⟨g, hgq⟩ : ∃ g, g = w.heap.size := ⟨_, rfl⟩
  rw [← hgq] at hbr ⊢
  have HGQ := Lib.hid (show w.heap.size ≤ g from Nat.le_of_eq hgq.symm)
  clear hgq
  have r0 : ∀ x, Gr w0 x → x.cell? ⟨g, 0, none⟩ = some (.bool hd) := fun x h => (hbr.gr h).cell 0
  have r1 : ∀ x, Gr w0 x → x.cell? ⟨g, 1, none⟩ = some (str o) := fun x h => (hbr.gr h).cell 1
  have r2 : ∀ x, Gr w0 x → x.cell? ⟨g, 2, none⟩ = some (.slice A1 l.length a1) := fun x h => (hbr.gr h).cell 2
  have r3 : ∀ x, Gr w0 x → x.cell? ⟨g, 3, none⟩ = some (.slice A2 mt.length a2) := fun x h => (hbr.gr h).cell 3
  have r4 : ∀ x, Gr w0 x → x.cell? ⟨g, 4, none⟩ = some (.slice A3 no.length a3) := fun x h => (hbr.gr h).cell 4
  have r5 : ∀ x, Gr w0 x → x.cell? ⟨g, 5, none⟩ = some (.bool am) := fun x h => (hbr.gr h).cell 5
  have r6 : ∀ x, Gr w0 x → x.cell? ⟨g, 6, none⟩ = some (.bool an) := fun x h => (hbr.gr h).cell 6
  have r7 : ∀ x, Gr w0 x → x.cell? ⟨g, 7, none⟩ = some (.int .i64 si) := fun x h => (hbr.gr h).cell 7
  have r8 : ∀ x, Gr w0 x → x.cell? ⟨g, 8, none⟩ = some (.int .i64 un) := fun x h => (hbr.gr h).cell 8
  have r9 : ∀ x, Gr w0 x → x.cell? ⟨g, 9, none⟩ = some (str rx) := fun x h => (hbr.gr h).cell 9
  have r10 : ∀ x, Gr w0 x → x.cell? ⟨g, 10, none⟩ = some (.bool rk) := fun x h => (hbr.gr h).cell 10
  have h00 : Gr w0 w0 := Gr.refl w0
  have HG0 := Lib.hid hG0
  have HBR := Lib.hid hbr
  clear hbr hG0
  have HAW := Lib.hid (fun (x : World) (h : Gr w0 x) => HAW.out x (Gr.tr HG0.out h))
  have HWD := Lib.hid (fun (x : World) (h : Gr w0 x) => HWD.out x (Gr.tr HG0.out h))
  cases hw : wideB (hd, o, l, ⟨mt, no, am, an, si, un, (rx, rk)⟩) with
  | true =>
    rw [hw] at HWD
    clear HPU HRR HLN HAK hw
    go_wp2_with (first | (go_at_call 11; refine (HAW.out _ (by assumption)).mono ?_; rintro e wn ⟨rfl, hgn⟩; have hgg : Gr w0 wn := Gr.tr (by assumption) hgn; clear hgn) | (go_at_call 15; refine (HWD.out _ (by assumption)).mono ?_; rintro e wn ⟨rfl, hgn⟩; have hgg : Gr w0 wn := Gr.tr (by assumption) hgn; clear hgn))
    go_ret
    exact ⟨rfl, Gr.tr HG0.out (by assumption)⟩
  | false =>
    have HPU := Lib.hid (fun (x : World) (h : Gr w0 x) => HPU.out hw x (Gr.tr HG0.out h))
    have HRR := Lib.hid (fun (x : World) (h : Gr w0 x) => HRR.out hw x (Gr.tr HG0.out h))
    rw [hw] at HWD
    clear HLN hw
    by_cases k1 : 100 < bh.length
    · have d1 : decide (100 < (bh.length : Int)) = true := decide_eq_true (by omega)
      go_wp2_with (first | (go_at_call 11; refine (HAW.out _ (by assumption)).mono ?_; rintro e wn ⟨rfl, hgn⟩; have hgg : Gr w0 wn := Gr.tr (by assumption) hgn; clear hgn) | (go_at_call 15; refine (HWD.out _ (by assumption)).mono ?_; rintro e wn ⟨rfl, hgn⟩; have hgg : Gr w0 wn := Gr.tr (by assumption) hgn; clear hgn))
      go_ret
      exact ⟨rfl, Gr.tr HG0.out (by assumption)⟩
    have d1 : decide (100 < (bh.length : Int)) = false := decide_eq_false (by omega)
    have HBK := Lib.hid (fun (h : (putQ (hd, o, l, ⟨mt, no, am, an, si, un, (rx, rk)⟩)).2 = 0) (more : List UInt8) => askQ_back h more)
    have HCT := Lib.hid (fun (h : (putQ (hd, o, l, ⟨mt, no, am, an, si, un, (rx, rk)⟩)).2 = 0) (k : Nat) (hk : k < (putQ (hd, o, l, ⟨mt, no, am, an, si, un, (rx, rk)⟩)).1.length) => askQ_cut h k hk)
    have HBD := Lib.hid (fun (h : (putQ (hd, o, l, ⟨mt, no, am, an, si, un, (rx, rk)⟩)).2 ≠ 0) => putQ_bad h)
    have hle := putQ_le (hd, o, l, ⟨mt, no, am, an, si, un, (rx, rk)⟩)
    generalize putQ (hd, o, l, ⟨mt, no, am, an, si, un, (rx, rk)⟩) = R at *
    obtain ⟨B, E⟩ := R
    simp only at HBK HCT HBD hle
    have HLE := Lib.hid hle
    have HBH := Lib.hid (show bh.length ≤ 100 from by omega)
    clear hle k1
    go_upto_region 4 with (first | (go_at_call 11; refine (HAW.out _ (by assumption)).mono ?_; rintro e wn ⟨rfl, hgn⟩; have hgg : Gr w0 wn := Gr.tr (by assumption) hgn; clear hgn) | (go_at_call 15; refine (HWD.out _ (by assumption)).mono ?_; rintro e wn ⟨rfl, hgn⟩; have hgg : Gr w0 wn := Gr.tr (by assumption) hgn; clear hgn) | (go_at_call 16; refine (HPU.out _ (by assumption)).mono ?_; rintro e w3 hp_; obtain ⟨P3, pc3, rfl, hB3, hg3, hf3⟩ := hp_.byts; have HB3 := Lib.hid hB3; have HF3 := Lib.hid hf3; have hgg : Gr w0 w3 := Gr.tr (by assumption) hg3; clear hB3 hf3 hp_))
    by_cases he : E = 0
    · subst he
      have HBK1 := Lib.hid (HBK.out rfl bh)
      have HCT1 := Lib.hid (HCT.out rfl)
      go_upto_region 6 with fail
      have hg03 : Gr w0 w3 := hgg
      clear HBK HCT hgg HPU HBD HAW HWD HRR
      have HLEN := Lib.hid (show (B ++ bh).length ≤ 100000 from by have := HLE.out; have := HBH.out; rw [List.length_append]; omega)
      have HAK6 := Lib.hid (fun (v : Value) (x : World) (g : Gr w x) (hb : Byts x v (B ++ bh)) => show Calls Tryz.prog 12 #[v] x (AskEnd x ((hd, o, l, ⟨mt, no, am, an, si, un, (rx, rk)⟩), B.length, 0)) from by have h := HAK.out (B ++ bh) v x g hb HLEN.out; rw [HBK1.out] at h; exact h)
      have hG3a := Gr.al (Gr.refl w3) (Obj.cells #[] 5)
      go_upto_region 7 with (first
        | (at_builtin; refine wpList_appS (W0 := w3) (n := 0) (m := B.length) (news := B.map byt) elemByte rfl _ _ rfl rfl rfl hG3a.size (own_nil0 w3 5 1) (HB3.out.gr hG3a) (by simp) (one_byt B) (by have := HLE.out; omega) (by decide) ?_; intro v4 w4 hown4 happ4; rw [Nat.zero_add, List.nil_append] at hown4; obtain ⟨A4, c4, rfl⟩ := hown4.form; have hG34 := happ4.gr hG3a (own_nil0 w3 5 1); have HO4 := Lib.hid hown4; clear hown4 happ4)
        | (at_builtin; refine wpList_appS (W0 := w3) (n := B.length) (m := bh.length) (news := bh.map byt) elemByte rfl _ _ rfl rfl rfl hG34.size HO4.out (HU.out _ (Gr.tr HG0.out (Gr.tr hg03 hG34))) (by simp) (one_byt bh) (by have := HLE.out; have := HBH.out; omega) (by decide) ?_; intro v5 w5 hown5 happ5; obtain ⟨A5, c5, rfl⟩ := hown5.form; have hG35 := happ5.gr hG34 HO4.out; have HB5 := Lib.hid (own_byts (l := B ++ bh) (by rw [List.length_append, List.map_append]; exact hown5)); have hg05 := Gr.tr hg03 hG35; clear hown5 happ5)
        | (go_at_call 12; refine (HAK6.out _ _ (Gr.tr HG0.out hg05) (HB5.out)).mono ?_; rintro e w6 ⟨us, um, un', rfl, hA6, hg6, hfa6, hfb6, hfc6⟩; obtain ⟨B1, b1, rfl, -, -, -⟩ := id hA6.specs.open; obtain ⟨B2, b2, rfl, -, -, -⟩ := id hA6.mt.open; obtain ⟨B3, b3, rfl, -, -, -⟩ := id hA6.no.open; have HA6 := Lib.hid hA6; have hg06 := Gr.tr hg05 hg6; clear hA6 hfa6 hfb6 hfc6))
      refine at_world (P := Code.wp _ _ _ _) (w0 := w6.alloc (Obj.cells #[.bool hd, str o, .slice B1 l.length b1, .slice B2 mt.length b2, .slice B3 no.length b3, .bool am, .bool an, .int .i64 si, .int .i64 un, str rx, .bool rk] 31)) ?_
      intro w7 hw_
      have hbt : Bk w7 w6.heap.size 31 #[.bool hd, str o, .slice B1 l.length b1, .slice B2 mt.length b2, .slice B3 no.length b3, .bool am, .bool an, .int .i64 si, .int .i64 un, str rx, .bool rk] (0, 0) := by rw [hw_]; exact Bk.new w6 _ _ _
      have hGt : Gr w6 w7 := by rw [hw_]; exact Gr.al (Gr.refl w6) _
      clear hw_
      generalize w6.heap.size = g6 at *
      have t0 : ∀ x, Gr w7 x → x.cell? ⟨g6, 0, none⟩ = some (.bool hd) := fun x h => (hbt.gr h).cell 0
      have t1 : ∀ x, Gr w7 x → x.cell? ⟨g6, 1, none⟩ = some (str o) := fun x h => (hbt.gr h).cell 1
      have t2 : ∀ x, Gr w7 x → x.cell? ⟨g6, 2, none⟩ = some (.slice B1 l.length b1) := fun x h => (hbt.gr h).cell 2
      have t3 : ∀ x, Gr w7 x → x.cell? ⟨g6, 3, none⟩ = some (.slice B2 mt.length b2) := fun x h => (hbt.gr h).cell 3
      have t4 : ∀ x, Gr w7 x → x.cell? ⟨g6, 4, none⟩ = some (.slice B3 no.length b3) := fun x h => (hbt.gr h).cell 4
      have t5 : ∀ x, Gr w7 x → x.cell? ⟨g6, 5, none⟩ = some (.bool am) := fun x h => (hbt.gr h).cell 5
      have t6 : ∀ x, Gr w7 x → x.cell? ⟨g6, 6, none⟩ = some (.bool an) := fun x h => (hbt.gr h).cell 6
      have t7 : ∀ x, Gr w7 x → x.cell? ⟨g6, 7, none⟩ = some (.int .i64 si) := fun x h => (hbt.gr h).cell 7
      have t8 : ∀ x, Gr w7 x → x.cell? ⟨g6, 8, none⟩ = some (.int .i64 un) := fun x h => (hbt.gr h).cell 8
      have t9 : ∀ x, Gr w7 x → x.cell? ⟨g6, 9, none⟩ = some (str rx) := fun x h => (hbt.gr h).cell 9
      have t10 : ∀ x, Gr w7 x → x.cell? ⟨g6, 10, none⟩ = some (.bool rk) := fun x h => (hbt.gr h).cell 10
      have HG6 := Lib.hid (Gr.tr hg06 hGt)
      have hg06 : Gr w0 w7 := HG6.out
      have HSM := Lib.hid (refSame45_eq (hd, o, l, ⟨mt, no, am, an, si, un, (rx, rk)⟩) _ _ _ _ _ _ w7 (HA6.out.gr hGt) (HA.out.gr (Gr.tr HG0.out HG6.out)))
      have HSM := Lib.hid (show Calls Tryz.prog 14 #[.agg #[.bool hd, str o, .slice B1 l.length b1, .slice B2 mt.length b2, .slice B3 no.length b3, .bool am, .bool an, .int .i64 si, .int .i64 un, str rx, .bool rk], .agg #[.bool hd, str o, .slice A1 l.length a1, .slice A2 mt.length a2, .slice A3 no.length a3, .bool am, .bool an, .int .i64 si, .int .i64 un, str rx, .bool rk]] w7 (fun e w' => e = .returned (.bool true) ∧ Gr w7 w') from HSM.out)
      have h77 : Gr w7 w7 := Gr.refl w7
      go_upto_region 9 with (go_at_call 14; refine HSM.out.mono ?_; rintro e w8 ⟨rfl, hg8⟩; have hg08 := Gr.tr HG6.out hg8)
      by_cases c0 : cut < 0
      · have dc : decide (cut < 0) = true := decide_eq_true c0
        go_wp2_with fail
        go_ret
        exact ⟨rfl, Gr.tr HG0.out hg08⟩
      have dc : decide (cut < 0) = false := decide_eq_false c0
      by_cases c9 : (B.length : Int) ≤ cut
      · have dd : decide ((B.length : Int) ≤ cut) = true := decide_eq_true c9
        go_wp2_with fail
        go_ret
        exact ⟨rfl, Gr.tr HG0.out hg08⟩
      have dd : decide ((B.length : Int) ≤ cut) = false := decide_eq_false c9
      obtain ⟨k, rfl⟩ : ∃ k : Nat, cut = k := ⟨cut.toNat, by omega⟩
      have HCT2 := Lib.hid (HCT1.out k (by omega))
      have HAK9 := Lib.hid (fun (v : Value) (x : World) (g : Gr w x) (hb : Byts x v (B.take k)) => show Calls Tryz.prog 12 #[v] x (AskEnd x (ReqT.zero, 0, 3)) from by have h := HAK.out (B.take k) v x g hb (by have := HLE.out; rw [List.length_take]; omega); rw [HCT2.out] at h; exact h)
      have HB8 := Lib.hid (HB3.out.gr (Gr.tr (Gr.tr (Gr.tr hG35 hg6) hGt) hg8))
      go_upto_region 12 with (first
        | (refine wpList_slHi _ _ rfl rfl rfl rfl HB8.out ?_ ?_ ?_; omega; omega; intro A9 hA9; have HB9 := Lib.hid hA9; clear hA9)
        | (go_at_call 12; refine (HAK9.out _ _ (Gr.tr HG0.out hg08) HB9.out).mono ?_; rintro e w10 ⟨us, um, un', rfl, hA10, hg10, hfa10, hfb10, hfc10⟩; obtain ⟨D1, d1', rfl, -, -, -⟩ := id hA10.specs.open; obtain ⟨D2, d2', rfl, -, -, -⟩ := id hA10.mt.open; obtain ⟨D3, d3', rfl, -, -, -⟩ := id hA10.no.open; have hg010 := Gr.tr hg08 hg10; clear hA10 hfa10 hfb10 hfc10))
      go_wp2_with fail
      go_ret
      exact ⟨rfl, Gr.tr HG0.out (Gr.tr hg010 (Gr.al (Gr.refl _) _))⟩
    · have d0 : ((E : Int) != 0) = true := by simp; omega
      obtain rfl := HBD.out he
      cases hrb : reqB (hd, o, l, ⟨mt, no, am, an, si, un, (rx, rk)⟩) with
      | true =>
        rw [hrb] at HRR
        go_wp2_with (go_at_call 18; refine (HRR.out _ (by assumption)).mono ?_; rintro e wn ⟨rfl, hgn⟩; have hgg : Gr w0 wn := Gr.tr (by assumption) hgn; clear hgn)
        go_ret
        exact ⟨rfl, Gr.tr HG0.out (by assumption)⟩
      | false =>
        rw [hrb] at HRR
        go_wp2_with (go_at_call 18; refine (HRR.out _ (by assumption)).mono ?_; rintro e wn ⟨rfl, hgn⟩; have hgg : Gr w0 wn := Gr.tr (by assumption) hgn; clear hgn)
        go_ret
        exact ⟨rfl, Gr.tr HG0.out (by assumption)⟩
end Go.Proofs.YtcfefflnebkjnaaGreatDoor.lgback
