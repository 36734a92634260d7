/- The walk of the law GateStrange: a request that says that it has a body is none's; of several Range fields none is heeded. Conditions: the library's tables and variables. -/
import Derived.Test.YtcfefflnebkjnaaGreatDoorGate9W
import Derived.Test.YtcfefflnebkjnaaGreatDoorGate7
set_option linter.unusedVariables false
set_option linter.unusedSimpArgs false
namespace Go.Proofs.YtcfefflnebkjnaaGreatDoor.lgstrange
open Go.RowKit
theorem stOld {w x : World} {v : Value} {n : Nat} {cs : List Value} {g : Nat} (h : Sl w v n cs) (k : Gr w x) (hg : w.heap.size ≤ g) (i : Nat) (u : Value) : Sl (x.setCell ⟨g, i, none⟩ u) v n cs := by
  have hk := Sl.gr h k
  obtain ⟨A, c, rfl, hc, hm, h⟩ := h
  rcases h with h | ⟨b, o, hA, hb, hj⟩
  · exact ⟨A, c, rfl, hc, hm, .inl h⟩
  · subst hA
    exact Sl.st hk (by simp only [Value.ownBlock, ne_eq, Option.some.injEq]; omega) _ _
set_option maxHeartbeats 16000000 in
set_option maxRecDepth 100000 in
theorem walk (q : ReqT) (vs vm vn : Value) (x : List UInt8) (w : World) (hm : Ml w) (hp : Pw w) (hz : Tz w) (ha : ReqA w q vs vm vn) (hl : ReqLow q) (_hx : x.length ≤ 140737488355328) :
    Calls Tryz.prog 6 #[reqV q vs vm vn, str x] w fun e w' => e = .returned (.bool true) ∧ Gr w w' := by
  obtain ⟨hd, o, l, mt, no, am, an, si, un, rx, rk⟩ := q
  have HA := Lib.hid ha
  have HL := Lib.hid hl
  obtain ⟨hs, hm', hn'⟩ := id ha
  simp only at hs hm' hn'
  obtain ⟨A1, a1, rfl, _, _, _⟩ := id hs.open
  obtain ⟨A2, a2, rfl, _, _, _⟩ := id hm'.open
  obtain ⟨A3, a3, rfl, _, _, _⟩ := id hn'.open
  have HAW := Lib.hid (fun (x : World) (g : Gr w x) => awake45_any x (hm.gr g) (hp.gr g) (hz.gr g))
  have HWD := Lib.hid (fun (x : World) (g : Gr w x) => show Calls Tryz.prog 15 #[.agg #[.bool hd, str o, .slice A1 l.length a1, .slice A2 mt.length a2, .slice A3 no.length a3, .bool am, .bool an, .int .i64 si, .int .i64 un, str rx, .bool rk]] x (fun e w' => e = .returned (.bool (wideB (hd, o, l, ⟨mt, no, am, an, si, un, (rx, rk)⟩))) ∧ Gr x w') from refWide_any (hd, o, l, ⟨mt, no, am, an, si, un, (rx, rk)⟩) _ _ _ x (ha.gr g) hl)
  have HLN := Lib.hid (fun (hw : wideB (hd, o, l, ⟨mt, no, am, an, si, un, (rx, rk)⟩) = false) => show mt.length ≤ 1000000 ∧ no.length ≤ 1000000 from by
    have h1 := (fewB_iff.1 (wideB_no hw).2.2)
    simp only at h1
    omega)
  have HPU := Lib.hid (fun (hw : wideB (hd, o, l, ⟨mt, no, am, an, si, un, (rx, rk)⟩) = false) (x : World) (g : Gr w x) => show Calls Tryz.prog 16 #[.agg #[.bool hd, str o, .slice A1 l.length a1, .slice A2 mt.length a2, .slice A3 no.length a3, .bool am, .bool an, .int .i64 si, .int .i64 un, str rx, .bool rk]] x (PutM x (putQ (hd, o, l, ⟨mt, no, am, an, si, un, (rx, rk)⟩))) from gatePut_any (hd, o, l, ⟨mt, no, am, an, si, un, (rx, rk)⟩) _ _ _ x (hp.gr g) (ha.gr g) hl (HLN.out hw).1 (HLN.out hw).2)
  have HRR := Lib.hid (fun (hw : wideB (hd, o, l, ⟨mt, no, am, an, si, un, (rx, rk)⟩) = false) (x : World) (g : Gr w x) => show Calls Tryz.prog 18 #[.agg #[.bool hd, str o, .slice A1 l.length a1, .slice A2 mt.length a2, .slice A3 no.length a3, .bool am, .bool an, .int .i64 si, .int .i64 un, str rx, .bool rk]] x (fun e w' => e = .returned (.bool (reqB (hd, o, l, ⟨mt, no, am, an, si, un, (rx, rk)⟩))) ∧ Gr x w') from refRight45_any (hd, o, l, ⟨mt, no, am, an, si, un, (rx, rk)⟩) _ _ _ x (ha.gr g) hl (HLN.out hw).1 (HLN.out hw).2)
  have HAK := Lib.hid (fun (s : List UInt8) (v : Value) (x : World) (g : Gr w x) (hb : Byts x v s) (h : s.length ≤ 100000) => gateAsk_any v s x hb (hm.gr g) h)
  have hbr := Bk.new w 31 #[.bool hd, str o, .slice A1 l.length a1, .slice A2 mt.length a2, .slice A3 no.length a3, .bool am, .bool an, .int .i64 si, .int .i64 un, str rx, .bool rk] (0, 0)
  have hG0 := Gr.al (Gr.refl w) (Obj.cells #[.bool hd, str o, .slice A1 l.length a1, .slice A2 mt.length a2, .slice A3 no.length a3, .bool am, .bool an, .int .i64 si, .int .i64 un, str rx, .bool rk] 31)
  clear hs hm' hn' ha hl hm hp hz
  unfold reqV
  simp only
  go_enter Tryz.func6, Tryz.ntmps6
  go_upto_region 1 with fail
  generalize w.alloc (Obj.cells #[.bool hd, str o, .slice A1 l.length a1, .slice A2 mt.length a2, .slice A3 no.length a3, .bool am, .bool an, .int .i64 si, .int .i64 un, str rx, .bool rk] 31) = w0 at *
  obtain ⟨g, hgq⟩ : ∃ g, g = w.heap.size := ⟨_, rfl⟩
  rw [← hgq] at hbr ⊢
  have HGQ := Lib.hid (show w.heap.size ≤ g from Nat.le_of_eq hgq.symm)
  clear hgq
  have r0 : ∀ x, Gr w0 x → x.cell? ⟨g, 0, none⟩ = some (.bool hd) := fun x h => (hbr.gr h).cell 0
  have r1 : ∀ x, Gr w0 x → x.cell? ⟨g, 1, none⟩ = some (str o) := fun x h => (hbr.gr h).cell 1
  have r2 : ∀ x, Gr w0 x → x.cell? ⟨g, 2, none⟩ = some (.slice A1 l.length a1) := fun x h => (hbr.gr h).cell 2
  have r3 : ∀ x, Gr w0 x → x.cell? ⟨g, 3, none⟩ = some (.slice A2 mt.length a2) := fun x h => (hbr.gr h).cell 3
  have r4 : ∀ x, Gr w0 x → x.cell? ⟨g, 4, none⟩ = some (.slice A3 no.length a3) := fun x h => (hbr.gr h).cell 4
  have r5 : ∀ x, Gr w0 x → x.cell? ⟨g, 5, none⟩ = some (.bool am) := fun x h => (hbr.gr h).cell 5
  have r6 : ∀ x, Gr w0 x → x.cell? ⟨g, 6, none⟩ = some (.bool an) := fun x h => (hbr.gr h).cell 6
  have r7 : ∀ x, Gr w0 x → x.cell? ⟨g, 7, none⟩ = some (.int .i64 si) := fun x h => (hbr.gr h).cell 7
  have r8 : ∀ x, Gr w0 x → x.cell? ⟨g, 8, none⟩ = some (.int .i64 un) := fun x h => (hbr.gr h).cell 8
  have r9 : ∀ x, Gr w0 x → x.cell? ⟨g, 9, none⟩ = some (str rx) := fun x h => (hbr.gr h).cell 9
  have r10 : ∀ x, Gr w0 x → x.cell? ⟨g, 10, none⟩ = some (.bool rk) := fun x h => (hbr.gr h).cell 10
  have h00 : Gr w0 w0 := Gr.refl w0
  have HG0 := Lib.hid hG0
  have HBR := Lib.hid hbr
  clear hbr hG0
  have HAW := Lib.hid (fun (x : World) (h : Gr w0 x) => HAW.out x (Gr.tr HG0.out h))
  have HWD := Lib.hid (fun (x : World) (h : Gr w0 x) => HWD.out x (Gr.tr HG0.out h))
  cases hw : wideB (hd, o, l, ⟨mt, no, am, an, si, un, (rx, rk)⟩) with
  | true =>
    rw [hw] at HWD
    clear HPU HRR HLN HAK hw
    go_wp2_with (first | (go_at_call 11; refine (HAW.out _ (by assumption)).mono ?_; rintro e wn ⟨rfl, hgn⟩; have hgg : Gr w0 wn := Gr.tr (by assumption) hgn; clear hgn) | (go_at_call 15; refine (HWD.out _ (by assumption)).mono ?_; rintro e wn ⟨rfl, hgn⟩; have hgg : Gr w0 wn := Gr.tr (by assumption) hgn; clear hgn))
    go_ret
    exact ⟨rfl, Gr.tr HG0.out (by assumption)⟩
  | false =>
    have HPU := Lib.hid (fun (x : World) (h : Gr w0 x) => HPU.out hw x (Gr.tr HG0.out h))
    have HRR := Lib.hid (fun (x : World) (h : Gr w0 x) => HRR.out hw x (Gr.tr HG0.out h))
    rw [hw] at HWD
    clear HLN hw
    by_cases k1 : 60 < x.length
    · have d1 : decide (60 < (x.length : Int)) = true := decide_eq_true (by omega)
      go_wp2_with (first | (go_at_call 11; refine (HAW.out _ (by assumption)).mono ?_; rintro e wn ⟨rfl, hgn⟩; have hgg : Gr w0 wn := Gr.tr (by assumption) hgn; clear hgn) | (go_at_call 15; refine (HWD.out _ (by assumption)).mono ?_; rintro e wn ⟨rfl, hgn⟩; have hgg : Gr w0 wn := Gr.tr (by assumption) hgn; clear hgn))
      go_ret
      exact ⟨rfl, Gr.tr HG0.out (by assumption)⟩
    have d1 : decide (60 < (x.length : Int)) = false := decide_eq_false (by omega)
    cases hrb : reqB (hd, o, l, ⟨mt, no, am, an, si, un, (rx, rk)⟩) with
    | false =>
      rw [hrb] at HRR
      clear hrb
      go_wp2_with (first | (go_at_call 11; refine (HAW.out _ (by assumption)).mono ?_; rintro e wn ⟨rfl, hgn⟩; have hgg : Gr w0 wn := Gr.tr (by assumption) hgn; clear hgn) | (go_at_call 15; refine (HWD.out _ (by assumption)).mono ?_; rintro e wn ⟨rfl, hgn⟩; have hgg : Gr w0 wn := Gr.tr (by assumption) hgn; clear hgn) | (go_at_call 18; refine (HRR.out _ (by assumption)).mono ?_; rintro e wn ⟨rfl, hgn⟩; have hgg : Gr w0 wn := Gr.tr (by assumption) hgn; clear hgn))
      go_ret
      exact ⟨rfl, Gr.tr HG0.out (by assumption)⟩
    | true =>
      rw [hrb] at HRR
      clear hrb
      have HS1 := Lib.hid (fun (h : (putQ (hd, o, l, ⟨mt, no, am, an, si, un, (rx, rk)⟩)).2 = 0) => strange1 h)
      have HS2 := Lib.hid (fun (h : (putQ (hd, o, l, ⟨mt, no, am, an, si, un, (rx, rk)⟩)).2 = 0) => strange2 h)
      have HS3 := Lib.hid (fun (h : (putQ (hd, o, l, ⟨mt, no, am, an, si, un, (rx, rk)⟩)).2 = 0) => strange3 h)
      have hle := putQ_le (hd, o, l, ⟨mt, no, am, an, si, un, (rx, rk)⟩)
      generalize putQ (hd, o, l, ⟨mt, no, am, an, si, un, (rx, rk)⟩) = R at *
      obtain ⟨B, E⟩ := R
      simp only at HS1 HS2 HS3 hle
      go_upto_region 4 with (first | (go_at_call 11; refine (HAW.out _ (by assumption)).mono ?_; rintro e wn ⟨rfl, hgn⟩; have hgg : Gr w0 wn := Gr.tr (by assumption) hgn; clear hgn) | (go_at_call 15; refine (HWD.out _ (by assumption)).mono ?_; rintro e wn ⟨rfl, hgn⟩; have hgg : Gr w0 wn := Gr.tr (by assumption) hgn; clear hgn) | (go_at_call 18; refine (HRR.out _ (by assumption)).mono ?_; rintro e wn ⟨rfl, hgn⟩; have hgg : Gr w0 wn := Gr.tr (by assumption) hgn; clear hgn) | (go_at_call 16; refine (HPU.out _ (by assumption)).mono ?_; rintro e w3 hp_; obtain ⟨P3, pc3, rfl, hB3, hg3, hf3⟩ := hp_.byts; have HB3 := Lib.hid hB3; have HF3 := Lib.hid hf3; have hgg : Gr w0 w3 := Gr.tr (by assumption) hg3; clear hB3 hf3 hp_))
      by_cases he : E = 0
      · subst he
        by_cases hb2 : B.length < 2
        · have d2 : decide ((B.length : Int) < 2) = true := decide_eq_true (by omega)
          go_wp2_with fail
          go_ret
          exact ⟨rfl, Gr.tr HG0.out (by assumption)⟩
        have d2 : decide ((B.length : Int) < 2) = false := decide_eq_false (by omega)
        have hs1 := HS1.out rfl
        have hs2 := HS2.out rfl
        obtain ⟨n3, hs3⟩ := HS3.out rfl
        have hTl : (List.take (B.length - 2) B).length ≤ 70000 := by rw [List.length_take]; omega
        have HS1 := Lib.hid hs1
        have HS2 := Lib.hid hs2
        have HS3 := Lib.hid hs3
        have HTL := Lib.hid hTl
        clear hs1 hs2 hs3 hTl
        go_upto_region 6 with fail
        go_upto_region 7 with (first
          | (refine wpList_slHi _ _ rfl rfl rfl rfl HB3.out ?_ ?_ ?_; omega; omega; intro A5 hA5; have HB5 := Lib.hid hA5; clear hA5)
          | (refine wpList_toStr _ rfl rfl rfl HB5.out ?_))
        have hgw : Gr w0 w3 := by assumption
        generalize List.take (B.length - 2) B = T at *
        have hTl : T.length ≤ 70000 := HTL.out
        have HA1 := Lib.hid (fun (v : Value) (x : World) (g : Gr w x) (hb : Byts x v (T ++ [84, 114, 97, 110, 115, 102, 101, 114, 45, 69, 110, 99, 111, 100, 105, 110, 103, 58, 32, 99, 104, 117, 110, 107, 101, 100, 13, 10, 13, 10])) => show Calls Tryz.prog 12 #[v] x (AskEnd x (ReqT.zero, 0, 2)) from by have h := HAK.out (T ++ [84, 114, 97, 110, 115, 102, 101, 114, 45, 69, 110, 99, 111, 100, 105, 110, 103, 58, 32, 99, 104, 117, 110, 107, 101, 100, 13, 10, 13, 10]) v x g hb (by have := HTL.out; simp only [List.length_append, List.length_cons, List.length_nil]; omega); rw [show askQ (T ++ [84, 114, 97, 110, 115, 102, 101, 114, 45, 69, 110, 99, 111, 100, 105, 110, 103, 58, 32, 99, 104, 117, 110, 107, 101, 100, 13, 10, 13, 10]) = (ReqT.zero, 0, 2) from HS1.out] at h; exact h)
        have HA2 := Lib.hid (fun (v : Value) (x : World) (g : Gr w x) (hb : Byts x v (T ++ [99, 111, 110, 116, 101, 110, 116, 45, 108, 101, 110, 103, 116, 104, 58, 32, 51, 13, 10, 13, 10])) => show Calls Tryz.prog 12 #[v] x (AskEnd x (ReqT.zero, 0, 2)) from by have h := HAK.out (T ++ [99, 111, 110, 116, 101, 110, 116, 45, 108, 101, 110, 103, 116, 104, 58, 32, 51, 13, 10, 13, 10]) v x g hb (by have := HTL.out; simp only [List.length_append, List.length_cons, List.length_nil]; omega); rw [show askQ (T ++ [99, 111, 110, 116, 101, 110, 116, 45, 108, 101, 110, 103, 116, 104, 58, 32, 51, 13, 10, 13, 10]) = (ReqT.zero, 0, 2) from HS2.out] at h; exact h)
        have HA3 := Lib.hid (fun (v : Value) (x : World) (g : Gr w x) (hb : Byts x v (T ++ [82, 97, 110, 103, 101, 58, 32, 98, 121, 116, 101, 115, 61, 48, 45, 49, 13, 10, 82, 97, 110, 103, 101, 58, 32, 98, 121, 116, 101, 115, 61, 48, 45, 49, 13, 10, 67, 111, 110, 116, 101, 110, 116, 45, 76, 101, 110, 103, 116, 104, 58, 32, 48, 13, 10, 13, 10])) => show Calls Tryz.prog 12 #[v] x (AskEnd x ((hd, o, [], ⟨mt, no, am, an, si, un, (rx, rk)⟩), n3, 0)) from by have h := HAK.out (T ++ [82, 97, 110, 103, 101, 58, 32, 98, 121, 116, 101, 115, 61, 48, 45, 49, 13, 10, 82, 97, 110, 103, 101, 58, 32, 98, 121, 116, 101, 115, 61, 48, 45, 49, 13, 10, 67, 111, 110, 116, 101, 110, 116, 45, 76, 101, 110, 103, 116, 104, 58, 32, 48, 13, 10, 13, 10]) v x g hb (by have := HTL.out; simp only [List.length_append, List.length_cons, List.length_nil]; omega); rw [show askQ (T ++ [82, 97, 110, 103, 101, 58, 32, 98, 121, 116, 101, 115, 61, 48, 45, 49, 13, 10, 82, 97, 110, 103, 101, 58, 32, 98, 121, 116, 101, 115, 61, 48, 45, 49, 13, 10, 67, 111, 110, 116, 101, 110, 116, 45, 76, 101, 110, 103, 116, 104, 58, 32, 48, 13, 10, 13, 10]) = ((hd, o, [], ⟨mt, no, am, an, si, un, (rx, rk)⟩), n3, 0) from HS3.out] at h; exact h)
        clear HS1 HS2 HS3 HAK HPU HAW HWD HRR hle HB3 HB5
        go_upto_region 8 with (first | (refine wpList_toBytsM (l := T ++ [84, 114, 97, 110, 115, 102, 101, 114, 45, 69, 110, 99, 111, 100, 105, 110, 103, 58, 32, 99, 104, 117, 110, 107, 101, 100, 13, 10, 13, 10]) _ rfl rfl rfl (by have := HTL.out; simp only [List.length_append, List.length_cons, List.length_nil]; omega) ?_; intro X1 x1 m1 w11 hn1 hM1 hg1; clear hn1; have HM1 := Lib.hid hM1.byts; have hgw : Gr w0 w11 := Gr.tr (by first | assumption | exact Gr.al (by assumption) _) hg1; clear hM1) | (go_at_call 12; refine (HA1.out _ _ (Gr.tr HG0.out (by assumption)) HM1.out).mono ?_; rintro e w21 ⟨us, um, un', rfl, hA1, hg1, hfa1, hfb1, hfc1⟩; obtain ⟨D1, yD1, rfl, -, -, -⟩ := id hA1.specs.open; obtain ⟨D2, yD2, rfl, -, -, -⟩ := id hA1.mt.open; obtain ⟨D3, yD3, rfl, -, -, -⟩ := id hA1.no.open; have HR1 := Lib.hid hA1; have HFR1 := Lib.hid (And.intro hfa1 (And.intro hfb1 hfc1)); have hgw : Gr w0 w21 := Gr.tr (by assumption) hg1; clear hA1 hfa1 hfb1 hfc1))
        go_upto_region 9 with (first | (refine wpList_toBytsM (l := T ++ [99, 111, 110, 116, 101, 110, 116, 45, 108, 101, 110, 103, 116, 104, 58, 32, 51, 13, 10, 13, 10]) _ rfl rfl rfl (by have := HTL.out; simp only [List.length_append, List.length_cons, List.length_nil]; omega) ?_; intro X2 x2 m2 w12 hn2 hM2 hg2; clear hn2; have HM2 := Lib.hid hM2.byts; have hgw : Gr w0 w12 := Gr.tr (by first | assumption | exact Gr.al (by assumption) _) hg2; clear hM2) | (go_at_call 12; refine (HA2.out _ _ (Gr.tr HG0.out (by assumption)) HM2.out).mono ?_; rintro e w22 ⟨us, um, un', rfl, hA2, hg2, hfa2, hfb2, hfc2⟩; obtain ⟨F1, yF1, rfl, -, -, -⟩ := id hA2.specs.open; obtain ⟨F2, yF2, rfl, -, -, -⟩ := id hA2.mt.open; obtain ⟨F3, yF3, rfl, -, -, -⟩ := id hA2.no.open; have HR2 := Lib.hid hA2; have HFR2 := Lib.hid (And.intro hfa2 (And.intro hfb2 hfc2)); have hgw : Gr w0 w22 := Gr.tr (by assumption) hg2; clear hA2 hfa2 hfb2 hfc2))
        go_upto_region 10 with (first | (refine wpList_toBytsM (l := T ++ [82, 97, 110, 103, 101, 58, 32, 98, 121, 116, 101, 115, 61, 48, 45, 49, 13, 10, 82, 97, 110, 103, 101, 58, 32, 98, 121, 116, 101, 115, 61, 48, 45, 49, 13, 10, 67, 111, 110, 116, 101, 110, 116, 45, 76, 101, 110, 103, 116, 104, 58, 32, 48, 13, 10, 13, 10]) _ rfl rfl rfl (by have := HTL.out; simp only [List.length_append, List.length_cons, List.length_nil]; omega) ?_; intro X3 x3 m3 w13 hn3 hM3 hg3; clear hn3; have HM3 := Lib.hid hM3.byts; have hgw : Gr w0 w13 := Gr.tr (by first | assumption | exact Gr.al (by assumption) _) hg3; clear hM3) | (go_at_call 12; refine (HA3.out _ _ (Gr.tr HG0.out (by assumption)) HM3.out).mono ?_; rintro e w23 ⟨us, um, un', rfl, hA3, hg3, hfa3, hfb3, hfc3⟩; obtain ⟨J1, yJ1, rfl, -, -, -⟩ := id hA3.specs.open; obtain ⟨J2, yJ2, rfl, -, -, -⟩ := id hA3.mt.open; obtain ⟨J3, yJ3, rfl, -, -, -⟩ := id hA3.no.open; have HR3 := Lib.hid hA3; have HFR3 := Lib.hid (And.intro hfa3 (And.intro hfb3 hfc3)); have hgw : Gr w0 w23 := Gr.tr (by assumption) hg3; clear hA3 hfa3 hfb3 hfc3))
        refine at_world (P := Code.wp _ _ _ _) (w0 := w23.alloc (Obj.cells #[.bool hd, str o, .slice J1 0 yJ1, .slice J2 mt.length yJ2, .slice J3 no.length yJ3, .bool am, .bool an, .int .i64 si, .int .i64 un, str rx, .bool rk] 31)) ?_
        intro w7 hw_
        have hbt : Bk w7 w23.heap.size 31 #[.bool hd, str o, .slice J1 0 yJ1, .slice J2 mt.length yJ2, .slice J3 no.length yJ3, .bool am, .bool an, .int .i64 si, .int .i64 un, str rx, .bool rk] (0, 0) := by rw [hw_]; exact Bk.new w23 _ _ _
        have hGt : Gr w23 w7 := by rw [hw_]; exact Gr.al (Gr.refl w23) _
        clear hw_
        have h023 : Gr w0 w23 := by assumption
        have h013 : Gr w0 w13 := by assumption
        have hlt : g < w0.heap.size := Bk.lt HBR.out
        have hne7 : w23.heap.size ≠ g := by have := h023.size; omega
        generalize w23.heap.size = g7 at *
        have H07 := Lib.hid (Gr.tr h023 hGt)
        have hQ7 := HBR.out.gr H07.out
        have q2 := hQ7.cell 2
        have f2 := hQ7.free 2 (.inr (Nat.zero_le _))
        have hQ8 : Bk (w7.setCell ⟨g, 2, none⟩ (.slice none 0 0)) g 31 #[.bool hd, str o, .slice none 0 0, .slice A2 mt.length a2, .slice A3 no.length a3, .bool am, .bool an, .int .i64 si, .int .i64 un, str rx, .bool rk] (0, 0) := by have := hQ7.set 2 (.slice none 0 0); simpa using this
        have hR8 := hbt.far (p := ⟨g, 2, none⟩) hne7 (.slice none 0 0)
        have HG8 := Lib.hid (Gr.st (Gr.tr HG0.out H07.out) (p := ⟨g, 2, none⟩) HGQ.out (.slice none 0 0))
        have hf1 := fresh_ne (g := g) HFR3.out.1 (Nat.lt_of_lt_of_le hlt h013.size)
        have hf2 := fresh_ne (g := g) HFR3.out.2.1 (Nat.lt_of_lt_of_le hlt h013.size)
        have hf3 := fresh_ne (g := g) HFR3.out.2.2 (Nat.lt_of_lt_of_le hlt h013.size)
        have hr7 := HR3.out.gr hGt
        have hRA : ReqA (w7.setCell ⟨g, 2, none⟩ (.slice none 0 0)) (hd, o, ([] : List SpecT), ⟨mt, no, am, an, si, un, (rx, rk)⟩) (.slice J1 0 yJ1) (.slice J2 mt.length yJ2) (.slice J3 no.length yJ3) := ⟨Sl.st hr7.specs hf1 _ _, Sl.st hr7.mt hf2 _ _, Sl.st hr7.no hf3 _ _⟩
        have hQA : ReqA (w7.setCell ⟨g, 2, none⟩ (.slice none 0 0)) (hd, o, ([] : List SpecT), ⟨mt, no, am, an, si, un, (rx, rk)⟩) (.slice none 0 0) (.slice A2 mt.length a2) (.slice A3 no.length a3) := ⟨Specs.nil _, stOld HA.out.mt (Gr.tr HG0.out H07.out) HGQ.out _ _, stOld HA.out.no (Gr.tr HG0.out H07.out) HGQ.out _ _⟩
        have HSM := Lib.hid (fun (x : World) (k : Gr (w7.setCell ⟨g, 2, none⟩ (.slice none 0 0)) x) => show Calls Tryz.prog 14 #[.agg #[.bool hd, str o, .slice J1 0 yJ1, .slice J2 mt.length yJ2, .slice J3 no.length yJ3, .bool am, .bool an, .int .i64 si, .int .i64 un, str rx, .bool rk], .agg #[.bool hd, str o, .slice none 0 0, .slice A2 mt.length a2, .slice A3 no.length a3, .bool am, .bool an, .int .i64 si, .int .i64 un, str rx, .bool rk]] x (fun e w' => e = .returned (.bool true) ∧ Gr x w') from refSame45_eq (hd, o, ([] : List SpecT), ⟨mt, no, am, an, si, un, (rx, rk)⟩) _ _ _ _ _ _ x (hRA.gr k) (hQA.gr k))
        clear hRA hQA hr7 hf1 hf2 hf3 hQ7 h013 h023 hlt hne7 HR3 HFR3 HFR1 HFR2 HR1 HR2 hGt
        go_upto_region 11 with fail
        refine at_world (P := Code.wp _ _ _ _) (w0 := w7.setCell ⟨g, 2, none⟩ (.slice none 0 0)) ?_
        intro w8 hw_
        rw [← hw_] at hQ8 hR8 HG8 HSM
        clear hw_ hbt q2 f2
        have h88 := Gr.refl w8
        have s0 : ∀ x, Gr w8 x → x.cell? ⟨g, 0, none⟩ = some (.bool hd) := fun x h => (hQ8.gr h).cell 0
        have s1 : ∀ x, Gr w8 x → x.cell? ⟨g, 1, none⟩ = some (str o) := fun x h => (hQ8.gr h).cell 1
        have s2 : ∀ x, Gr w8 x → x.cell? ⟨g, 2, none⟩ = some (.slice none 0 0) := fun x h => (hQ8.gr h).cell 2
        have s3 : ∀ x, Gr w8 x → x.cell? ⟨g, 3, none⟩ = some (.slice A2 mt.length a2) := fun x h => (hQ8.gr h).cell 3
        have s4 : ∀ x, Gr w8 x → x.cell? ⟨g, 4, none⟩ = some (.slice A3 no.length a3) := fun x h => (hQ8.gr h).cell 4
        have s5 : ∀ x, Gr w8 x → x.cell? ⟨g, 5, none⟩ = some (.bool am) := fun x h => (hQ8.gr h).cell 5
        have s6 : ∀ x, Gr w8 x → x.cell? ⟨g, 6, none⟩ = some (.bool an) := fun x h => (hQ8.gr h).cell 6
        have s7 : ∀ x, Gr w8 x → x.cell? ⟨g, 7, none⟩ = some (.int .i64 si) := fun x h => (hQ8.gr h).cell 7
        have s8 : ∀ x, Gr w8 x → x.cell? ⟨g, 8, none⟩ = some (.int .i64 un) := fun x h => (hQ8.gr h).cell 8
        have s9 : ∀ x, Gr w8 x → x.cell? ⟨g, 9, none⟩ = some (str rx) := fun x h => (hQ8.gr h).cell 9
        have s10 : ∀ x, Gr w8 x → x.cell? ⟨g, 10, none⟩ = some (.bool rk) := fun x h => (hQ8.gr h).cell 10
        have t0 : ∀ x, Gr w8 x → x.cell? ⟨g7, 0, none⟩ = some (.bool hd) := fun x h => (hR8.gr h).cell 0
        have t1 : ∀ x, Gr w8 x → x.cell? ⟨g7, 1, none⟩ = some (str o) := fun x h => (hR8.gr h).cell 1
        have t2 : ∀ x, Gr w8 x → x.cell? ⟨g7, 2, none⟩ = some (.slice J1 0 yJ1) := fun x h => (hR8.gr h).cell 2
        have t3 : ∀ x, Gr w8 x → x.cell? ⟨g7, 3, none⟩ = some (.slice J2 mt.length yJ2) := fun x h => (hR8.gr h).cell 3
        have t4 : ∀ x, Gr w8 x → x.cell? ⟨g7, 4, none⟩ = some (.slice J3 no.length yJ3) := fun x h => (hR8.gr h).cell 4
        have t5 : ∀ x, Gr w8 x → x.cell? ⟨g7, 5, none⟩ = some (.bool am) := fun x h => (hR8.gr h).cell 5
        have t6 : ∀ x, Gr w8 x → x.cell? ⟨g7, 6, none⟩ = some (.bool an) := fun x h => (hR8.gr h).cell 6
        have t7 : ∀ x, Gr w8 x → x.cell? ⟨g7, 7, none⟩ = some (.int .i64 si) := fun x h => (hR8.gr h).cell 7
        have t8 : ∀ x, Gr w8 x → x.cell? ⟨g7, 8, none⟩ = some (.int .i64 un) := fun x h => (hR8.gr h).cell 8
        have t9 : ∀ x, Gr w8 x → x.cell? ⟨g7, 9, none⟩ = some (str rx) := fun x h => (hR8.gr h).cell 9
        have t10 : ∀ x, Gr w8 x → x.cell? ⟨g7, 10, none⟩ = some (.bool rk) := fun x h => (hR8.gr h).cell 10
        clear hQ8 hR8
        go_wp2_with (go_at_call 14; refine (HSM.out _ (by assumption)).mono ?_; rintro e w9 ⟨rfl, hg9⟩)
        go_ret
        exact ⟨rfl, Gr.tr HG8.out hg9⟩
      · have d0 : ((E : Int) != 0) = true := by simp; omega
        go_wp2_with fail
        go_ret
        exact ⟨rfl, Gr.tr HG0.out (by assumption)⟩
end Go.Proofs.YtcfefflnebkjnaaGreatDoor.lgstrange
