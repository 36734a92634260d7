/- The walk of the law GatePuts: any request has the bytes that the document says, or none. Conditions: the library's tables and variables. -/
import Derived.Test.YtcfefflnebkjnaaGreatDoorGate9W
import Derived.Test.YtcfefflnebkjnaaGreatDoorGate8R
set_option linter.unusedVariables false
set_option linter.unusedSimpArgs false
namespace Go.Proofs.YtcfefflnebkjnaaGreatDoor.lgputs
open Go.RowKit
set_option maxHeartbeats 16000000 in
set_option maxRecDepth 100000 in
theorem walk (q : ReqT) (vs vm vn : Value) (w : World) (hm : Ml w) (hp : Pw w) (hz : Tz w) (ha : ReqA w q vs vm vn) (hl : ReqLow q) :
    Calls Tryz.prog 4 #[reqV q vs vm vn] w fun e w' => e = .returned (.bool true) ∧ Gr w w' := by
  obtain ⟨hd, o, l, mt, no, am, an, si, un, rx, rk⟩ := q
  have HA := Lib.hid ha
  have HL := Lib.hid hl
  obtain ⟨hs, hm', hn'⟩ := id ha
  simp only at hs hm' hn'
  obtain ⟨A1, a1, rfl, _, _, _⟩ := id hs.open
  obtain ⟨A2, a2, rfl, _, _, _⟩ := id hm'.open
  obtain ⟨A3, a3, rfl, _, _, _⟩ := id hn'.open
  have HAW := Lib.hid (fun (x : World) (g : Gr w x) => awake45_any x (hm.gr g) (hp.gr g) (hz.gr g))
  have HWD := Lib.hid (fun (x : World) (g : Gr w x) => show Calls Tryz.prog 15 #[.agg #[.bool hd, str o, .slice A1 l.length a1, .slice A2 mt.length a2, .slice A3 no.length a3, .bool am, .bool an, .int .i64 si, .int .i64 un, str rx, .bool rk]] x (fun e w' => e = .returned (.bool (wideB (hd, o, l, ⟨mt, no, am, an, si, un, (rx, rk)⟩))) ∧ Gr x w') from refWide_any (hd, o, l, ⟨mt, no, am, an, si, un, (rx, rk)⟩) _ _ _ x (ha.gr g) hl)
  have HLN := Lib.hid (fun (hw : wideB (hd, o, l, ⟨mt, no, am, an, si, un, (rx, rk)⟩) = false) => show mt.length ≤ 1000000 ∧ no.length ≤ 1000000 from by
    have h1 := (fewB_iff.1 (wideB_no hw).2.2)
    simp only at h1
    omega)
  have HPU := Lib.hid (fun (hw : wideB (hd, o, l, ⟨mt, no, am, an, si, un, (rx, rk)⟩) = false) (x : World) (g : Gr w x) => show Calls Tryz.prog 16 #[.agg #[.bool hd, str o, .slice A1 l.length a1, .slice A2 mt.length a2, .slice A3 no.length a3, .bool am, .bool an, .int .i64 si, .int .i64 un, str rx, .bool rk]] x (PutM x (putQ (hd, o, l, ⟨mt, no, am, an, si, un, (rx, rk)⟩))) from gatePut_any (hd, o, l, ⟨mt, no, am, an, si, un, (rx, rk)⟩) _ _ _ x (hp.gr g) (ha.gr g) hl (HLN.out hw).1 (HLN.out hw).2)
  have HRP := Lib.hid (fun (hw : wideB (hd, o, l, ⟨mt, no, am, an, si, un, (rx, rk)⟩) = false) (x : World) (g : Gr w x) => show Calls Tryz.prog 17 #[.agg #[.bool hd, str o, .slice A1 l.length a1, .slice A2 mt.length a2, .slice A3 no.length a3, .bool am, .bool an, .int .i64 si, .int .i64 un, str rx, .bool rk]] x (PutM x (putQ (hd, o, l, ⟨mt, no, am, an, si, un, (rx, rk)⟩))) from refPut45_any (hd, o, l, ⟨mt, no, am, an, si, un, (rx, rk)⟩) _ _ _ x (ha.gr g) hl (HLN.out hw).1 (HLN.out hw).2)
  have HRR := Lib.hid (fun (hw : wideB (hd, o, l, ⟨mt, no, am, an, si, un, (rx, rk)⟩) = false) (x : World) (g : Gr w x) => show Calls Tryz.prog 18 #[.agg #[.bool hd, str o, .slice A1 l.length a1, .slice A2 mt.length a2, .slice A3 no.length a3, .bool am, .bool an, .int .i64 si, .int .i64 un, str rx, .bool rk]] x (fun e w' => e = .returned (.bool (reqB (hd, o, l, ⟨mt, no, am, an, si, un, (rx, rk)⟩))) ∧ Gr x w') from refRight45_any (hd, o, l, ⟨mt, no, am, an, si, un, (rx, rk)⟩) _ _ _ x (ha.gr g) hl (HLN.out hw).1 (HLN.out hw).2)
  have HAK := Lib.hid (fun (s : List UInt8) (v : Value) (x : World) (g : Gr w x) (hb : Byts x v s) (h : s.length ≤ 100000) => gateAsk_any v s x hb (hm.gr g) h)
  have hbr := Bk.new w 31 #[.bool hd, str o, .slice A1 l.length a1, .slice A2 mt.length a2, .slice A3 no.length a3, .bool am, .bool an, .int .i64 si, .int .i64 un, str rx, .bool rk] (0, 0)
  have hG0 := Gr.al (Gr.refl w) (Obj.cells #[.bool hd, str o, .slice A1 l.length a1, .slice A2 mt.length a2, .slice A3 no.length a3, .bool am, .bool an, .int .i64 si, .int .i64 un, str rx, .bool rk] 31)
  clear hs hm' hn' ha hl hm hp hz
  unfold reqV
  simp only
  go_enter Tryz.func4, Tryz.ntmps4
  go_upto_region 1 with fail
  generalize w.alloc (Obj.cells #[.bool hd, str o, .slice A1 l.length a1, .slice A2 mt.length a2, .slice A3 no.length a3, .bool am, .bool an, .int .i64 si, .int .i64 un, str rx, .bool rk] 31) = w0 at *
  obtain ⟨g, hgq⟩ : ∃ g, g = w.heap.size := ⟨_, rfl⟩
  rw [← hgq] at hbr ⊢
  have HGQ := Lib.hid (show w.heap.size ≤ g from Nat.le_of_eq hgq.symm)
  clear hgq
  have r0 : ∀ x, Gr w0 x → x.cell? ⟨g, 0, none⟩ = some (.bool hd) := fun x h => (hbr.gr h).cell 0
  have r1 : ∀ x, Gr w0 x → x.cell? ⟨g, 1, none⟩ = some (str o) := fun x h => (hbr.gr h).cell 1
  have r2 : ∀ x, Gr w0 x → x.cell? ⟨g, 2, none⟩ = some (.slice A1 l.length a1) := fun x h => (hbr.gr h).cell 2
  have r3 : ∀ x, Gr w0 x → x.cell? ⟨g, 3, none⟩ = some (.slice A2 mt.length a2) := fun x h => (hbr.gr h).cell 3
  have r4 : ∀ x, Gr w0 x → x.cell? ⟨g, 4, none⟩ = some (.slice A3 no.length a3) := fun x h => (hbr.gr h).cell 4
  have r5 : ∀ x, Gr w0 x → x.cell? ⟨g, 5, none⟩ = some (.bool am) := fun x h => (hbr.gr h).cell 5
  have r6 : ∀ x, Gr w0 x → x.cell? ⟨g, 6, none⟩ = some (.bool an) := fun x h => (hbr.gr h).cell 6
  have r7 : ∀ x, Gr w0 x → x.cell? ⟨g, 7, none⟩ = some (.int .i64 si) := fun x h => (hbr.gr h).cell 7
  have r8 : ∀ x, Gr w0 x → x.cell? ⟨g, 8, none⟩ = some (.int .i64 un) := fun x h => (hbr.gr h).cell 8
  have r9 : ∀ x, Gr w0 x → x.cell? ⟨g, 9, none⟩ = some (str rx) := fun x h => (hbr.gr h).cell 9
  have r10 : ∀ x, Gr w0 x → x.cell? ⟨g, 10, none⟩ = some (.bool rk) := fun x h => (hbr.gr h).cell 10
  have h00 : Gr w0 w0 := Gr.refl w0
  have HG0 := Lib.hid hG0
  have HBR := Lib.hid hbr
  clear hbr hG0
  have HAW := Lib.hid (fun (x : World) (h : Gr w0 x) => HAW.out x (Gr.tr HG0.out h))
  have HWD := Lib.hid (fun (x : World) (h : Gr w0 x) => HWD.out x (Gr.tr HG0.out h))
  cases hw : wideB (hd, o, l, ⟨mt, no, am, an, si, un, (rx, rk)⟩) with
  | true =>
    rw [hw] at HWD
    clear HPU HRP HRR HLN HAK hw
    go_wp2_with (first | (go_at_call 11; refine (HAW.out _ (by assumption)).mono ?_; rintro e wn ⟨rfl, hgn⟩; have hgg : Gr w0 wn := Gr.tr (by assumption) hgn; clear hgn) | (go_at_call 15; refine (HWD.out _ (by assumption)).mono ?_; rintro e wn ⟨rfl, hgn⟩; have hgg : Gr w0 wn := Gr.tr (by assumption) hgn; clear hgn))
    go_ret
    exact ⟨rfl, Gr.tr HG0.out (by assumption)⟩
  | false =>
    have HPU := Lib.hid (fun (x : World) (h : Gr w0 x) => HPU.out hw x (Gr.tr HG0.out h))
    have HRR := Lib.hid (fun (x : World) (h : Gr w0 x) => HRR.out hw x (Gr.tr HG0.out h))
    have HRP := Lib.hid (fun (x : World) (h : Gr w0 x) => HRP.out hw x (Gr.tr HG0.out h))
    rw [hw] at HWD
    clear HLN HAK HRR hw
    generalize putQ (hd, o, l, ⟨mt, no, am, an, si, un, (rx, rk)⟩) = R at *
    obtain ⟨B, E⟩ := R
    go_upto_region 5 with (first | (go_at_call 11; refine (HAW.out _ (by assumption)).mono ?_; rintro e wn ⟨rfl, hgn⟩; have hgg : Gr w0 wn := Gr.tr (by assumption) hgn; clear hgn) | (go_at_call 15; refine (HWD.out _ (by assumption)).mono ?_; rintro e wn ⟨rfl, hgn⟩; have hgg : Gr w0 wn := Gr.tr (by assumption) hgn; clear hgn) | (go_at_call 16; refine (HPU.out _ (by assumption)).mono ?_; rintro e w3 hp_; obtain ⟨P3, pc3, rfl, hB3, hg3, hf3⟩ := hp_.byts; have HB3 := Lib.hid hB3; have HF3 := Lib.hid hf3; have hgg : Gr w0 w3 := Gr.tr (by assumption) hg3; clear hB3 hf3 hp_) | (go_at_call 17; refine (HRP.out _ (by assumption)).mono ?_; rintro e w4 hp_; obtain ⟨P4, pc4, rfl, hB4, hg4, hf4⟩ := hp_.byts; have HB4 := Lib.hid hB4; have HF4 := Lib.hid hf4; have hgg : Gr w0 w4 := Gr.tr (by assumption) hg4; clear hB4 hf4 hp_))
    have HB3 := Lib.hid (HB3.out.gr hg4)
    have s1 : (B == B) = true := by simp
    have s2 : ((E : Int) == E) = true := by simp
    go_wp2_with (first | (refine wpList_toStr _ rfl rfl rfl HB3.out ?_) | (refine wpList_toStr _ rfl rfl rfl HB4.out ?_))
    go_ret
    exact ⟨by simp, Gr.tr HG0.out (by assumption)⟩
end Go.Proofs.YtcfefflnebkjnaaGreatDoor.lgputs
