/- The walk of the law GateWhole: any answer, of any object, has the bytes that the document says, or none. Conditions: the library's tables and variables. -/
import Derived.Test.YtcfefflnebkjnaaGreatDoorGate9W
import Derived.Test.YtcfefflnebkjnaaGreatDoorGate10
set_option linter.unusedVariables false
set_option linter.unusedSimpArgs false
namespace Go.Proofs.YtcfefflnebkjnaaGreatDoor.lgwhole
open Go.RowKit
set_option maxHeartbeats 16000000 in
set_option maxRecDepth 100000 in
theorem walk (st sz : Int) (fs : List Fld) (ps : List PartT) (A1 A2 : Option Addr) (c1 c2 : Nat) (obj : List UInt8) (u : Value) (w : World) (hm : Ml w) (hp : Pw w) (hz : Tz w) (hf : Flds w (.slice A1 fs.length c1) fs) (hu : Parts w (.slice A2 ps.length c2) ps) (hs : Short2 fs) (hlp : ∀ p ∈ ps, Low p.1) (ho : Byts w u obj) :
    Calls Tryz.prog 8 #[.agg #[.int .i64 st, .slice A1 fs.length c1, .slice A2 ps.length c2, .int .i64 sz], u] w fun e w' => e = .returned (.bool true) ∧ Gr w w' := by
  obtain ⟨A3, c3, rfl, -, -, -⟩ := id ho.open
  have HF := Lib.hid (fun (x : World) (g : Gr w x) => hf.gr g)
  have HU := Lib.hid (fun (x : World) (g : Gr w x) => hu.gr g)
  have HO := Lib.hid (fun (x : World) (g : Gr w x) => ho.gr g)
  have HS := Lib.hid hs
  have HP := Lib.hid (fun (x : World) (g : Gr w x) => hp.gr g)
  have HZ := Lib.hid (fun (x : World) (g : Gr w x) => hz.gr g)
  have HM := Lib.hid (fun (x : World) (g : Gr w x) => hm.gr g)
  have HAW := Lib.hid (fun (x : World) (g : Gr w x) => awake45_any x (hm.gr g) (hp.gr g) (hz.gr g))
  have HGT := Lib.hid (fun (x : World) (g : Gr w x) => show Calls Tryz.prog 19 #[.agg #[.int .i64 st, .slice A1 fs.length c1, .slice A2 ps.length c2, .int .i64 sz], .slice A3 obj.length c3] x (fun e w' => e = .returned (.bool (greatA fs ps obj)) ∧ Gr x w') from refGreat45_any st sz fs _ A1 A2 c1 c2 ps obj x (hf.gr g) hs (hu.gr g) (ho.gr g) hlp)
  have HSM := Lib.hid (fun (hg : greatA fs ps obj = false) => show fs.length ≤ 130 ∧ bulk2 fs ≤ 12000 ∧ ps.length ≤ 100 ∧ obj.length ≤ 1000 ∧ PartsLow obj ps from greatA_small hg)
  have hbr := Bk.new w 45 #[.int .i64 st, .slice A1 fs.length c1, .slice A2 ps.length c2, .int .i64 sz] (0, 0)
  have hG0 := Gr.al (Gr.refl w) (Obj.cells #[.int .i64 st, .slice A1 fs.length c1, .slice A2 ps.length c2, .int .i64 sz] 45)
  clear hf hu ho hs hp hz hm hlp
  go_enter Tryz.func8, Tryz.ntmps8
  go_upto_region 1 with fail
  generalize w.alloc (Obj.cells #[.int .i64 st, .slice A1 fs.length c1, .slice A2 ps.length c2, .int .i64 sz] 45) = w0 at *
  obtain ⟨g, hgq⟩ : ∃ g, g = w.heap.size := ⟨_, rfl⟩
  rw [← hgq] at hbr ⊢
  clear hgq
  have r0 : ∀ x, Gr w0 x → x.cell? ⟨g, 0, none⟩ = some (.int .i64 st) := fun x h => (hbr.gr h).cell 0
  have r1 : ∀ x, Gr w0 x → x.cell? ⟨g, 1, none⟩ = some (.slice A1 fs.length c1) := fun x h => (hbr.gr h).cell 1
  have r2 : ∀ x, Gr w0 x → x.cell? ⟨g, 2, none⟩ = some (.slice A2 ps.length c2) := fun x h => (hbr.gr h).cell 2
  have r3 : ∀ x, Gr w0 x → x.cell? ⟨g, 3, none⟩ = some (.int .i64 sz) := fun x h => (hbr.gr h).cell 3
  have h00 : Gr w0 w0 := Gr.refl w0
  have HG0 := Lib.hid hG0
  clear hbr hG0
  have HAW := Lib.hid (fun (x : World) (h : Gr w0 x) => HAW.out x (Gr.tr HG0.out h))
  have HGT := Lib.hid (fun (x : World) (h : Gr w0 x) => HGT.out x (Gr.tr HG0.out h))
  cases hgr : greatA fs ps obj with
  | true =>
    rw [hgr] at HGT
    clear hgr HF HU HO HS HP HZ HM HSM
    go_wp2_with (first | (go_at_call 11; refine (HAW.out _ (by assumption)).mono ?_; rintro e wn ⟨rfl, hgn⟩; have hgg : Gr w0 wn := Gr.tr (by assumption) hgn; clear hgn) | (go_at_call 19; refine (HGT.out _ (by assumption)).mono ?_; rintro e wn ⟨rfl, hgn⟩; have hgg : Gr w0 wn := Gr.tr (by assumption) hgn; clear hgn))
    go_ret
    exact ⟨rfl, Gr.tr HG0.out (by assumption)⟩
  | false =>
    rw [hgr] at HGT
    obtain ⟨hb1, hb2, hb3, hb4, hb5⟩ := HSM.out hgr
    have HLOW := Lib.hid hb5
    clear hgr HSM hb5
    go_upto_region 3 with (first | (go_at_call 11; refine (HAW.out _ (by assumption)).mono ?_; rintro e wn ⟨rfl, hgn⟩; have hgg : Gr w0 wn := Gr.tr (by assumption) hgn; clear hgn) | (go_at_call 19; refine (HGT.out _ (by assumption)).mono ?_; rintro e wn ⟨rfl, hgn⟩; have hgg : Gr w0 wn := Gr.tr (by assumption) hgn; clear hgn))
    have HN := Lib.hid (show Gr w0 wn from by assumption)
    have HNW := Lib.hid (Gr.tr HG0.out HN.out)
    have HWH := Lib.hid (fun (v : Value) (x : World) (g : Gr w x) (hb : Byts x v obj) => show Calls Tryz.prog 26 #[.agg #[.int .i64 st, .slice A1 fs.length c1, .slice A2 ps.length c2, .int .i64 sz], v] x (WEnd x (wholeR st fs ps sz obj)) from gateWhole_any st sz fs v A1 A2 c1 c2 ps obj x (HP.out x g) (HZ.out x g) (HF.out x g) HS.out hb1 hb2 (HU.out x g) hb hb3 hb4 HLOW.out)
    have HRW := Lib.hid (fun (x : World) (g : Gr w x) => show Calls Tryz.prog 27 #[.agg #[.int .i64 st, .slice A1 fs.length c1, .slice A2 ps.length c2, .int .i64 sz], .slice A3 obj.length c3] x (WEnd x (wholeR st fs ps sz obj)) from refWhole_any st sz fs _ A1 A2 c1 c2 ps obj x (HF.out x g) HS.out hb1 hb2 (HU.out x g) (HO.out x g) hb3 hb4 HLOW.out)
    generalize wholeR st fs ps sz obj = R at *
    obtain ⟨B, E⟩ := R
    have q0 := gx_cell (r := none) (r0 wn HN.out) (by simp)
    have q1 := gx_cell (r := none) (r1 wn HN.out) (by simp)
    have q2 := gx_cell (r := none) (r2 wn HN.out) (by simp)
    have q3 := gx_cell (r := none) (r3 wn HN.out) (by simp)
    refine wp_region_mix [0, 2] none 8 (by kernel_rfl) rfl (by kernel_rfl) (fun o _ _ _ _ h => by cases o <;> exact h) ?_
    simp only [pickOps, List.filterMap_cons, List.filterMap_nil, List.getElem?_cons_zero, List.getElem?_cons_succ]
    repeat (first | (refine wpGq_step (fun K hK => ?_); go_simp; refine hK _ ?_; clear hK K) | (refine wpGq_step (fun K hK => ?_); go_simp; simp only [↓IntWalk.iteOmega]; go_simp; refine hK _ ?_; clear hK K) | (refine wpGq_step (fun K hK => ?_); go_simp; apply Exists.intro; refine ⟨fun _ => ?_, hK _ ?_⟩; fail; clear hK K))
    refine wpGq_nil ?_
    clear q0 q1 q2 q3
    refine wpG_one 1 (by kernel_rfl) rfl rfl (fun K hK wa hga => ?_)
    go_simp
    refine hK _ _ ((Gr.al hga _).by _) ?_
    clear hK K
    refine wpG_one 3 (by kernel_rfl) rfl rfl (fun K hK wb hgb => ?_)
    refine op_appS (W0 := wa) (n := 0) (m := obj.length) (xs := []) (news := obj.map byt) elemByte _ _ rfl rfl rfl ?_ ((own_nil0 wa _ 1).gr hgb) (HO.out _ (Gr.tr HNW.out (Gr.tr (Gr.al hga _) hgb))) (by simp) (one_byt _) (by omega) (by decide) ?_
    · have := (Gr.tr (Gr.al (Gr.refl wa) (Obj.cells #[] 5)) hgb).size; omega
    intro v4 w4 hOwn hApp
    rw [Nat.zero_add, List.nil_append] at hOwn
    obtain ⟨A4, c4, rfl⟩ := hOwn.form
    have hG4 : Gr wn w4 := Gr.tr hga (hApp.gr (Gr.tr (Gr.al (Gr.refl wa) _) hgb) ((own_nil0 wa 5 1).gr hgb))
    have HB4 := Lib.hid (own_byts hOwn)
    refine hK _ _ (hG4.by _) ?_
    clear hK K hOwn hApp
    refine wpG_one 4 (by kernel_rfl) rfl rfl (fun K hK w5 hg5 => ?_)
    have HG5 := Lib.hid (Gr.tr hG4 hg5)
    have HB5 := Lib.hid (HB4.out.gr hg5)
    clear hga hgb hG4 hg5 HB4
    go_simp
    refine (HWH.out _ _ (Gr.tr HNW.out HG5.out) HB5.out).mono ?_
    rintro e w6 ⟨A6, c6, rfl, hg6, hB6⟩
    simp only []
    have HG6 := Lib.hid (Gr.tr HG5.out hg6)
    have HB6 := Lib.hid hB6
    clear hg6 hB6
    refine hK _ _ (HG6.out.by _) ?_
    clear hK K
    refine wpG_quiet [5, 6, 7, 8, 9] 0 (HG6.out.by _) rfl (by kernel_rfl) (fun o _ _ _ _ h => by cases o <;> exact h) ?_
    simp only [pickOps, List.filterMap_cons, List.filterMap_nil, List.getElem?_cons_zero, List.getElem?_cons_succ]
    repeat (first | (refine wpGq_step (fun K hK => ?_); go_simp; refine hK _ ?_; clear hK K) | (refine wpGq_step (fun K hK => ?_); go_simp; simp only [↓IntWalk.iteOmega]; go_simp; refine hK _ ?_; clear hK K) | (refine wpGq_step (fun K hK => ?_); go_simp; apply Exists.intro; refine ⟨fun _ => ?_, hK _ ?_⟩; fail; clear hK K))
    refine wpGq_nil ?_
    refine wpG_done (by kernel_rfl) (fun w7 hg7 => ?_)
    have HG7 := Lib.hid (Gr.tr HN.out (Gr.tr HG6.out hg7))
    have HB7 := Lib.hid (HB6.out.gr hg7)
    have hgg : Gr w0 w7 := HG7.out
    clear HG5 HG6 HB5 HB6 hg7
    have s1 : (B == B) = true := by simp
    have s2 : ((E : Int) == E) = true := by simp
    go_upto_region 5 with (go_at_call 27; refine (HRW.out _ (Gr.tr HG0.out (by assumption))).mono ?_; rintro e w8 ⟨A8, c8, rfl, hg8, hB8⟩; have HB8 := Lib.hid hB8; have HB9 := Lib.hid (HB7.out.gr hg8); have HG8 := Lib.hid (Gr.tr HG7.out hg8); clear hg8 hB8)
    go_wp2_with (first | (refine wpList_toStr _ rfl rfl rfl HB9.out ?_) | (refine wpList_toStr _ rfl rfl rfl HB8.out ?_))
    go_ret
    exact ⟨by simp, Gr.tr HG0.out HG8.out⟩
end Go.Proofs.YtcfefflnebkjnaaGreatDoor.lgwhole
