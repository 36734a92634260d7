/- The walk of the law GateHeads: any answer's head, any bytes of its body, and its end, are what the document says. Conditions: the library's tables and variables. -/
import Derived.Test.YtcfefflnebkjnaaGreatDoorGate9W
import Derived.Test.YtcfefflnebkjnaaGreatDoorGate10
set_option linter.unusedVariables false
set_option linter.unusedSimpArgs false
namespace Go.Proofs.YtcfefflnebkjnaaGreatDoor.lgheads
open Go.RowKit
set_option maxHeartbeats 16000000 in
set_option maxRecDepth 100000 in
theorem walk (st sz : Int) (fs : List Fld) (ps : List PartT) (A1 A2 : Option Addr) (c1 c2 : Nat) (obj : List UInt8) (u : Value) (fin : Bool) (w : World) (hm : Ml w) (hp : Pw w) (hz : Tz w) (hf : Flds w (.slice A1 fs.length c1) fs) (hu : Parts w (.slice A2 ps.length c2) ps) (hs : Short2 fs) (hlp : ∀ p ∈ ps, Low p.1) (ho : Byts w u obj) :
    Calls Tryz.prog 7 #[.agg #[.int .i64 st, .slice A1 fs.length c1, .slice A2 ps.length c2, .int .i64 sz], u, .bool fin] w fun e w' => e = .returned (.bool true) ∧ Gr w w' := by
  obtain ⟨A3, c3, rfl, -, -, -⟩ := id ho.open
  have HF := Lib.hid (fun (x : World) (g : Gr w x) => hf.gr g)
  have HU := Lib.hid (fun (x : World) (g : Gr w x) => hu.gr g)
  have HO := Lib.hid (fun (x : World) (g : Gr w x) => ho.gr g)
  have HS := Lib.hid hs
  have HP := Lib.hid (fun (x : World) (g : Gr w x) => hp.gr g)
  have HZ := Lib.hid (fun (x : World) (g : Gr w x) => hz.gr g)
  have HM := Lib.hid (fun (x : World) (g : Gr w x) => hm.gr g)
  have HAW := Lib.hid (fun (x : World) (g : Gr w x) => awake45_any x (hm.gr g) (hp.gr g) (hz.gr g))
  have HGT := Lib.hid (fun (x : World) (g : Gr w x) => show Calls Tryz.prog 19 #[.agg #[.int .i64 st, .slice A1 fs.length c1, .slice A2 ps.length c2, .int .i64 sz], .slice A3 obj.length c3] x (fun e w' => e = .returned (.bool (greatA fs ps obj)) ∧ Gr x w') from refGreat45_any st sz fs _ A1 A2 c1 c2 ps obj x (hf.gr g) hs (hu.gr g) (ho.gr g) hlp)
  have HSM := Lib.hid (fun (hg : greatA fs ps obj = false) => show fs.length ≤ 130 ∧ bulk2 fs ≤ 12000 ∧ ps.length ≤ 100 ∧ obj.length ≤ 1000 ∧ PartsLow obj ps from greatA_small hg)
  have hbr := Bk.new w 45 #[.int .i64 st, .slice A1 fs.length c1, .slice A2 ps.length c2, .int .i64 sz] (0, 0)
  have hG0 := Gr.al (Gr.refl w) (Obj.cells #[.int .i64 st, .slice A1 fs.length c1, .slice A2 ps.length c2, .int .i64 sz] 45)
  clear hf hu ho hs hp hz hm hlp
  go_enter Tryz.func7, Tryz.ntmps7
  go_upto_region 1 with fail
  generalize w.alloc (Obj.cells #[.int .i64 st, .slice A1 fs.length c1, .slice A2 ps.length c2, .int .i64 sz] 45) = w0 at *
  obtain ⟨g, hgq⟩ : ∃ g, g = w.heap.size := ⟨_, rfl⟩
  rw [← hgq] at hbr ⊢
  clear hgq
  have r0 : ∀ x, Gr w0 x → x.cell? ⟨g, 0, none⟩ = some (.int .i64 st) := fun x h => (hbr.gr h).cell 0
  have r1 : ∀ x, Gr w0 x → x.cell? ⟨g, 1, none⟩ = some (.slice A1 fs.length c1) := fun x h => (hbr.gr h).cell 1
  have r2 : ∀ x, Gr w0 x → x.cell? ⟨g, 2, none⟩ = some (.slice A2 ps.length c2) := fun x h => (hbr.gr h).cell 2
  have r3 : ∀ x, Gr w0 x → x.cell? ⟨g, 3, none⟩ = some (.int .i64 sz) := fun x h => (hbr.gr h).cell 3
  have h00 : Gr w0 w0 := Gr.refl w0
  have HG0 := Lib.hid hG0
  clear hbr hG0
  have HAW := Lib.hid (fun (x : World) (h : Gr w0 x) => HAW.out x (Gr.tr HG0.out h))
  have HGT := Lib.hid (fun (x : World) (h : Gr w0 x) => HGT.out x (Gr.tr HG0.out h))
  cases hgr : greatA fs ps obj with
  | true =>
    rw [hgr] at HGT
    clear hgr HF HU HO HS HP HZ HM HSM
    go_wp2_with (first | (go_at_call 11; refine (HAW.out _ (by assumption)).mono ?_; rintro e wn ⟨rfl, hgn⟩; have hgg : Gr w0 wn := Gr.tr (by assumption) hgn; clear hgn) | (go_at_call 19; refine (HGT.out _ (by assumption)).mono ?_; rintro e wn ⟨rfl, hgn⟩; have hgg : Gr w0 wn := Gr.tr (by assumption) hgn; clear hgn))
    go_ret
    exact ⟨rfl, Gr.tr HG0.out (by assumption)⟩
  | false =>
    rw [hgr] at HGT
    obtain ⟨hb1, hb2, hb3, hb4, hb5⟩ := HSM.out hgr
    have HLOW := Lib.hid hb5
    clear hgr HSM hb5
    have HHD := Lib.hid (fun (x : World) (g : Gr w x) => show Calls Tryz.prog 20 #[.agg #[.int .i64 st, .slice A1 fs.length c1, .slice A2 ps.length c2, .int .i64 sz]] x (PutM x (headR st fs sz)) from gateHead_any st sz fs A1 c1 _ x (HP.out x g) (HF.out x g) HS.out hb1 hb2)
    have HRH := Lib.hid (fun (x : World) (g : Gr w x) => show Calls Tryz.prog 21 #[.agg #[.int .i64 st, .slice A1 fs.length c1, .slice A2 ps.length c2, .int .i64 sz]] x (PutM x (headR st fs sz)) from refHead45_any st sz fs A1 c1 _ x (HF.out x g) HS.out hb1 hb2)
    have HBD := Lib.hid (fun (v : Value) (x : World) (g : Gr w x) (hb : Byts x v obj) => gateBody_any st sz (.slice A1 fs.length c1) (.slice A2 ps.length c2) obj v x (HZ.out x g) hb (by omega))
    have HRB := Lib.hid (fun (v : Value) (x : World) (hb : Byts x v obj) => refBody45_any st sz (.slice A1 fs.length c1) (.slice A2 ps.length c2) obj v x hb (by omega))
    have HEN := Lib.hid (fun (x : World) => gateEnd_any st sz (.slice A1 fs.length c1) (.slice A2 ps.length c2) fin x)
    have HRE := Lib.hid (fun (x : World) => refEnd45_any st sz (.slice A1 fs.length c1) (.slice A2 ps.length c2) fin x)
    generalize headR st fs sz = R at *
    obtain ⟨B, E⟩ := R
    generalize gBody sz obj = D at *
    generalize gEnd sz fin = Z at *
    go_upto_region 5 with (first | (go_at_call 11; refine (HAW.out _ (by assumption)).mono ?_; rintro e wn ⟨rfl, hgn⟩; have hgg : Gr w0 wn := Gr.tr (by assumption) hgn; clear hgn) | (go_at_call 19; refine (HGT.out _ (by assumption)).mono ?_; rintro e wn ⟨rfl, hgn⟩; have hgg : Gr w0 wn := Gr.tr (by assumption) hgn; clear hgn) | (go_at_call 20; refine (HHD.out _ (Gr.tr HG0.out (by assumption))).mono ?_; rintro e w3 hp_; obtain ⟨P3, pc3, rfl, hB3, hg3, -⟩ := hp_.byts; have HB3 := Lib.hid hB3; have HGR3 := Lib.hid hg3; have hgg : Gr w0 w3 := Gr.tr (by assumption) hg3; clear hB3 hg3 hp_) | (go_at_call 21; refine (HRH.out _ (Gr.tr HG0.out (by assumption))).mono ?_; rintro e w4 hp_; obtain ⟨P4, pc4, rfl, hB4, hg4, -⟩ := hp_.byts; have HB4 := Lib.hid hB4; have HGR4 := Lib.hid hg4; have hgg : Gr w0 w4 := Gr.tr (by assumption) hg4; clear hB4 hg4 hp_))
    have HN := Lib.hid (show Gr w0 w4 from by assumption)
    have HNW := Lib.hid (Gr.tr HG0.out HN.out)
    have HB5 := Lib.hid (HB3.out.gr HGR4.out)
    have q0 := gx_cell (r := none) (r0 w4 HN.out) (by simp)
    have q1 := gx_cell (r := none) (r1 w4 HN.out) (by simp)
    have q2 := gx_cell (r := none) (r2 w4 HN.out) (by simp)
    have q3 := gx_cell (r := none) (r3 w4 HN.out) (by simp)
    have k3 := fun i : Gxw w4 none => (HB5.out.gr (gr_none (gx_by w4 none i))).toStr
    have k4 := fun i : Gxw w4 none => (HB4.out.gr (gr_none (gx_by w4 none i))).toStr
    have s1 : (B == B) = true := by simp
    have s2 : ((E : Int) == E) = true := by simp
    have s3 : (D == D) = true := by simp
    have s4 : (Z == Z) = true := by simp
    clear HHD HRH HAW HGT HM HF HU HP HZ HB3
    refine wp_region_mix [0, 1, 2, 3, 4, 5, 6, 7, 8, 9, 10, 11, 13, 17, 18] none 20 (by kernel_rfl) rfl (by kernel_rfl) (fun o _ _ _ _ h => by cases o <;> exact h) ?_
    simp only [pickOps, List.filterMap_cons, List.filterMap_nil, List.getElem?_cons_zero, List.getElem?_cons_succ]
    repeat (first | (refine wpGq_step (fun K hK => ?_); go_simp; refine hK _ ?_; clear hK K) | (refine wpGq_step (fun K hK => ?_); go_simp; simp only [↓IntWalk.iteOmega]; go_simp; refine hK _ ?_; clear hK K) | (refine wpGq_step (fun K hK => ?_); go_simp; apply Exists.intro; refine ⟨fun _ => ?_, hK _ ?_⟩; fail; clear hK K))
    refine wpGq_nil ?_
    clear q0 q1 q2 q3 k3 k4
    refine wpG_oneW 12 (by kernel_rfl) rfl (by go_simp) (fun K hK wa hga => ?_)
    go_simp
    refine hK _ _ ((Gr.al hga _).by _) ?_
    clear hK K
    refine wpG_oneW 14 (by kernel_rfl) rfl (by go_simp) (fun K hK wb hgb => ?_)
    refine op_appS (W0 := wa) (n := 0) (m := obj.length) (xs := []) (news := obj.map byt) elemByte _ _ rfl rfl rfl ?_ ((own_nil0 wa _ 1).gr hgb) (HO.out _ (Gr.tr HNW.out (Gr.tr (Gr.al hga _) hgb))) (by simp) (one_byt _) (by omega) (by decide) ?_
    · have := (Gr.tr (Gr.al (Gr.refl wa) (Obj.cells #[] 5)) hgb).size; omega
    intro v5 w5 hOwn hApp
    rw [Nat.zero_add, List.nil_append] at hOwn
    obtain ⟨A5, c5, rfl⟩ := hOwn.form
    have HX5 := Lib.hid (show Gr w4 w5 from Gr.tr hga (hApp.gr (Gr.tr (Gr.al (Gr.refl wa) _) hgb) ((own_nil0 wa 5 1).gr hgb)))
    have HA5 := Lib.hid (own_byts hOwn)
    refine hK _ _ (HX5.out.by _) ?_
    clear hK K hOwn hApp hga hgb
    refine wpG_oneW 15 (by kernel_rfl) rfl (by go_simp) (fun K hK x6 hgx => ?_)
    have HX6 := Lib.hid (Gr.tr HX5.out hgx)
    have HA6 := Lib.hid (HA5.out.gr hgx)
    clear hgx
    go_simp
    refine (HBD.out _ _ (Gr.tr HNW.out HX6.out) HA6.out).mono ?_
    rintro e w6 ⟨A6, c6, rfl, hB6, hg6⟩
    simp only []
    have HY6 := Lib.hid (Gr.tr HX6.out hg6)
    have HZ6 := Lib.hid hB6
    clear hB6 hg6
    refine hK _ _ (HY6.out.by _) ?_
    clear hK K
    have k6 := fun i : Gxw w6 none => (HZ6.out.gr (gr_none (gx_by w6 none i))).toStr
    refine wpG_quiet [16] 16 (HY6.out.by _) rfl (by kernel_rfl) (fun o _ _ _ _ h => by cases o <;> exact h) ?_
    simp only [pickOps, List.filterMap_cons, List.filterMap_nil, List.getElem?_cons_zero, List.getElem?_cons_succ]
    repeat (first | (refine wpGq_step (fun K hK => ?_); go_simp; refine hK _ ?_; clear hK K) | (refine wpGq_step (fun K hK => ?_); go_simp; simp only [↓IntWalk.iteOmega]; go_simp; refine hK _ ?_; clear hK K) | (refine wpGq_step (fun K hK => ?_); go_simp; apply Exists.intro; refine ⟨fun _ => ?_, hK _ ?_⟩; fail; clear hK K))
    refine wpGq_nil ?_
    clear k6
    refine wpG_oneW 19 (by kernel_rfl) rfl (by go_simp) (fun K hK x7 hgx => ?_)
    have HX7 := Lib.hid (Gr.tr HY6.out hgx)
    have HL7 := Lib.hid hgx
    clear hgx
    go_simp
    refine (HRB.out _ _ (HO.out _ (Gr.tr HNW.out HX7.out))).mono ?_
    rintro e w7 ⟨A7, c7, rfl, hB7, hg7⟩
    simp only []
    have HY7 := Lib.hid (Gr.tr HX7.out hg7)
    have HM7 := Lib.hid (Gr.tr HL7.out hg7)
    have HZ7 := Lib.hid hB7
    clear hB7 hg7
    refine hK _ _ (HM7.out.by _) ?_
    clear hK K
    have k7 := fun i : Gxw w7 none => (HZ7.out.gr (gr_none (gx_by w7 none i))).toStr
    have q0 := gx_cell (r := none) (r0 w7 (Gr.tr HN.out HY7.out)) (by simp)
    have q1 := gx_cell (r := none) (r1 w7 (Gr.tr HN.out HY7.out)) (by simp)
    have q2 := gx_cell (r := none) (r2 w7 (Gr.tr HN.out HY7.out)) (by simp)
    have q3 := gx_cell (r := none) (r3 w7 (Gr.tr HN.out HY7.out)) (by simp)
    refine wpG_quiet [20, 21, 22, 23, 24, 25, 28, 29] 7 (HM7.out.by _) rfl (by kernel_rfl) (fun o _ _ _ _ h => by cases o <;> exact h) ?_
    simp only [pickOps, List.filterMap_cons, List.filterMap_nil, List.getElem?_cons_zero, List.getElem?_cons_succ]
    repeat (first | (refine wpGq_step (fun K hK => ?_); go_simp; refine hK _ ?_; clear hK K) | (refine wpGq_step (fun K hK => ?_); go_simp; simp only [↓IntWalk.iteOmega]; go_simp; refine hK _ ?_; clear hK K) | (refine wpGq_step (fun K hK => ?_); go_simp; apply Exists.intro; refine ⟨fun _ => ?_, hK _ ?_⟩; fail; clear hK K))
    refine wpGq_nil ?_
    clear k7 q0 q1 q2 q3
    refine wpG_oneW 26 (by kernel_rfl) rfl (by go_simp) (fun K hK x8 hgx => ?_)
    have HX8 := Lib.hid (Gr.tr HY7.out hgx)
    have HL8 := Lib.hid hgx
    clear hgx
    go_simp
    refine (HEN.out _).mono ?_
    rintro e w8 ⟨A8, c8, rfl, hB8, hg8⟩
    simp only []
    have HY8 := Lib.hid (Gr.tr HX8.out hg8)
    have HM8 := Lib.hid (Gr.tr HL8.out hg8)
    have HZ8 := Lib.hid hB8
    clear hB8 hg8
    refine hK _ _ (HM8.out.by _) ?_
    clear hK K
    have k8 := fun i : Gxw w8 none => (HZ8.out.gr (gr_none (gx_by w8 none i))).toStr
    refine wpG_quiet [27] 5 (HM8.out.by _) rfl (by kernel_rfl) (fun o _ _ _ _ h => by cases o <;> exact h) ?_
    simp only [pickOps, List.filterMap_cons, List.filterMap_nil, List.getElem?_cons_zero, List.getElem?_cons_succ]
    repeat (first | (refine wpGq_step (fun K hK => ?_); go_simp; refine hK _ ?_; clear hK K) | (refine wpGq_step (fun K hK => ?_); go_simp; simp only [↓IntWalk.iteOmega]; go_simp; refine hK _ ?_; clear hK K) | (refine wpGq_step (fun K hK => ?_); go_simp; apply Exists.intro; refine ⟨fun _ => ?_, hK _ ?_⟩; fail; clear hK K))
    refine wpGq_nil ?_
    clear k8
    refine wpG_oneW 30 (by kernel_rfl) rfl (by go_simp) (fun K hK x9 hgx => ?_)
    have HX9 := Lib.hid (Gr.tr HY8.out hgx)
    have HL9 := Lib.hid hgx
    clear hgx
    go_simp
    refine (HRE.out _).mono ?_
    rintro e w9 ⟨A9, c9, rfl, hB9, hg9⟩
    simp only []
    have HY9 := Lib.hid (Gr.tr HX9.out hg9)
    have HM9 := Lib.hid (Gr.tr HL9.out hg9)
    have HZ9 := Lib.hid hB9
    clear hB9 hg9
    refine hK _ _ (HM9.out.by _) ?_
    clear hK K
    have k9 := fun i : Gxw w9 none => (HZ9.out.gr (gr_none (gx_by w9 none i))).toStr
    refine wpG_quiet [31, 32, 33, 34] 0 (HM9.out.by _) rfl (by kernel_rfl) (fun o _ _ _ _ h => by cases o <;> exact h) ?_
    simp only [pickOps, List.filterMap_cons, List.filterMap_nil, List.getElem?_cons_zero, List.getElem?_cons_succ]
    repeat (first | (refine wpGq_step (fun K hK => ?_); go_simp; refine hK _ ?_; clear hK K) | (refine wpGq_step (fun K hK => ?_); go_simp; simp only [↓IntWalk.iteOmega]; go_simp; refine hK _ ?_; clear hK K) | (refine wpGq_step (fun K hK => ?_); go_simp; apply Exists.intro; refine ⟨fun _ => ?_, hK _ ?_⟩; fail; clear hK K))
    refine wpGq_nil ?_
    clear k9
    refine wpG_done (by kernel_rfl) (fun wz hgz => ?_)
    have HEND := Lib.hid (Gr.tr HNW.out (Gr.tr HY9.out hgz))
    clear hgz
    go_wp2_with fail
    go_ret
    exact ⟨rfl, HEND.out⟩
end Go.Proofs.YtcfefflnebkjnaaGreatDoor.lgheads
