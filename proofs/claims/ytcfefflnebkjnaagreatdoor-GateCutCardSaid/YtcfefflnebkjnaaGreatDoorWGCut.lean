/- The walk of the law GateCut: a whole answer, cut off anywhere, is told: in its head more is asked for; behind it the body is too short. Conditions: the library's tables and variables. -/
import Derived.Test.YtcfefflnebkjnaaGreatDoorJGate9
import Derived.Test.YtcfefflnebkjnaaGreatDoorJGate10
import Derived.Test.YtcfefflnebkjnaaGreatDoorJFrame2
set_option linter.unusedVariables false
set_option linter.unusedSimpArgs false
namespace Go.Proofs.YtcfefflnebkjnaaGreatDoor.lgcut
open Go.RowKit
set_option maxHeartbeats 16000000 in
set_option maxRecDepth 100000 in
theorem walk (st sz : Int) (fs : List Fld) (ps : List PartT) (A1 A2 : Option Addr) (c1 c2 : Nat) (obj : List UInt8) (u : Value) (cut : Int) (w : World) (hm : Ml w) (hp : Pw w) (hz : Tz w) (hf : Flds w (.slice A1 fs.length c1) fs) (hu : Parts w (.slice A2 ps.length c2) ps) (hs : Short2 fs) (hlp : ∀ p ∈ ps, Low p.1) (ho : Byts w u obj) (hcut : -9223372036854775808 ≤ cut ∧ cut ≤ 9223372036854775807) :
    Calls Tryz.prog 10 #[.agg #[.int .i64 st, .slice A1 fs.length c1, .slice A2 ps.length c2, .int .i64 sz], u, .int .i64 cut] w fun e w' => e = .returned (.bool true) ∧ Gr w w' := by
  obtain ⟨A3, c3, rfl, -, -, -⟩ := id ho.open
  have HF := Lib.hid (fun (x : World) (g : Gr w x) => hf.gr g)
  have HU := Lib.hid (fun (x : World) (g : Gr w x) => hu.gr g)
  have HO := Lib.hid (fun (x : World) (g : Gr w x) => ho.gr g)
  have HS := Lib.hid hs
  have HP := Lib.hid (fun (x : World) (g : Gr w x) => hp.gr g)
  have HZ := Lib.hid (fun (x : World) (g : Gr w x) => hz.gr g)
  have HM := Lib.hid (fun (x : World) (g : Gr w x) => hm.gr g)
  have HAW := Lib.hid (fun (x : World) (g : Gr w x) => awake45_any x (hm.gr g) (hp.gr g) (hz.gr g))
  have HGT := Lib.hid (fun (x : World) (g : Gr w x) => show Calls Tryz.prog 19 #[.agg #[.int .i64 st, .slice A1 fs.length c1, .slice A2 ps.length c2, .int .i64 sz], .slice A3 obj.length c3] x (fun e w' => e = .returned (.bool (greatA fs ps obj)) ∧ Gr x w') from refGreat45_any st sz fs _ A1 A2 c1 c2 ps obj x (hf.gr g) hs (hu.gr g) (ho.gr g) hlp)
  have HSM := Lib.hid (fun (hg : greatA fs ps obj = false) => show fs.length ≤ 130 ∧ bulk2 fs ≤ 12000 ∧ ps.length ≤ 100 ∧ obj.length ≤ 1000 ∧ PartsLow obj ps from greatA_small hg)
  have hbr := Bk.new w 45 #[.int .i64 st, .slice A1 fs.length c1, .slice A2 ps.length c2, .int .i64 sz] (0, 0)
  have hG0 := Gr.al (Gr.refl w) (Obj.cells #[.int .i64 st, .slice A1 fs.length c1, .slice A2 ps.length c2, .int .i64 sz] 45)
  clear hf hu ho hs hp hz hm hlp
  go_enter Tryz.func10, Tryz.ntmps10
  go_upto_region 1 with fail
  generalize w.alloc (Obj.cells #[.int .i64 st, .slice A1 fs.length c1, .slice A2 ps.length c2, .int .i64 sz] 45) = w0 at *
  obtain ⟨g, hgq⟩ : ∃ g, g = w.heap.size := ⟨_, rfl⟩
  rw [← hgq] at hbr ⊢
  clear hgq
  have r0 : ∀ x, Gr w0 x → x.cell? ⟨g, 0, none⟩ = some (.int .i64 st) := fun x h => (hbr.gr h).cell 0
  have r1 : ∀ x, Gr w0 x → x.cell? ⟨g, 1, none⟩ = some (.slice A1 fs.length c1) := fun x h => (hbr.gr h).cell 1
  have r2 : ∀ x, Gr w0 x → x.cell? ⟨g, 2, none⟩ = some (.slice A2 ps.length c2) := fun x h => (hbr.gr h).cell 2
  have r3 : ∀ x, Gr w0 x → x.cell? ⟨g, 3, none⟩ = some (.int .i64 sz) := fun x h => (hbr.gr h).cell 3
  have h00 : Gr w0 w0 := Gr.refl w0
  have HG0 := Lib.hid hG0
  clear hbr hG0
  have HAW := Lib.hid (fun (x : World) (h : Gr w0 x) => HAW.out x (Gr.tr HG0.out h))
  have HGT := Lib.hid (fun (x : World) (h : Gr w0 x) => HGT.out x (Gr.tr HG0.out h))
  cases hgr : greatA fs ps obj with
  | true =>
    rw [hgr] at HGT
    clear hgr HF HU HO HS HP HZ HM HSM
    go_wp2_with (first | (go_at_call 11; refine (HAW.out _ (by assumption)).mono ?_; rintro e wn ⟨rfl, hgn⟩; have hgg : Gr w0 wn := Gr.tr (by assumption) hgn; clear hgn) | (go_at_call 19; refine (HGT.out _ (by assumption)).mono ?_; rintro e wn ⟨rfl, hgn⟩; have hgg : Gr w0 wn := Gr.tr (by assumption) hgn; clear hgn))
    go_ret
    exact ⟨rfl, Gr.tr HG0.out (by assumption)⟩
  | false =>
    rw [hgr] at HGT
    obtain ⟨hb1, hb2, hb3, hb4, hb5⟩ := HSM.out hgr
    have HLOW := Lib.hid hb5
    clear hgr HSM hb5
    go_upto_region 3 with (first | (go_at_call 11; refine (HAW.out _ (by assumption)).mono ?_; rintro e wn ⟨rfl, hgn⟩; have hgg : Gr w0 wn := Gr.tr (by assumption) hgn; clear hgn) | (go_at_call 19; refine (HGT.out _ (by assumption)).mono ?_; rintro e wn ⟨rfl, hgn⟩; have hgg : Gr w0 wn := Gr.tr (by assumption) hgn; clear hgn))
    have HN := Lib.hid (show Gr w0 wn from by assumption)
    have HNW := Lib.hid (Gr.tr HG0.out HN.out)
    have HWH := Lib.hid (fun (v : Value) (x : World) (g : Gr w x) (hb : Byts x v obj) => show Calls Tryz.prog 26 #[.agg #[.int .i64 st, .slice A1 fs.length c1, .slice A2 ps.length c2, .int .i64 sz], v] x (WEnd x (wholeR st fs ps sz obj)) from gateWhole_any st sz fs v A1 A2 c1 c2 ps obj x (HP.out x g) (HZ.out x g) (HF.out x g) HS.out hb1 hb2 (HU.out x g) hb hb3 hb4 HLOW.out)
    have HRW := Lib.hid (fun (x : World) (g : Gr w x) => show Calls Tryz.prog 27 #[.agg #[.int .i64 st, .slice A1 fs.length c1, .slice A2 ps.length c2, .int .i64 sz], .slice A3 obj.length c3] x (WEnd x (wholeR st fs ps sz obj)) from refWhole_any st sz fs _ A1 A2 c1 c2 ps obj x (HF.out x g) HS.out hb1 hb2 (HU.out x g) (HO.out x g) hb3 hb4 HLOW.out)
    have HFL := Lib.hid (fill_len HLOW.out hb4 hb3)
    have HCX := Lib.hid (fun (h : (wholeR st fs ps sz obj).2 = 0) (k : Nat) (hk : k < (wholeR st fs ps sz obj).1.length) => cut45_ex h HFL.out k hk)
    have HWL := Lib.hid (fun (h : (wholeR st fs ps sz obj).2 = 0) => whole_le h HFL.out)
    have HFO := Lib.hid (fun (h : (wholeR st fs ps sz obj).2 = 0) => whole_flds h)
    clear HFL HRW
    generalize wholeR st fs ps sz obj = R at *
    generalize headF st fs sz = F at *
    obtain ⟨B, E⟩ := R
    have q0 := gx_cell (r := none) (r0 wn HN.out) (by simp)
    have q1 := gx_cell (r := none) (r1 wn HN.out) (by simp)
    have q2 := gx_cell (r := none) (r2 wn HN.out) (by simp)
    have q3 := gx_cell (r := none) (r3 wn HN.out) (by simp)
    refine wp_region_mix [0, 2] none 8 (by kernel_rfl) rfl (by kernel_rfl) (fun o _ _ _ _ h => by cases o <;> exact h) ?_
    simp only [pickOps, List.filterMap_cons, List.filterMap_nil, List.getElem?_cons_zero, List.getElem?_cons_succ]
    repeat (first | (refine wpGq_step (fun K hK => ?_); go_simp; refine hK _ ?_; clear hK K) | (refine wpGq_step (fun K hK => ?_); go_simp; simp only [↓IntWalk.iteOmega]; go_simp; refine hK _ ?_; clear hK K) | (refine wpGq_step (fun K hK => ?_); go_simp; apply Exists.intro; refine ⟨fun _ => ?_, hK _ ?_⟩; fail; clear hK K))
    refine wpGq_nil ?_
    clear q0 q1 q2 q3
    refine wpG_one 1 (by kernel_rfl) rfl rfl (fun K hK wa hga => ?_)
    go_simp
    refine hK _ _ ((Gr.al hga _).by _) ?_
    clear hK K
    refine wpG_one 3 (by kernel_rfl) rfl rfl (fun K hK wb hgb => ?_)
    refine op_appS (W0 := wa) (n := 0) (m := obj.length) (xs := []) (news := obj.map byt) elemByte _ _ rfl rfl rfl ?_ ((own_nil0 wa _ 1).gr hgb) (HO.out _ (Gr.tr HNW.out (Gr.tr (Gr.al hga _) hgb))) (by simp) (one_byt _) (by omega) (by decide) ?_
    · have := (Gr.tr (Gr.al (Gr.refl wa) (Obj.cells #[] 5)) hgb).size; omega
    intro v4 w4 hOwn hApp
    rw [Nat.zero_add, List.nil_append] at hOwn
    obtain ⟨A4, c4, rfl⟩ := hOwn.form
    have hG4 : Gr wn w4 := Gr.tr hga (hApp.gr (Gr.tr (Gr.al (Gr.refl wa) _) hgb) ((own_nil0 wa 5 1).gr hgb))
    have HB4 := Lib.hid (own_byts hOwn)
    refine hK _ _ (hG4.by _) ?_
    clear hK K hOwn hApp
    refine wpG_one 4 (by kernel_rfl) rfl rfl (fun K hK w5 hg5 => ?_)
    have HG5 := Lib.hid (Gr.tr hG4 hg5)
    have HB5 := Lib.hid (HB4.out.gr hg5)
    clear hga hgb hG4 hg5 HB4
    go_simp
    refine (HWH.out _ _ (Gr.tr HNW.out HG5.out) HB5.out).mono ?_
    rintro e w6 ⟨A6, c6, rfl, hg6, hB6⟩
    simp only []
    have HG6 := Lib.hid (Gr.tr HG5.out hg6)
    have HB6 := Lib.hid hB6
    clear hg6 hB6
    refine hK _ _ (HG6.out.by _) ?_
    clear hK K
    refine wpG_quiet [5, 6, 7, 8, 9] 0 (HG6.out.by _) rfl (by kernel_rfl) (fun o _ _ _ _ h => by cases o <;> exact h) ?_
    simp only [pickOps, List.filterMap_cons, List.filterMap_nil, List.getElem?_cons_zero, List.getElem?_cons_succ]
    repeat (first | (refine wpGq_step (fun K hK => ?_); go_simp; refine hK _ ?_; clear hK K) | (refine wpGq_step (fun K hK => ?_); go_simp; simp only [↓IntWalk.iteOmega]; go_simp; refine hK _ ?_; clear hK K) | (refine wpGq_step (fun K hK => ?_); go_simp; apply Exists.intro; refine ⟨fun _ => ?_, hK _ ?_⟩; fail; clear hK K))
    refine wpGq_nil ?_
    refine wpG_done (by kernel_rfl) (fun w7 hg7 => ?_)
    have HG7 := Lib.hid (Gr.tr HN.out (Gr.tr HG6.out hg7))
    have HB7 := Lib.hid (HB6.out.gr hg7)
    have hgg : Gr w0 w7 := HG7.out
    clear HG5 HG6 HB5 HB6 hg7
    by_cases he : E = 0
    case neg =>
      have d0 : ((E : Int) != 0) = true := by simp; omega
      go_wp2_with fail
      go_ret
      exact ⟨rfl, Gr.tr HG0.out HG7.out⟩
    subst he
    have HB7 := Lib.hid (show Byts w7 (.slice A6 B.length c6) B from HB7.out)
    have hWL : B.length ≤ 300000 := HWL.out rfl
    have HFK := Lib.hid (HFO.out rfl)
    by_cases c0 : cut < 0
    · have dc : decide (cut < 0) = true := decide_eq_true c0
      go_wp2_with fail
      go_ret
      exact ⟨rfl, Gr.tr HG0.out HG7.out⟩
    have dc : decide (cut < 0) = false := decide_eq_false c0
    by_cases cb9 : (B.length : Int) ≤ cut
    · have dd : decide ((B.length : Int) ≤ cut) = true := decide_eq_true cb9
      go_wp2_with fail
      go_ret
      exact ⟨rfl, Gr.tr HG0.out HG7.out⟩
    have dd : decide ((B.length : Int) ≤ cut) = false := decide_eq_false cb9
    obtain ⟨k, rfl⟩ : ∃ k : Nat, cut = k := ⟨cut.toNat, by omega⟩
    obtain ⟨n, ht, hless, hmore⟩ := HCX.out rfl k (show k < B.length by omega)
    have hkb : k < B.length := by omega
    have HTR := Lib.hid (fun (x : World) => show Calls Tryz.prog 37 #[str B] x (HeadEnd x (([], [], st, F), n, 0)) from by have h := refTell_any B x (by omega); rw [ht] at h; exact h)
    clear HFO HCX HWL HAW HGT ht
    by_cases hn : k < n
    · have HTA := Lib.hid (fun (v : Value) (x : World) (g : Gr w x) (hb : Byts x v (B.take k)) => show Calls Tryz.prog 28 #[v] x (fun e w' => ∃ A c, e = .returned (.tuple #[.agg #[str [], str [], .int .i64 0, .slice A 0 c], .int .i64 0, .int .i64 3]) ∧ Gr x w') from by
        have h := tell_any v (B.take k) x hb (HM.out x g) (by rw [List.length_take]; omega)
        rw [hless hn] at h
        exact h.mono fun e w' ⟨A, c, h1, _, h3, _⟩ => ⟨A, c, h1, h3⟩)
      have dn : decide (((k : Nat) : Int) < ((n : Nat) : Int)) = true := decide_eq_true (by omega)
      clear hless hmore
      go_wp2_with (first
        | (refine wpList_slHi _ _ rfl rfl rfl rfl HB7.out ?_ ?_ ?_; omega; omega; intro A8 hA8; have HB8 := Lib.hid (show Byts w7 (.slice A8 k c6) (B.take k) from hA8); clear hA8)
        | (go_at_call 28; go_loud (refine (HTA.out _ _ (Gr.tr HG0.out HG7.out) HB8.out).mono ?_; rintro e w9 ⟨A9, c9, rfl, hg9⟩))
        | (refine wpList_toStr _ rfl rfl rfl (HB7.out.gr (Gr.tr hg9 (Gr.al (Gr.refl w9) _))) ?_)
        | (go_at_call 37; refine (HTR.out _).mono ?_; rintro e w10 ⟨A10, c10, rfl, -, hg10, -⟩))
      go_ret
      exact ⟨rfl, Gr.tr HG0.out (Gr.tr HG7.out (Gr.tr hg9 (Gr.tr (Gr.al (Gr.refl w9) _) (Gr.tr hg10 (Gr.al (Gr.refl w10) _)))))⟩
    · obtain ⟨kd, z, h1, h2, h3, h4, h5, h6, h7, h8, h9⟩ := hmore (by omega)
      have HTA := Lib.hid (fun (v : Value) (x : World) (g : Gr w x) (hb : Byts x v (B.take k)) => show Calls Tryz.prog 28 #[v] x (fun e w' => ∃ A c, e = .returned (.tuple #[.agg #[str [], str [], .int .i64 st, .slice A F.length c], .int .i64 (n : Nat), .int .i64 0]) ∧ Flds w' (.slice A F.length c) F ∧ Gr x w') from by
        have h := tell_any v (B.take k) x hb (HM.out x g) (by rw [List.length_take]; omega)
        rw [h1] at h
        exact h.mono fun e w' ⟨A, c, h1, h2, h3, _⟩ => ⟨A, c, h1, h2, h3⟩)
      have HFR := Lib.hid h2
      have dn : decide (((k : Nat) : Int) < ((n : Nat) : Int)) = false := decide_eq_false (by omega)
      have HD := Lib.hid h7
      have HS7 := Lib.hid h8
      have HK9 := Lib.hid h9
      clear hless hmore h1 h2 h7 h8 h9
      go_upto_region 7 with (first
        | (refine wpList_slHi _ _ rfl rfl rfl rfl HB7.out ?_ ?_ ?_; omega; omega; intro A8 hA8; have HB8 := Lib.hid (show Byts w7 (.slice A8 k c6) (B.take k) from hA8); clear hA8)
        | (go_at_call 28; go_loud (refine (HTA.out _ _ (Gr.tr HG0.out HG7.out) HB8.out).mono ?_; rintro e w9 ⟨A9, c9, rfl, hF9, hg9⟩)))
      refine at_world (P := Code.wp _ _ _ _) (w0 := w9.alloc (Obj.cells #[str [], str [], .int .i64 st, .slice A9 F.length c9] 53)) ?_
      intro w11 hw_
      have hbh : Bk w11 w9.heap.size 53 #[str [], str [], .int .i64 st, .slice A9 F.length c9] (0, 0) := by rw [hw_]; exact Bk.new w9 _ _ _
      have hg11 : Gr w9 w11 := by rw [hw_]; exact Gr.al (Gr.refl w9) _
      clear hw_
      generalize w9.heap.size = gh at *
      have s0 : ∀ x, Gr w11 x → x.cell? ⟨gh, 0, none⟩ = some (str []) := fun x h => (hbh.gr h).cell 0
      have s1 : ∀ x, Gr w11 x → x.cell? ⟨gh, 1, none⟩ = some (str []) := fun x h => (hbh.gr h).cell 1
      have s2 : ∀ x, Gr w11 x → x.cell? ⟨gh, 2, none⟩ = some (.int .i64 st) := fun x h => (hbh.gr h).cell 2
      have s3 : ∀ x, Gr w11 x → x.cell? ⟨gh, 3, none⟩ = some (.slice A9 F.length c9) := fun x h => (hbh.gr h).cell 3
      have HF11 := Lib.hid (hF9.gr hg11)
      have HB11 := Lib.hid (HB7.out.gr (Gr.tr hg9 hg11))
      have HG11 := Lib.hid (Gr.tr HG0.out (Gr.tr HG7.out (Gr.tr hg9 hg11)))
      clear hbh hF9 hg9 hg11 HB7 HB8 HTA
      go_upto_region 10 with (first
        | (refine wpList_toStr _ rfl rfl rfl HB11.out ?_)
        | (go_at_call 37; refine (HTR.out _).mono ?_; rintro e w12 ⟨A12, c12, rfl, -, hg12, -⟩))
      have hg13 : Gr w11 (w12.alloc (Obj.cells #[str [], str [], .int .i64 st, .slice A12 F.length c12] 69)) := Gr.tr hg12 (Gr.al (Gr.refl _) _)
      refine at_world (P := Code.wp _ _ _ _) (w0 := w12.alloc (Obj.cells #[str [], str [], .int .i64 st, .slice A12 F.length c12] 69)) ?_
      intro w13 hw_
      rw [← hw_] at hg13
      clear hw_ hg12
      have HOF := Lib.hid (show Calls Tryz.prog 30 #[.agg #[str [], str [], .int .i64 st, .slice A9 F.length c9], str [71, 69, 84]] w13 (OfEnd w13 (kd, (z : Int), 0)) from by
        have h := frOf_any st F getB [] [] A9 c9 w13 (HF11.out.gr hg13) HFK.out.short HFK.out.val HFK.out.many HFK.out.items
        rw [HFR.out] at h
        exact h)
      have HNW := Lib.hid (fun (x : World) => frNew_any kd z x h3 h4 h5 h6)
      go_upto_region 16 with (first
        | (go_at_call 30; refine HOF.out.mono ?_; rintro e w14 ⟨rfl, hg14⟩)
        | (go_at_call 31; refine (HNW.out _).mono ?_; rintro e w15 ⟨gf, gc, rfl, hFA, hg15, hgf, hgc⟩))
      have HB15 := Lib.hid (HB11.out.gr (Gr.tr hg13 (Gr.tr hg14 hg15)))
      have HG15 := Lib.hid (Gr.tr HG11.out (Gr.tr hg13 (Gr.tr hg14 hg15)))
      have HFA := Lib.hid hFA
      have hwf : w.heap.size ≤ gf := Nat.le_trans (Gr.tr HG11.out (Gr.tr hg13 hg14)).size hgf
      have hwc : w.heap.size ≤ gc := Nat.le_trans (Gr.tr HG11.out (Gr.tr hg13 hg14)).size hgc
      have HGF := Lib.hid hFA.fr.lt
      have HGC := Lib.hid (Bk.lt hFA.ck)
      clear hFA hg13 hg14 hg15 hgf hgc HB11 HF11 HOF HNW HTR
      have HLS := Lib.hid (show (List.drop ((n : Nat) : Int).toNat B).take (((k : Nat) : Int).toNat - ((n : Nat) : Int).toNat) = (B.take k).drop n from by simp only [Int.toNat_natCast]; rw [List.drop_take])
      have HLL := Lib.hid (show ((B.take k).drop n).length = k - n from by rw [List.length_drop, List.length_take]; omega)
      generalize (B.take k).drop n = Y at *
      have hG3a := Gr.al (Gr.refl w15) (Obj.cells #[] 5)
      go_upto_region 17 with (first
        | (refine wpList_slLH _ _ _ rfl rfl rfl rfl rfl (HB15.out.gr hG3a) ?_ ?_ ?_ ?_; omega; omega; omega; intro A16 hA16; have HA16 := Lib.hid hA16; clear hA16)
        | (at_builtin; refine wpList_appS (W0 := w15) (n := 0) (m := k - n) (news := Y.map byt) elemByte rfl _ _ rfl rfl rfl hG3a.size (own_nil0 w15 5 1) (by have h := HA16.out; rw [HLS.out] at h; unfold Byts at h; rw [HLL.out] at h; exact h) (by rw [List.length_map, HLL.out, Nat.mul_one]) (one_byt Y) (by omega) (by decide) ?_; intro v17 w17 hown17 happ17; rw [Nat.zero_add, List.nil_append] at hown17; obtain ⟨A17, c17, rfl⟩ := hown17.form; have HG17 := Lib.hid (happ17.gr hG3a (own_nil0 w15 5 1)); have HO17 := Lib.hid hown17; have HY17 := Lib.hid (own_byts (l := Y) (by rw [HLL.out]; exact hown17)); clear hown17 happ17)
        | (go_at_call 32; refine (frTake_any (FrT.new kd z) Y _ _ gf gc (HFA.out.gr HG17.out) ⟨h3, h4⟩ rfl ckOk_start h5 HY17.out (own_ne HO17.out HGF.out) (own_ne HO17.out HGC.out) (by rw [HLL.out]; omega)).mono ?_; rintro e w18 ⟨v18, rfl, -, hFB, hKr, -⟩; have HFB := Lib.hid hFB; have HKR := Lib.hid hKr; clear hFB hKr))
      generalize frTk (FrT.new kd z) Y = T at *
      have HD2 := Lib.hid (fun (x : World) (h : FrAt x gf gc T.2.2.2) => show Calls Tryz.prog 35 #[.pointer (some ⟨gf, 0, none⟩)] x (fun e w' => e = .returned (.bool false) ∧ Gr x w') from by have h := frDone_any T.2.2.2 x gf gc h (by rw [HK9.out]; exact ⟨h3, h4⟩); rw [HD.out] at h; exact h)
      have HE2 := Lib.hid (fun (x : World) (h : FrAt x gf gc T.2.2.2) => show Calls Tryz.prog 36 #[.pointer (some ⟨gf, 0, none⟩)] x (fun e w' => e = .returned (.int .i64 13) ∧ x.grownBy w' (some gf)) from by
        have h := frEnd_any T.2.2.2 x gf gc h (by rw [HK9.out]; exact ⟨h3, h4⟩)
        rw [HS7.out] at h
        exact h.mono fun e w' ⟨a, _, c⟩ => ⟨a, c⟩)
      have hG18 : Gr w w18 := HKR.out.old (Gr.tr HG15.out HG17.out) (by intro j hj; simp only [List.mem_cons, List.not_mem_nil, or_false] at hj; omega) (Gr.tr HG15.out HG17.out).size
      have HG18 := Lib.hid hG18
      clear hG18
      go_wp2_with (first
        | (go_at_call 35; refine (HD2.out _ HFB.out).mono ?_; rintro e w19 ⟨rfl, hg19⟩)
        | (go_at_call 36; refine (HE2.out _ (HFB.out.gr hg19)).mono ?_; rintro e w20 ⟨rfl, hg20⟩))
      go_ret
      exact ⟨rfl, gr_by (Gr.tr HG18.out hg19) hg20 hwf⟩
end Go.Proofs.YtcfefflnebkjnaaGreatDoor.lgcut
