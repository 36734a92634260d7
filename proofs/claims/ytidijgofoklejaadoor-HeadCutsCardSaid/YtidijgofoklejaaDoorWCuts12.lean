/- The walk of the law HeadCuts. No conditions but the reach of the form. -/
import Derived.Test.YtidijgofoklejaaDoorHead15
namespace Go.Proofs.YtidijgofoklejaaDoor.lcuts12
open Go.RowKit
set_option maxHeartbeats 4000000 in
set_option maxRecDepth 100000 in
theorem walk (m o : List UInt8) (st : Int) (A : Option Addr) (c : Nat) (fs : List Fld) (k : Int) (w : World) (hm : Ml w) (hp : Pw w) (hu : Flds w (.slice A fs.length c) fs) (hs : Short2 fs) (h1 : m.length ≤ 140737488355328) (h2 : o.length ≤ 140737488355328) (hk : 0 ≤ k ∧ k ≤ 65535) : Calls Tryd.prog 8 #[.agg #[str m, str o, .int .i64 st, .slice A fs.length c], .int .u16 k] w fun e w' => e = .returned (.bool true) ∧ Gr w w' := by
  have hG1 := Gr.al (Gr.refl w) (Obj.cells #[str m, str o, .int .i64 st, .slice A fs.length c] 26)
  have hb1 := Lib.hid (Bk.new w 26 #[str m, str o, .int .i64 st, .slice A fs.length c] (0, 0))
  have HU := Lib.hid (hu.gr hG1); have HM := Lib.hid (hm.gr hG1); have HP := Lib.hid (hp.gr hG1)
  have HS := Lib.hid (fun (w : World) (h : Flds w (.slice A fs.length c) fs) => small12_any (m, o, st, fs) A c w h hs h1 h2)
  have HPT := Lib.hid (fun (w : World) (h0 : smallB (m, o, st, fs) = true) (hp : Pw w) (h : Flds w (.slice A fs.length c) fs) => put12_any (m, o, st, fs) A c w hp h hs (small_of12 h0).1 (small_of12 h0).2.1 (small_of12 h0).2.2.1 (small_of12 h0).2.2.2)
  have HRP := Lib.hid (fun (w : World) (h0 : smallB (m, o, st, fs) = true) (h : Flds w (.slice A fs.length c) fs) => refPut12_any (m, o, st, fs) A c w h hs (small_of12 h0).1 (small_of12 h0).2.1 (small_of12 h0).2.2.1 (small_of12 h0).2.2.2)
  have HMW := Lib.hid hm
  simp only at HS HPT HRP
  clear hu hs hm hp
  go_enter Tryd.func8, Tryd.ntmps8
  go_upto_region 1 with fail
  have hz1 : w.heap.size < (w.alloc (Obj.cells #[str m, str o, .int .i64 st, .slice A fs.length c] 26)).heap.size := hb1.out.lt
  generalize w.alloc (Obj.cells #[str m, str o, .int .i64 st, .slice A fs.length c] 26) = w1 at *
  obtain ⟨q0, q1, q2, q3⟩ := hb1.out.cells4
  cases hsm : smallB (m, o, st, fs) with
  | false =>
    rw [hsm] at HS
    go_wp2_with (first
      | (go_at_call 20; refine (HS.out _ HU.out).mono ?_; rintro e w2 ⟨rfl, hG2⟩)
      | (go_at_call 9; refine (awake12_any _ (HM.out.gr hG2)).mono ?_; rintro e w3 ⟨rfl, hG3⟩))
    go_ret
    exact ⟨rfl, Gr.tr hG1 (Gr.tr hG2 hG3)⟩
  | true =>
    have HPT2 := Lib.hid (fun (w : World) => HPT.out w hsm)
    have hsm2 := small_of12 hsm
    rw [hsm] at HS
    clear HPT HRP hsm
    have HCT := Lib.hid (fun (k : Nat) => cut_eq (m, o, st, fs) k)
    have hpl := putH_len (m, o, st, fs) hsm2.1 hsm2.2.1
    clear hsm2
    simp only at HCT
    generalize putH (m, o, st, fs) = pr at *
    obtain ⟨bs, e0⟩ := pr
    simp only at HPT2 HCT hpl
    go_wp2_with (go_at_call 20; refine (HS.out _ HU.out).mono ?_; rintro e w2 ⟨rfl, hG2⟩; have q0 := Gr.cell hG2 q0; have q1 := Gr.cell hG2 q1; have q2 := Gr.cell hG2 q2; have q3 := Gr.cell hG2 q3)
    refine (HPT2.out _ (HP.out.gr hG2) (HU.out.gr hG2)).mono ?_
    rintro e w3 ⟨A3, c3, rfl, hb3, hG3, _⟩
    have hGw3 := Gr.tr hG2 hG3
    have q2 := Gr.cell hG3 q2
    have HB3 := Lib.hid hb3
    clear hb3
    by_cases he : e0 = 0
    · subst he
      by_cases hb0 : bs.length = 0
      · have d0 : ((bs.length : Int) == 0) = true := by simp [hb0]
        go_wp2_with (go_at_call 9; refine (awake12_any _ (HM.out.gr hGw3)).mono ?_; rintro e w4 ⟨rfl, hG4⟩)
        go_ret
        exact ⟨rfl, Gr.tr hG1 (Gr.tr hGw3 hG4)⟩
      · have d0 : ((bs.length : Int) == 0) = false := by rw [beq_eq_false_iff_ne]; omega
        have hb1' : 0 < bs.length := by omega
        obtain ⟨kn, rfl⟩ : ∃ kn : Nat, k = kn := ⟨k.toNat, by omega⟩
        have hkm : kn % bs.length < bs.length := Nat.mod_lt _ hb1'
        have HQ := Lib.hid (HCT.out (kn % bs.length) rfl hkm)
        have hmod : ((kn : Int).tmod (bs.length : Int)) = ((kn % bs.length : Nat) : Int) := by rw [Int.tmod_eq_emod_of_nonneg (by omega)]; omega
        have hmod2 : ((kn : Int) % (bs.length : Int)) = ((kn % bs.length : Nat) : Int) := by omega
        clear HCT hb0
        generalize kn % bs.length = kk at *
        go_upto_region 8 with fail
        clear hmod hmod2
        have hb6 := Lib.hid (Bk.new w3 26 #[str [], str [], .int .i64 0, .slice none 0 0] (0, 0))
        have hGa := Gr.al (Gr.refl w3) (Obj.cells #[str [], str [], .int .i64 0, .slice none 0 0] 26)
        generalize w3.alloc (Obj.cells #[str [], str [], .int .i64 0, .slice none 0 0] 26) = w6 at *
        have hg6 : w1.heap.size ≤ w3.heap.size := hGw3.size
        generalize w3.heap.size = g6 at *
        have hGw6 := Gr.tr hGw3 hGa
        have HB6 := Lib.hid (HB3.out.gr hGa)
        have q2 := Gr.cell hGa q2
        clear HB3 hGa hGw3
        by_cases hst : st = 0
        · have HQ2 := Lib.hid (show askR (bs.take kk) = (noHead, 0, 3) from by have := HQ.out; rw [if_pos hst] at this; exact this)
          have hs0 : ((st : Int) == 0) = true := by simpa using hst
          clear hst HQ
          go_wp2_with (refine wpList_slHM _ _ _ rfl rfl rfl rfl rfl HB6.out ?_ ?_ ?_; omega; omega; intro A7 hA7; have HA7 := Lib.hid hA7; clear hA7)
          refine (ask_any _ _ _ HA7.out (HM.out.gr hGw6) (by rw [List.length_take]; omega)).mono ?_
          simp only [Int.toNat_natCast] at *
          rw [HQ2.out]
          rintro e w8 hend
          obtain ⟨A8, c8, rfl, hf8, hG8, hr8⟩ := headEnd_out hend
          clear hend
          have HF8 := Lib.hid hf8
          have hGw8 := Gr.tr hGw6 hG8
          have hb8 := Lib.hid (hb6.out.gr hG8)
          have HN8 := Lib.hid (fresh_ne hr8 hb6.out.lt)
          obtain ⟨y0, y1, y2, y3⟩ := hb8.out.cells4
          obtain ⟨d0, d1, d2, d3⟩ := hb8.out.free4
          clear hf8 hr8 HB6 HA7
          go_upto_region 11 with fail
          have hb9 := Lib.hid (hb8.out.set4 (str []) (str []) (.int .i64 0) (.slice A8 0 c8))
          have HF9 := Lib.hid (show Flds _ (.slice A8 0 c8) [] from HF8.out.st4 HN8.out (str []) (str []) (.int .i64 0) (.slice A8 0 c8))
          have hGw9 : Gr w _ := Gr.st4 (Gr.tr hG1 hGw8) (show w.heap.size ≤ g6 by omega) (str []) (str []) (.int .i64 0) (.slice A8 0 c8)
          have HM9 := Lib.hid (HMW.out.gr hGw9)
          clear y0 y1 y2 y3 d0 d1 d2 d3 hb8 HF8 HN8
          generalize ((((w8.setCell ⟨g6, 0, none⟩ (str [])).setCell ⟨g6, 1, none⟩ (str [])).setCell ⟨g6, 2, none⟩ (.int .i64 0)).setCell ⟨g6, 3, none⟩ (.slice A8 0 c8)) = w9 at *
          obtain ⟨y0, y1, y2, y3⟩ := hb9.out.cells4
          have HRF := Lib.hid (show Calls Tryd.prog 13 #[.agg #[.string ⟨#[]⟩, .string ⟨#[]⟩, .int .i64 0, .slice A8 0 c8]] w9 fun e w' => e = .returned (.agg #[.string ⟨#[]⟩, .string ⟨#[]⟩, .int .i64 0, .slice A8 0 c8]) ∧ Gr w9 w' from lawRef_any ([], [], 0, []) A8 c8 w9)
          have HSM := Lib.hid (show ∀ (w' : World), Gr w9 w' → Calls Tryd.prog 12 #[.agg #[.string ⟨#[]⟩, .string ⟨#[]⟩, .int .i64 0, .slice A8 0 c8], .agg #[.string ⟨#[]⟩, .string ⟨#[]⟩, .int .i64 0, .slice none 0 0]] w' fun e w'' => e = .returned (.bool true) ∧ Gr w' w'' from fun w' h => refSame12_any ([], [], 0, []) A8 none c8 0 w' (HF9.out.gr h) (nil_fld _))
          go_wp2_with (first
            | (go_at_call 13; refine HRF.out.mono ?_; rintro e w10 ⟨rfl, hG10⟩)
            | (go_at_call 12; refine (HSM.out _ hG10).mono ?_; rintro e w11 ⟨rfl, hG11⟩)
            | (go_at_call 9; refine (awake12_any _ (HM9.out.gr (Gr.tr hG10 hG11))).mono ?_; rintro e w12 ⟨rfl, hG12⟩))
          go_ret
          exact ⟨by simp, Gr.tr hGw9 (Gr.tr hG10 (Gr.tr hG11 hG12))⟩
        · have HQ2 := Lib.hid (show tellR (bs.take kk) = (noHead, 0, 3) from by have := HQ.out; rw [if_neg hst] at this; exact this)
          have hs0 : ((st : Int) == 0) = false := by simpa using hst
          clear hst HQ
          go_wp2_with (refine wpList_slHM _ _ _ rfl rfl rfl rfl rfl HB6.out ?_ ?_ ?_; omega; omega; intro A7 hA7; have HA7 := Lib.hid hA7; clear hA7)
          refine (tell_any _ _ _ HA7.out (HM.out.gr hGw6) (by rw [List.length_take]; omega)).mono ?_
          simp only [Int.toNat_natCast] at *
          rw [HQ2.out]
          rintro e w8 hend
          obtain ⟨A8, c8, rfl, hf8, hG8, hr8⟩ := headEnd_out hend
          clear hend
          have HF8 := Lib.hid hf8
          have hGw8 := Gr.tr hGw6 hG8
          have hb8 := Lib.hid (hb6.out.gr hG8)
          have HN8 := Lib.hid (fresh_ne hr8 hb6.out.lt)
          obtain ⟨y0, y1, y2, y3⟩ := hb8.out.cells4
          obtain ⟨d0, d1, d2, d3⟩ := hb8.out.free4
          clear hf8 hr8 HB6 HA7
          go_upto_region 11 with fail
          have hb9 := Lib.hid (hb8.out.set4 (str []) (str []) (.int .i64 0) (.slice A8 0 c8))
          have HF9 := Lib.hid (show Flds _ (.slice A8 0 c8) [] from HF8.out.st4 HN8.out (str []) (str []) (.int .i64 0) (.slice A8 0 c8))
          have hGw9 : Gr w _ := Gr.st4 (Gr.tr hG1 hGw8) (show w.heap.size ≤ g6 by omega) (str []) (str []) (.int .i64 0) (.slice A8 0 c8)
          have HM9 := Lib.hid (HMW.out.gr hGw9)
          clear y0 y1 y2 y3 d0 d1 d2 d3 hb8 HF8 HN8
          generalize ((((w8.setCell ⟨g6, 0, none⟩ (str [])).setCell ⟨g6, 1, none⟩ (str [])).setCell ⟨g6, 2, none⟩ (.int .i64 0)).setCell ⟨g6, 3, none⟩ (.slice A8 0 c8)) = w9 at *
          obtain ⟨y0, y1, y2, y3⟩ := hb9.out.cells4
          have HRF := Lib.hid (show Calls Tryd.prog 13 #[.agg #[.string ⟨#[]⟩, .string ⟨#[]⟩, .int .i64 0, .slice A8 0 c8]] w9 fun e w' => e = .returned (.agg #[.string ⟨#[]⟩, .string ⟨#[]⟩, .int .i64 0, .slice A8 0 c8]) ∧ Gr w9 w' from lawRef_any ([], [], 0, []) A8 c8 w9)
          have HSM := Lib.hid (show ∀ (w' : World), Gr w9 w' → Calls Tryd.prog 12 #[.agg #[.string ⟨#[]⟩, .string ⟨#[]⟩, .int .i64 0, .slice A8 0 c8], .agg #[.string ⟨#[]⟩, .string ⟨#[]⟩, .int .i64 0, .slice none 0 0]] w' fun e w'' => e = .returned (.bool true) ∧ Gr w' w'' from fun w' h => refSame12_any ([], [], 0, []) A8 none c8 0 w' (HF9.out.gr h) (nil_fld _))
          go_wp2_with (first
            | (go_at_call 13; refine HRF.out.mono ?_; rintro e w10 ⟨rfl, hG10⟩)
            | (go_at_call 12; refine (HSM.out _ hG10).mono ?_; rintro e w11 ⟨rfl, hG11⟩)
            | (go_at_call 9; refine (awake12_any _ (HM9.out.gr (Gr.tr hG10 hG11))).mono ?_; rintro e w12 ⟨rfl, hG12⟩))
          go_ret
          exact ⟨by simp, Gr.tr hGw9 (Gr.tr hG10 (Gr.tr hG11 hG12))⟩
    · have hne : ((e0 : Int) != 0) = true := by simp; exact he
      go_wp2_with (go_at_call 9; refine (awake12_any _ (HM.out.gr hGw3)).mono ?_; rintro e w4 ⟨rfl, hG4⟩)
      go_ret
      exact ⟨rfl, Gr.tr hG1 (Gr.tr hGw3 hG4)⟩
end Go.Proofs.YtidijgofoklejaaDoor.lcuts12
