/- The walk of the law HeadPuts. No conditions but the reach of the form. -/
import Derived.Test.YtidijgofoklejaaDoorHead15
namespace Go.Proofs.YtidijgofoklejaaDoor.lputs12
open Go.RowKit
set_option maxHeartbeats 4000000 in
set_option maxRecDepth 100000 in
theorem walk (m o : List UInt8) (st : Int) (A : Option Addr) (c : Nat) (fs : List Fld) (w : World) (hm : Ml w) (hp : Pw w) (hu : Flds w (.slice A fs.length c) fs) (hs : Short2 fs) (h1 : m.length ≤ 140737488355328) (h2 : o.length ≤ 140737488355328) : Calls Tryd.prog 6 #[.agg #[str m, str o, .int .i64 st, .slice A fs.length c]] w fun e w' => e = .returned (.bool true) ∧ Gr w w' := by
  have hG1 := Gr.al (Gr.refl w) (Obj.cells #[str m, str o, .int .i64 st, .slice A fs.length c] 26)
  have hb1 := Lib.hid (Bk.new w 26 #[str m, str o, .int .i64 st, .slice A fs.length c] (0, 0))
  have HU := Lib.hid (hu.gr hG1); have HM := Lib.hid (hm.gr hG1); have HP := Lib.hid (hp.gr hG1)
  have HS := Lib.hid (fun (w : World) (h : Flds w (.slice A fs.length c) fs) => small12_any (m, o, st, fs) A c w h hs h1 h2)
  have HPT := Lib.hid (fun (w : World) (h0 : smallB (m, o, st, fs) = true) (hp : Pw w) (h : Flds w (.slice A fs.length c) fs) => put12_any (m, o, st, fs) A c w hp h hs (small_of12 h0).1 (small_of12 h0).2.1 (small_of12 h0).2.2.1 (small_of12 h0).2.2.2)
  have HRP := Lib.hid (fun (w : World) (h0 : smallB (m, o, st, fs) = true) (h : Flds w (.slice A fs.length c) fs) => refPut12_any (m, o, st, fs) A c w h hs (small_of12 h0).1 (small_of12 h0).2.1 (small_of12 h0).2.2.1 (small_of12 h0).2.2.2)
  simp only at HS HPT HRP
  clear hu hs hm hp
  go_enter Tryd.func6, Tryd.ntmps6
  go_upto_region 1 with fail
  generalize w.alloc (Obj.cells #[str m, str o, .int .i64 st, .slice A fs.length c] 26) = w1 at *
  generalize w.heap.size = g at *
  obtain ⟨q0, q1, q2, q3⟩ := hb1.out.cells4
  cases hsm : smallB (m, o, st, fs) with
  | false =>
    rw [hsm] at HS
    go_wp2_with (first
      | (go_at_call 20; refine (HS.out _ HU.out).mono ?_; rintro e w2 ⟨rfl, hG2⟩)
      | (go_at_call 9; refine (awake12_any _ (HM.out.gr hG2)).mono ?_; rintro e w3 ⟨rfl, hG3⟩))
    go_ret
    exact ⟨rfl, Gr.tr hG1 (Gr.tr hG2 hG3)⟩
  | true =>
    have HPT2 := Lib.hid (fun (w : World) => HPT.out w hsm)
    have HRP2 := Lib.hid (fun (w : World) => HRP.out w hsm)
    rw [hsm] at HS
    clear HPT HRP hsm
    generalize putH (m, o, st, fs) = pr at *
    obtain ⟨bs, e0⟩ := pr
    simp only at HPT2 HRP2
    go_wp2_with (go_at_call 20; refine (HS.out _ HU.out).mono ?_; rintro e w2 ⟨rfl, hG2⟩; have q0 := Gr.cell hG2 q0; have q1 := Gr.cell hG2 q1; have q2 := Gr.cell hG2 q2; have q3 := Gr.cell hG2 q3)
    refine (HPT2.out _ (HP.out.gr hG2) (HU.out.gr hG2)).mono ?_
    rintro e w3 ⟨A3, c3, rfl, hb3, hG3, _⟩
    have q0 := Gr.cell hG3 q0; have q1 := Gr.cell hG3 q1; have q2 := Gr.cell hG3 q2; have q3 := Gr.cell hG3 q3
    have hGw3 := Gr.tr hG2 hG3
    have HB3 := Lib.hid hb3
    clear hb3
    go_wp2_with (go_at_call 13; refine (lawRef_any (m, o, st, fs) A c _).mono ?_; rintro e w4 ⟨rfl, hG4⟩)
    refine (HRP2.out _ (HU.out.gr (Gr.tr hGw3 hG4))).mono ?_
    rintro e w5 ⟨rfl, hG5⟩
    have hGw5 := Gr.tr (Gr.tr hGw3 hG4) hG5
    have HB5 := Lib.hid (HB3.out.gr (Gr.tr hG4 hG5))
    have HM5 := Lib.hid (HM.out.gr hGw5)
    have hcv := HB5.out.toStr
    have e1 : ((e0 : Int) == (e0 : Int)) = true := by simp
    have e2 : (bs == bs) = true := by simp
    go_wp2_with (go_at_call 9; refine (awake12_any _ HM5.out).mono ?_; rintro e w6 ⟨rfl, hG6⟩)
    go_ret
    exact ⟨by simp, Gr.tr hG1 (Gr.tr hGw5 hG6)⟩
end Go.Proofs.YtidijgofoklejaaDoor.lputs12
