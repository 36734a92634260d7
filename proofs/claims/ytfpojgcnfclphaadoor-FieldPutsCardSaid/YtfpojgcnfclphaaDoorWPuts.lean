/- The walk of the law FieldPuts. No conditions but the reach of the form. -/
import Derived.Test.YtfpojgcnfclphaaDoorField12
namespace Go.Proofs.YtfpojgcnfclphaaDoor.lputs
open Go.RowKit
set_option maxHeartbeats 4000000 in
set_option maxRecDepth 100000 in
theorem walk (u : Value) (xs : List Fld) (w : World) (hm : Ml w) (hu : Flds w u xs) (hs : Short2 xs) : Calls Tryd.prog 7 #[u] w fun e w' => e = .returned (.bool true) ∧ Gr w w' := by
  have HM := Lib.hid hm; have HU := Lib.hid hu; have HS := Lib.hid hs; clear hm hu hs
  cases hg : great2 xs with
  | true =>
    go_enter Tryd.func7, Tryd.ntmps7
    go_wp2_with (first | (go_at_call 11; refine (alive_any _ HM.out).mono ?_; rintro e w1 ⟨rfl, hG1⟩) | (go_at_call 23; refine (great2_any _ _ _ (HU.out.gr hG1) HS.out).mono ?_; rintro e w2 ⟨rfl, hG2⟩))
    go_ret
    exact ⟨rfl, Gr.tr hG1 hG2⟩
  | false =>
    obtain ⟨hx1, hx2⟩ := small_of hg
    go_enter Tryd.func7, Tryd.ntmps7
    go_wp2_with (first | (go_at_call 11; refine (alive_any _ HM.out).mono ?_; rintro e w1 ⟨rfl, hG1⟩) | (go_at_call 23; refine (great2_any _ _ _ (HU.out.gr hG1) HS.out).mono ?_; rintro e w2 ⟨rfl, hG2⟩))
    have hGb := Gr.tr hG1 hG2
    refine (put_any _ _ _ (HU.out.gr hGb) HS.out hx1 hx2).mono ?_
    rintro e w3 ⟨rfl, hG3⟩
    have hGc := Gr.tr hGb hG3
    go_wp2_with fail
    refine (refPut_any _ _ _ (HU.out.gr hGc) HS.out hx1 hx2).mono ?_
    rintro e w4 ⟨rfl, hG4⟩
    generalize put xs = r at *
    obtain ⟨r1, r2⟩ := r
    have b1 : (r1 == r1) = true := by simp
    have b2 : ((r2 : Int) == (r2 : Int)) = true := by simp
    go_wp2_with fail
    go_ret
    exact ⟨by simp, Gr.tr hGc hG4⟩
end Go.Proofs.YtfpojgcnfclphaaDoor.lputs
