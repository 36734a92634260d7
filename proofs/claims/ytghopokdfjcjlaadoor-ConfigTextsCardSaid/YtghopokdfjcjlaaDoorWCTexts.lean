/- The walk of the law ConfigTexts. No conditions but the reach of the form, and that the tables lie. -/
import Derived.Test.YtghopokdfjcjlaaDoorConf16
namespace Go.Proofs.YtghopokdfjcjlaaDoor.lctexts
open Go.RowKit
set_option maxHeartbeats 8000000 in
set_option maxRecDepth 100000 in
theorem walk (l : List Cfg) (v : Value) (w : World) (hp : Pw w) (hn : Nm w) (hv : Sl w v l.length (flatC l)) (hll : l.length ≤ 140737488355328) : Calls Tryd.prog 5 #[v] w fun e w' => e = .returned (.bool true) ∧ Gr w w' := by
  obtain ⟨A, ca, rfl, hc, hm, ho⟩ := hv.open
  have HV := Lib.hid hv
  have HP := Lib.hid hp
  have HNm := Lib.hid hn
  clear hv hp hn ho
  have HPW := Lib.hid (fun x (hx : Gr w x) => HP.out.gr hx)
  have HNW := Lib.hid (fun x (hx : Gr w x) => HNm.out.gr hx)
  have HVW := Lib.hid (fun x (hx : Gr w x) => HV.out.gr hx)
  have h00 : Gr w w := Gr.refl _
  by_cases hl : 40 < l.length
  · have hd : decide (40 < (l.length : Int)) = true := decide_eq_true (by omega)
    go_enter Tryd.func5, Tryd.ntmps5
    go_wp2_with (go_at_call 8; refine (alive39_any _ HP.out HNm.out).mono ?_; rintro e wn ⟨rfl, hgn⟩; have hgg : Gr w wn := hgn; clear hgn)
    go_ret
    exact ⟨rfl, by assumption⟩
  · have hd : decide (40 < (l.length : Int)) = false := decide_eq_false (by omega)
    have HT := Lib.hid (fun x (hx : Gr w x) => c_text_any l _ x (HPW.out x hx) (HNW.out x hx) (HVW.out x hx) (by omega))
    have HRT := Lib.hid (fun x (hx : Gr w x) => refText39_any l _ x (HVW.out x hx) (by omega))
    unfold textV at HT HRT
    generalize textR l = T at *
    have e1 : (T.1 == T.1) = true := by simp
    have e2 : ((T.2 : Int) == (T.2 : Int)) = true := by simp
    clear hl
    go_enter Tryd.func5, Tryd.ntmps5
    go_wp2_with (first | (go_at_call 8; refine (alive39_any _ HP.out HNm.out).mono ?_; rintro e wn ⟨rfl, hgn⟩; have hgg : Gr w wn := hgn; clear hgn) | (go_at_call 17; refine (HT.out _ (by assumption)).mono ?_; rintro e wn ⟨rfl, hgn⟩; have hgg : Gr w wn := Gr.tr (by assumption) hgn; clear hgn) | (go_at_call 18; refine (HRT.out _ (by assumption)).mono ?_; rintro e wn ⟨rfl, hgn⟩; have hgg : Gr w wn := Gr.tr (by assumption) hgn; clear hgn))
    go_ret
    exact ⟨by simp, by assumption⟩
end Go.Proofs.YtghopokdfjcjlaaDoor.lctexts
