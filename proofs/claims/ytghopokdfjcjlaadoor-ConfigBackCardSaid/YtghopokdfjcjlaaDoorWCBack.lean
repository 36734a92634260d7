/- The walk of the law ConfigBack. No conditions but the reach of the form, and that the tables lie. -/
import Derived.Test.YtghopokdfjcjlaaDoorConf16
namespace Go.Proofs.YtghopokdfjcjlaaDoor.lcback
open Go.RowKit
set_option maxHeartbeats 8000000 in
set_option maxRecDepth 100000 in
theorem walk (l : List Cfg) (v : Value) (w : World) (hp : Pw w) (hn : Nm w) (hv : Sl w v l.length (flatC l)) (hll : l.length ≤ 140737488355328) : Calls Tryd.prog 6 #[v] w fun e w' => e = .returned (.bool true) ∧ Gr w w' := by
  obtain ⟨A, ca, rfl, hc, hm, ho⟩ := hv.open
  have HV := Lib.hid hv
  have HP := Lib.hid hp
  have HNm := Lib.hid hn
  clear hv hp hn ho
  have HPW := Lib.hid (fun x (hx : Gr w x) => HP.out.gr hx)
  have HNW := Lib.hid (fun x (hx : Gr w x) => HNm.out.gr hx)
  have HVW := Lib.hid (fun x (hx : Gr w x) => HV.out.gr hx)
  have h00 : Gr w w := Gr.refl _
  by_cases hl : 40 < l.length
  · have hd : decide (40 < (l.length : Int)) = true := decide_eq_true (by omega)
    go_enter Tryd.func6, Tryd.ntmps6
    go_wp2_with (go_at_call 8; refine (alive39_any _ HP.out HNm.out).mono ?_; rintro e wn ⟨rfl, hgn⟩; have hgg : Gr w wn := hgn; clear hgn)
    go_ret
    exact ⟨rfl, by assumption⟩
  · have hd : decide (40 < (l.length : Int)) = false := decide_eq_false (by omega)
    have HT := Lib.hid (fun x (hx : Gr w x) => c_text_any l _ x (HPW.out x hx) (HNW.out x hx) (HVW.out x hx) (by omega))
    unfold textV at HT
    by_cases hr : l.all Cfg.right = true
    · by_cases h16 : 16 < l.length
      · rw [text_many hr h16] at HT
        simp only at HT
        clear hl hr
        go_enter Tryd.func6, Tryd.ntmps6
        go_wp2_with (first | (go_at_call 8; refine (alive39_any _ HP.out HNm.out).mono ?_; rintro e wn ⟨rfl, hgn⟩; have hgg : Gr w wn := hgn; clear hgn) | (go_at_call 17; refine (HT.out _ (by assumption)).mono ?_; rintro e wn ⟨rfl, hgn⟩; have hgg : Gr w wn := Gr.tr (by assumption) hgn; clear hgn))
        go_ret
        exact ⟨rfl, by assumption⟩
      · rw [text_good hr h16] at HT
        simp only at HT
        have hrr : ∀ c ∈ l, c.right = true := fun c hc => List.all_eq_true.1 hr c hc
        have htl := textL_len hr
        have HPA := Lib.hid (fun x (hx : Gr w x) => c_parse_any (textL l) x (by omega) (fun t ht => ascii_of (text_asc l hrr t ht)) (HNW.out x hx))
        rw [parse_text l hrr (by omega)] at HPA
        simp only at HPA
        clear hl hr hrr htl
        generalize textL l = T at *
        go_enter Tryd.func6, Tryd.ntmps6
        go_wp2_with (first | (go_at_call 8; refine (alive39_any _ HP.out HNm.out).mono ?_; rintro e wn ⟨rfl, hgn⟩; have hgg : Gr w wn := hgn; clear hgn) | (go_at_call 17; refine (HT.out _ (by assumption)).mono ?_; rintro e wn ⟨rfl, hgn⟩; have hgg : Gr w wn := Gr.tr (by assumption) hgn; clear hgn) | (go_at_call 19; refine (HPA.out _ (by assumption)).mono ?_; rintro e wn ⟨⟨v2, rfl, hsl⟩, hgn⟩; have hgg : Gr w wn := Gr.tr (by assumption) hgn; have HSL := Lib.hid hsl; obtain ⟨A2, c2, rfl, _, _, _⟩ := hsl.open; clear hgn hsl) | (go_at_call 20; refine (refSame39_eq l _ _ _ HSL.out (HVW.out _ (by assumption))).mono ?_; rintro e wn ⟨rfl, hgn⟩; have hgg : Gr w wn := Gr.tr (by assumption) hgn; clear hgn))
        go_ret
        exact ⟨by simp, by assumption⟩
    · have hT : textR l = ([], 1) := by unfold textR; rw [if_neg hr]
      rw [hT] at HT
      simp only at HT
      clear hl hr
      go_enter Tryd.func6, Tryd.ntmps6
      go_wp2_with (first | (go_at_call 8; refine (alive39_any _ HP.out HNm.out).mono ?_; rintro e wn ⟨rfl, hgn⟩; have hgg : Gr w wn := hgn; clear hgn) | (go_at_call 17; refine (HT.out _ (by assumption)).mono ?_; rintro e wn ⟨rfl, hgn⟩; have hgg : Gr w wn := Gr.tr (by assumption) hgn; clear hgn))
      go_ret
      exact ⟨rfl, by assumption⟩
end Go.Proofs.YtghopokdfjcjlaaDoor.lcback
