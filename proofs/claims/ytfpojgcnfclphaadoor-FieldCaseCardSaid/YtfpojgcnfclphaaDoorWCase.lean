/- The walk of the law FieldCase. No conditions but the reach of the form. -/
import Derived.Test.YtfpojgcnfclphaaDoorCase0
namespace Go.Proofs.YtfpojgcnfclphaaDoor.lcase
open Go.RowKit
set_option maxHeartbeats 4000000 in
set_option maxRecDepth 100000 in
theorem walk (u : Value) (xs : List Fld) (n v : List UInt8) (w : World) (hm : Ml w) (hu : Flds w u xs) (hs : Short2 xs) (_hn : n.length ≤ 140737488355328) (_hv : v.length ≤ 140737488355328) : Calls Tryd.prog 10 #[u, str n, str v] w fun e w' => e = .returned (.bool true) ∧ Gr w w' := by
  have HM := Lib.hid hm; have HU := Lib.hid hu; have HS := Lib.hid hs; clear hm hu hs
  cases hg : great2 xs with
  | true =>
    go_enter Tryd.func10, Tryd.ntmps10
    go_wp2_with (first | (go_at_call 11; refine (alive_any _ HM.out).mono ?_; rintro e w1 ⟨rfl, hG1⟩) | (go_at_call 23; refine (great2_any _ _ _ (HU.out.gr hG1) HS.out).mono ?_; rintro e w2 ⟨rfl, hG2⟩))
    go_ret
    exact ⟨rfl, Gr.tr hG1 hG2⟩
  | false =>
    have hxl : xs.length ≤ 130 := by
      have : ¬ 130 < xs.length := fun h => by rw [great2_big h] at hg; cases hg
      omega
    have hsn : Short [n, v] := by intro x hx; simp at hx; rcases hx with rfl | rfl <;> assumption
    have HSN := Lib.hid hsn; clear hsn
    go_enter Tryd.func10, Tryd.ntmps10
    go_wp2_with (first | (go_at_call 11; refine (alive_any _ HM.out).mono ?_; rintro e w1 ⟨rfl, hG1⟩) | (go_at_call 23; refine (great2_any _ _ _ (HU.out.gr hG1) HS.out).mono ?_; rintro e w2 ⟨rfl, hG2⟩))
    refine (great1_any _ _ _ (strs_new w2 [n, v] 9 (by simp)) HSN.out).mono ?_
    rintro e w3 ⟨rfl, hG3⟩
    have hGb := Gr.tr (Gr.tr hG1 hG2) (Gr.tr (Gr.al (Gr.refl w2) _) hG3)
    have HU3 := Lib.hid (HU.out.gr hGb)
    clear hG1 hG2 hG3
    cases hg1 : great1 [n, v] with
    | true =>
      go_wp2_with fail
      go_ret
      exact ⟨rfl, hGb⟩
    | false =>
      have hll : (low n).length ≤ 140737488355328 := by rw [low_len]; exact _hn
      have hS2 : Short2 (setN xs (low n) v) := fun f hf => by
        rcases setN_mem _ _ _ _ hf with h | rfl
        · exact HS.out f h
        · exact ⟨hll, _hv⟩
      have hl2 : (setN xs (low n) v).length ≤ 1000000 := by have := setN_len xs (low n) v; omega
      have HS2 := Lib.hid hS2; clear hS2
      have eG := Lib.hid (getN_low xs n)
      have eO : ofN (setN xs (low n) v) n = [v] := by rw [← ofN_low]; exact ofN_setN xs (low n) v
      have eO2 := Lib.hid (getN_of eO)
      have HO := Lib.hid eO; clear eO
      have eW := Lib.hid (show without (setN xs (low n) v) n = without xs (low n) by rw [← without_low (setN xs (low n) v) n]; exact without_setN xs (low n) v)
      go_wp2_with fail
      refine (refLow_any _ _ (by omega)).mono ?_
      rintro e w4 ⟨rfl, hG4⟩
      have HU4 := Lib.hid (HU3.out.gr hG4)
      go_wp2_with fail
      refine (get_any _ _ _ _ HU4.out HS.out _hn).mono ?_
      rintro e w5 ⟨rfl, hG5⟩
      have HU5 := Lib.hid (HU4.out.gr hG5)
      go_wp2_with fail
      refine (get_any _ _ _ _ HU5.out HS.out hll).mono ?_
      rintro e w6 ⟨rfl, hG6⟩
      have HU6 := Lib.hid (HU5.out.gr hG6)
      rw [eG.out]
      generalize getN xs n = gr at *
      obtain ⟨g1, g2⟩ := gr
      go_wp2_with fail
      refine (set_any _ _ _ _ _ HU6.out HS.out hll (by omega)).mono ?_
      rintro e w7 ⟨v7, rfl, hv7, hG7⟩
      have HU7 := Lib.hid (HU6.out.gr hG7)
      generalize setN xs (low n) v = st at *
      have HV7 := Lib.hid hv7; clear hv7
      go_wp2_with fail
      refine (get_any _ _ _ _ HV7.out HS2.out _hn).mono ?_
      rintro e w8 ⟨rfl, hG8⟩
      rw [eO2.out]
      have HV8 := Lib.hid (HV7.out.gr hG8)
      have b1 : (g1 == g1) = true := by simp
      have b2 : (g2 == g2) = true := by simp
      have b3 : (v == v) = true := by simp
      go_wp2_with fail
      refine (of_any _ _ _ _ HV8.out HS2.out _hn (by omega)).mono ?_
      rintro e w9 ⟨v9, rfl, hv9, hG9⟩
      rw [HO.out] at hv9
      obtain ⟨A9, c9, rfl, hc9, hx9, hh9⟩ := hv9.open
      clear hh9 hv9
      have HV9 := Lib.hid (HV8.out.gr hG9)
      go_wp2_with fail
      refine (without_any _ _ _ _ HV9.out HS2.out _hn (by omega)).mono ?_
      rintro e w10 ⟨v10, rfl, hv10, hG10⟩
      rw [eW.out] at hv10
      have HUa := Lib.hid (((HU7.out.gr hG8).gr hG9).gr hG10)
      have HVa := Lib.hid hv10; clear hv10
      go_wp2_with fail
      refine (without_any _ _ _ _ HUa.out HS.out hll (by omega)).mono ?_
      rintro e w11 ⟨v11, rfl, hv11, hG11⟩
      have HVb := Lib.hid (HVa.out.gr hG11); have HVc := Lib.hid hv11
      clear hv11
      go_wp2_with (go_at_call 22; refine (same_any _ _ _ _ _ HVb.out HVc.out).mono ?_; rintro e w12 ⟨rfl, hG12⟩)
      go_ret
      exact ⟨by simp, Gr.tr hGb (Gr.tr hG4 (Gr.tr hG5 (Gr.tr hG6 (Gr.tr hG7 (Gr.tr hG8 (Gr.tr hG9 (Gr.tr hG10 (Gr.tr hG11 hG12))))))))⟩
end Go.Proofs.YtfpojgcnfclphaaDoor.lcase
