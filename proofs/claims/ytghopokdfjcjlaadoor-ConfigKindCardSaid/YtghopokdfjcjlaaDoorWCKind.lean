/- The walk of the law ConfigKind. No conditions but the reach of the form, and that the tables lie. -/
import Derived.Test.YtghopokdfjcjlaaDoorConf16
namespace Go.Proofs.YtghopokdfjcjlaaDoor.lckind
open Go.RowKit
set_option maxHeartbeats 8000000 in
set_option maxRecDepth 100000 in
theorem walk (l : List Cfg) (v : Value) (odd : Nat) (words : List UInt8) (w : World) (hp : Pw w) (hn : Nm w) (hv : Sl w v l.length (flatC l)) (hll : l.length ≤ 140737488355328) (hodd : odd ≤ 255) (hwl : words.length ≤ 140737488355328) : Calls Tryd.prog 7 #[v, .int .u8 odd, str words] w fun e w' => e = .returned (.bool true) ∧ Gr w w' := by
  obtain ⟨A, ca, rfl, hc, hm, ho⟩ := hv.open
  have HV := Lib.hid hv
  have HP := Lib.hid hp
  have HNm := Lib.hid hn
  clear hv hp hn ho
  have HPW := Lib.hid (fun x (hx : Gr w x) => HP.out.gr hx)
  have HNW := Lib.hid (fun x (hx : Gr w x) => HNm.out.gr hx)
  have HVW := Lib.hid (fun x (hx : Gr w x) => HV.out.gr hx)
  have h00 : Gr w w := Gr.refl _
  by_cases hl : 10 < l.length
  · have hd : decide (10 < (l.length : Int)) = true := decide_eq_true (by omega)
    go_enter Tryd.func7, Tryd.ntmps7
    go_wp2_with (go_at_call 8; refine (alive39_any _ HP.out HNm.out).mono ?_; rintro e wn ⟨rfl, hgn⟩; have hgg : Gr w wn := hgn; clear hgn)
    go_ret
    exact ⟨rfl, by assumption⟩
  · have hd : decide (10 < (l.length : Int)) = false := decide_eq_false (by omega)
    by_cases hw5 : 50 < words.length
    · have hd2 : decide (50 < (words.length : Int)) = true := decide_eq_true (by omega)
      go_enter Tryd.func7, Tryd.ntmps7
      go_wp2_with (go_at_call 8; refine (alive39_any _ HP.out HNm.out).mono ?_; rintro e wn ⟨rfl, hgn⟩; have hgg : Gr w wn := hgn; clear hgn)
      go_ret
      exact ⟨rfl, by assumption⟩
    · have hd2 : decide (50 < (words.length : Int)) = false := decide_eq_false (by omega)
      have HT := Lib.hid (fun x (hx : Gr w x) => c_text_any l _ x (HPW.out x hx) (HNW.out x hx) (HVW.out x hx) (by omega))
      unfold textV at HT
      have hl10 : l.length ≤ 10 := by omega
      have hw50 : words.length ≤ 50 := by omega
      clear hl hw5 hwl
      go_enter Tryd.func7, Tryd.ntmps7
      go_wp2_with (go_at_call 8; refine (alive39_any _ HP.out HNm.out).mono ?_; rintro e wn ⟨rfl, hgn⟩; have hgg : Gr w wn := hgn; clear hgn)
      go_loop [7] (fun i => ∃ k : Nat, k ≤ words.length ∧ i = .int .i64 k ∧ ∀ c ∈ words.take k, c ≠ 10) (fun i => words.length - (intOf i).toNat)
      case atStart => exact ⟨0, Nat.zero_le _, rfl, fun c hc => by simp at hc⟩
      case round =>
        obtain ⟨k, hk, rfl, hno⟩ := hrel
        have HNO := Lib.hid hno
        clear hno
        by_cases hlt : k < words.length
        · by_cases hx : words[k] = 10
          · have e1 : ((words[k].toNat : Int) == 10) = true := by rw [hx]; rfl
            clear hx
            go_wp2_with fail
            go_ret
            exact ⟨rfl, by assumption⟩
          · have e1 : ((words[k].toNat : Int) == 10) = false := by
              have : words[k].toNat ≠ 10 := fun h => hx (UInt8.toNat_inj.1 h)
              simp; omega
            have HX := Lib.hid hx
            clear hx
            go_wp2_with fail
            refine ⟨⟨k + 1, by omega, by go_num, fun c hc => ?_⟩, by simp [intOf]; omega⟩
            rw [List.take_succ_eq_append_getElem hlt] at hc
            rcases List.mem_append.1 hc with h | h
            · exact HNO.out c h
            · simp only [List.mem_singleton] at h; subst h; exact HX.out
        · obtain rfl : k = words.length := by omega
          rw [List.take_length] at HNO
          by_cases hr : l.all Cfg.right = true
          · have h16 : ¬ 16 < l.length := by omega
            rw [text_good hr h16] at HT
            simp only at HT
            have hrr : ∀ c ∈ l, c.right = true := fun c hc => List.all_eq_true.1 hr c hc
            have htl := textL_len hr
            have hdl := deco_len words odd 0 (textL l)
            have hbig : (35 :: (words ++ 10 :: 10 :: deco words odd 0 (textL l))).length ≤ 1000000 := by
              have h1 : (textL l).length * (words.length + 7) ≤ 3050 * 57 := Nat.mul_le_mul (by omega) (by omega)
              simp only [List.length_cons, List.length_append]; omega
            have HPA := Lib.hid (fun x (hx : Gr w x) => c_parse_any (35 :: (words ++ 10 :: 10 :: deco words odd 0 (textL l))) x hbig (fun t ht => ascii_of (dressed_asc l hrr words odd HNO.out t ht)) (HNW.out x hx))
            rw [parse_dressed l hrr (by omega) words odd HNO.out] at HPA
            simp only at HPA
            have htl2 : (textL l).length ≤ 3050 := by omega
            clear hr hrr htl hdl hbig
            generalize textL l = T at *
            go_upto_region 14 with (go_at_call 17; refine (HT.out _ (by assumption)).mono ?_; rintro e wn ⟨rfl, hgn⟩; have hgg : Gr w wn := Gr.tr (by assumption) hgn; clear hgn)
            rename_i wt hgt
            go_wp2_with fail
            go_loopw [10, 11] (fun t i wr => ∃ k : Nat, k ≤ T.length ∧ i = .int .i64 k ∧ t = str (35 :: (words ++ 10 :: 10 :: deco words odd 0 (T.take k))) ∧ Gr w wr) (fun _ i _ => T.length - (intOf i).toNat)
            case atStart => exact ⟨0, Nat.zero_le _, rfl, by simp [deco], by assumption⟩
            case round =>
              obtain ⟨k, hk, rfl, rfl, hG⟩ := hrel
              by_cases hlt : k < T.length
              · have HD := Lib.hid (deco_succ words odd T k hlt)
                have hdl : (deco words odd 0 (T.take k)).length ≤ 200000 := by
                  have h1 := deco_len words odd 0 (T.take k)
                  have h2 : (T.take k).length * (words.length + 7) ≤ 3050 * 57 := Nat.mul_le_mul (by rw [List.length_take]; omega) (by omega)
                  omega
                have HS1 := Lib.hid (take_one hlt)
                generalize deco words odd 0 (T.take k) = U at *
                have hx255 : T[k].toNat ≤ 255 := by have := T[k].toNat_lt; omega
                by_cases c10 : T[k] = 10
                · have e1 : ((T[k].toNat : Int) == 10) = true := by rw [c10]; rfl
                  have e2 : ((T[k].toNat : Int) == 32) = false := by rw [c10]; rfl
                  have HC := Lib.hid c10
                  clear c10
                  rcases mod5 odd k with h5 | h5 | h5 | h5 | h5
                  · rcases mod3 odd k with h3 | h3 | h3
                    · have m5 : ((odd : Int) + (k : Int)) % 5 = 0 := by omega
                      have m3 : ((odd : Int) + (k : Int)) % 3 = 0 := by omega
                      have HE := Lib.hid (deco1_ten words h5 h3)
                      clear h5 h3
                      go_wp2_with fail
                      exact ⟨⟨k + 1, by omega, by go_num, by rw [HD.out, HC.out, HE.out, HS1.out, HC.out]; simp [ins1, ins2], Gr.al (Gr.al hG _) _⟩, by simp [intOf]; omega⟩
                    · have m5 : ((odd : Int) + (k : Int)) % 5 = 0 := by omega
                      have m3 : ((odd : Int) + (k : Int)) % 3 = 1 := by omega
                      have HE := Lib.hid (deco1_ten words h5 h3)
                      clear h5 h3
                      go_wp2_with fail
                      exact ⟨⟨k + 1, by omega, by go_num, by rw [HD.out, HC.out, HE.out, HS1.out, HC.out]; simp [ins1, ins2], Gr.al (Gr.al hG _) _⟩, by simp [intOf]; omega⟩
                    · have m5 : ((odd : Int) + (k : Int)) % 5 = 0 := by omega
                      have m3 : ((odd : Int) + (k : Int)) % 3 = 2 := by omega
                      have HE := Lib.hid (deco1_ten words h5 h3)
                      clear h5 h3
                      go_wp2_with fail
                      exact ⟨⟨k + 1, by omega, by go_num, by rw [HD.out, HC.out, HE.out, HS1.out, HC.out]; simp [ins1, ins2], Gr.al (Gr.al hG _) _⟩, by simp [intOf]; omega⟩
                  · rcases mod3 odd k with h3 | h3 | h3
                    · have m5 : ((odd : Int) + (k : Int)) % 5 = 1 := by omega
                      have m3 : ((odd : Int) + (k : Int)) % 3 = 0 := by omega
                      have HE := Lib.hid (deco1_ten words h5 h3)
                      clear h5 h3
                      go_wp2_with fail
                      exact ⟨⟨k + 1, by omega, by go_num, by rw [HD.out, HC.out, HE.out, HS1.out, HC.out]; simp [ins1, ins2], Gr.al (Gr.al hG _) _⟩, by simp [intOf]; omega⟩
                    · have m5 : ((odd : Int) + (k : Int)) % 5 = 1 := by omega
                      have m3 : ((odd : Int) + (k : Int)) % 3 = 1 := by omega
                      have HE := Lib.hid (deco1_ten words h5 h3)
                      clear h5 h3
                      go_wp2_with fail
                      exact ⟨⟨k + 1, by omega, by go_num, by rw [HD.out, HC.out, HE.out, HS1.out, HC.out]; simp [ins1, ins2], Gr.al (Gr.al hG _) _⟩, by simp [intOf]; omega⟩
                    · have m5 : ((odd : Int) + (k : Int)) % 5 = 1 := by omega
                      have m3 : ((odd : Int) + (k : Int)) % 3 = 2 := by omega
                      have HE := Lib.hid (deco1_ten words h5 h3)
                      clear h5 h3
                      go_wp2_with fail
                      exact ⟨⟨k + 1, by omega, by go_num, by rw [HD.out, HC.out, HE.out, HS1.out, HC.out]; simp [ins1, ins2], Gr.al (Gr.al hG _) _⟩, by simp [intOf]; omega⟩
                  · rcases mod3 odd k with h3 | h3 | h3
                    · have m5 : ((odd : Int) + (k : Int)) % 5 = 2 := by omega
                      have m3 : ((odd : Int) + (k : Int)) % 3 = 0 := by omega
                      have HE := Lib.hid (deco1_ten words h5 h3)
                      clear h5 h3
                      go_wp2_with fail
                      exact ⟨⟨k + 1, by omega, by go_num, by rw [HD.out, HC.out, HE.out, HS1.out, HC.out]; simp [ins1, ins2], Gr.al (Gr.al hG _) _⟩, by simp [intOf]; omega⟩
                    · have m5 : ((odd : Int) + (k : Int)) % 5 = 2 := by omega
                      have m3 : ((odd : Int) + (k : Int)) % 3 = 1 := by omega
                      have HE := Lib.hid (deco1_ten words h5 h3)
                      clear h5 h3
                      go_wp2_with fail
                      exact ⟨⟨k + 1, by omega, by go_num, by rw [HD.out, HC.out, HE.out, HS1.out, HC.out]; simp [ins1, ins2], Gr.al (Gr.al hG _) _⟩, by simp [intOf]; omega⟩
                    · have m5 : ((odd : Int) + (k : Int)) % 5 = 2 := by omega
                      have m3 : ((odd : Int) + (k : Int)) % 3 = 2 := by omega
                      have HE := Lib.hid (deco1_ten words h5 h3)
                      clear h5 h3
                      go_wp2_with fail
                      exact ⟨⟨k + 1, by omega, by go_num, by rw [HD.out, HC.out, HE.out, HS1.out, HC.out]; simp [ins1, ins2], Gr.al (Gr.al hG _) _⟩, by simp [intOf]; omega⟩
                  · rcases mod3 odd k with h3 | h3 | h3
                    · have m5 : ((odd : Int) + (k : Int)) % 5 = 3 := by omega
                      have m3 : ((odd : Int) + (k : Int)) % 3 = 0 := by omega
                      have HE := Lib.hid (deco1_ten words h5 h3)
                      clear h5 h3
                      go_wp2_with fail
                      exact ⟨⟨k + 1, by omega, by go_num, by rw [HD.out, HC.out, HE.out, HS1.out, HC.out]; simp [ins1, ins2], Gr.al (Gr.al hG _) _⟩, by simp [intOf]; omega⟩
                    · have m5 : ((odd : Int) + (k : Int)) % 5 = 3 := by omega
                      have m3 : ((odd : Int) + (k : Int)) % 3 = 1 := by omega
                      have HE := Lib.hid (deco1_ten words h5 h3)
                      clear h5 h3
                      go_wp2_with fail
                      exact ⟨⟨k + 1, by omega, by go_num, by rw [HD.out, HC.out, HE.out, HS1.out, HC.out]; simp [ins1, ins2], Gr.al (Gr.al hG _) _⟩, by simp [intOf]; omega⟩
                    · have m5 : ((odd : Int) + (k : Int)) % 5 = 3 := by omega
                      have m3 : ((odd : Int) + (k : Int)) % 3 = 2 := by omega
                      have HE := Lib.hid (deco1_ten words h5 h3)
                      clear h5 h3
                      go_wp2_with fail
                      exact ⟨⟨k + 1, by omega, by go_num, by rw [HD.out, HC.out, HE.out, HS1.out, HC.out]; simp [ins1, ins2], Gr.al (Gr.al hG _) _⟩, by simp [intOf]; omega⟩
                  · rcases mod3 odd k with h3 | h3 | h3
                    · have m5 : ((odd : Int) + (k : Int)) % 5 = 4 := by omega
                      have m3 : ((odd : Int) + (k : Int)) % 3 = 0 := by omega
                      have HE := Lib.hid (deco1_ten words h5 h3)
                      clear h5 h3
                      go_wp2_with fail
                      exact ⟨⟨k + 1, by omega, by go_num, by rw [HD.out, HC.out, HE.out, HS1.out, HC.out]; simp [ins1, ins2], Gr.al (Gr.al hG _) _⟩, by simp [intOf]; omega⟩
                    · have m5 : ((odd : Int) + (k : Int)) % 5 = 4 := by omega
                      have m3 : ((odd : Int) + (k : Int)) % 3 = 1 := by omega
                      have HE := Lib.hid (deco1_ten words h5 h3)
                      clear h5 h3
                      go_wp2_with fail
                      exact ⟨⟨k + 1, by omega, by go_num, by rw [HD.out, HC.out, HE.out, HS1.out, HC.out]; simp [ins1, ins2], Gr.al (Gr.al hG _) _⟩, by simp [intOf]; omega⟩
                    · have m5 : ((odd : Int) + (k : Int)) % 5 = 4 := by omega
                      have m3 : ((odd : Int) + (k : Int)) % 3 = 2 := by omega
                      have HE := Lib.hid (deco1_ten words h5 h3)
                      clear h5 h3
                      go_wp2_with fail
                      exact ⟨⟨k + 1, by omega, by go_num, by rw [HD.out, HC.out, HE.out, HS1.out, HC.out]; simp [ins1, ins2], Gr.al (Gr.al hG _) _⟩, by simp [intOf]; omega⟩
                · have e1 : ((T[k].toNat : Int) == 10) = false := by
                    have : T[k].toNat ≠ 10 := fun h => c10 (UInt8.toNat_inj.1 h)
                    simp; omega
                  by_cases c32 : T[k] = 32
                  · have e2 : ((T[k].toNat : Int) == 32) = true := by rw [c32]; rfl
                    have HC := Lib.hid c32
                    clear c10 c32
                    rcases mod3 odd k with h3 | h3 | h3
                    · have m3 : ((odd : Int) + (k : Int)) % 3 = 0 := by omega
                      have HE := Lib.hid (deco1_blank words h3)
                      clear h3
                      go_wp2_with fail
                      exact ⟨⟨k + 1, by omega, by go_num, by rw [HD.out, HC.out, HE.out, HS1.out, HC.out]; simp [ins2], Gr.al hG _⟩, by simp [intOf]; omega⟩
                    · have m3 : ((odd : Int) + (k : Int)) % 3 = 1 := by omega
                      have HE := Lib.hid (deco1_blank words h3)
                      clear h3
                      go_wp2_with fail
                      exact ⟨⟨k + 1, by omega, by go_num, by rw [HD.out, HC.out, HE.out, HS1.out, HC.out]; simp [ins2], Gr.al hG _⟩, by simp [intOf]; omega⟩
                    · have m3 : ((odd : Int) + (k : Int)) % 3 = 2 := by omega
                      have HE := Lib.hid (deco1_blank words h3)
                      clear h3
                      go_wp2_with fail
                      exact ⟨⟨k + 1, by omega, by go_num, by rw [HD.out, HC.out, HE.out, HS1.out, HC.out]; simp [ins2], Gr.al hG _⟩, by simp [intOf]; omega⟩
                  · have e2 : ((T[k].toNat : Int) == 32) = false := by
                      have : T[k].toNat ≠ 32 := fun h => c32 (UInt8.toNat_inj.1 h)
                      simp; omega
                    have HE := Lib.hid (deco1_other words odd k c10 c32)
                    clear c10 c32
                    go_wp2_with fail
                    exact ⟨⟨k + 1, by omega, by go_num, by rw [HD.out, HE.out, HS1.out]; (try simp), hG⟩, by simp [intOf]; omega⟩
              · obtain rfl : k = T.length := by omega
                rw [List.take_length]
                generalize 35 :: (words ++ 10 :: 10 :: deco words odd 0 T) = TT at *
                go_wp2_with (first | (go_at_call 19; refine (HPA.out _ (by assumption)).mono ?_; rintro e wn ⟨⟨v2, rfl, hsl⟩, hgn⟩; have hgg : Gr w wn := Gr.tr (by assumption) hgn; have HSL := Lib.hid hsl; obtain ⟨A2, c2, rfl, _, _, _⟩ := hsl.open; clear hgn hsl) | (go_at_call 20; refine (refSame39_eq l _ _ _ HSL.out (HVW.out _ (by assumption))).mono ?_; rintro e wn ⟨rfl, hgn⟩; have hgg : Gr w wn := Gr.tr (by assumption) hgn; clear hgn))
                go_ret
                exact ⟨by simp, by assumption⟩
          · have hT : textR l = ([], 1) := by unfold textR; rw [if_neg hr]
            rw [hT] at HT
            simp only at HT
            clear hr
            go_wp2_with (go_at_call 17; refine (HT.out _ (by assumption)).mono ?_; rintro e wn ⟨rfl, hgn⟩; have hgg : Gr w wn := Gr.tr (by assumption) hgn; clear hgn)
            go_ret
            exact ⟨rfl, by assumption⟩
end Go.Proofs.YtghopokdfjcjlaaDoor.lckind
