/- Layer 11's law on bodies that are cut off: the walk. Conditions: the library's own variables hold what their types allow. -/
import Derived.Test.YtnmfmcmokdoieaaDoorMulti14
set_option linter.unusedVariables false
set_option linter.unusedSimpArgs false
namespace Go.Proofs.YtnmfmcmokdoieaaDoor.lmcuts
open Go.RowKit
def plainK : List UInt8 := [116, 101, 120, 116, 47, 112, 108, 97, 105, 110]
theorem ok_of {l : List (Int × Int)} {obj : List UInt8} (hs : smallB11 l = true) (hp : partsOk 200 plainK [98] l = true) (ho : obj.length = 200) : BodyOk 200 plainK [98] obj l ∧ l ≠ [] ∧ l.length ≤ 20 := by
  unfold smallB11 at hs
  simp only [Bool.and_eq_true, List.all_eq_true, decide_eq_true_eq] at hs
  unfold partsOk at hp
  simp only [Bool.and_eq_true, List.all_eq_true] at hp
  refine ⟨⟨fun s hm => ⟨hp.2.1 s hm, ?_⟩, by decide, by decide, by decide⟩, ?_, hs.2⟩
  · have := hs.1 s hm
    unfold smallS at this
    simp only [Bool.and_eq_true, decide_eq_true_eq] at this
    omega
  · rintro rfl; simp at hp
theorem own_nil1 (w : World) (e : TypeId) : Own w (w.alloc (.cells #[] e)) e 1 (.slice (some ⟨w.heap.size, 0, none⟩) 0 0) 0 [] := by
  refine ⟨by simp, .inr ⟨w.heap.size, 0, #[], rfl, Nat.le_refl _, ?_, Nat.le_refl _, by unfold maxLen; omega, by simp, by simp⟩⟩
  show (w.heap.push _)[w.heap.size]? = _; simp
set_option maxHeartbeats 8000000 in
set_option maxRecDepth 100000 in
theorem walk (u um : Value) (l : List (Int × Int)) (cut : Nat) (more : List UInt8) (w : World) (hv : Vars w) (hu : Spans w u l) (hok : ∀ s ∈ l, (-9223372036854775808 ≤ s.1 ∧ s.1 ≤ 9223372036854775807) ∧ (-9223372036854775808 ≤ s.2 ∧ s.2 ≤ 9223372036854775807)) (hcut : cut ≤ 65535) (hm : Byts w um more) (hml : more.length ≤ 140737488355328) :
    Calls Tryd.prog 5 #[u, .int .u16 cut, um] w fun e w' => e = .returned (.bool true) ∧ Gr w w' := by
  have HV := Lib.hid (fun (x : World) (h : Gr w x) => hv.gr h); clear hv
  obtain ⟨A, c, rfl, hc, hmx, _⟩ := hu.open
  obtain ⟨Am, cm, rfl, hcm, hmm, _⟩ := hm.open
  have HU := Lib.hid hu; have HM := Lib.hid hm; have HOK := Lib.hid hok
  clear hu hm hok
  have HAL := Lib.hid (alive11_any w (HV.out w (Gr.refl w)))
  have HSM := Lib.hid (fun (x : World) (h : Gr w x) => small11_any _ l x (HU.out.gr h))
  go_enter Tryd.func5, Tryd.ntmps5
  go_upto_region 3 with (go_at_call 7; refine HAL.out.mono ?_; rintro e w1 ⟨rfl, hG1⟩)
  cases hs : smallB11 l with
  | false =>
    rw [hs] at HSM
    go_wp2_with (go_at_call 15; refine (HSM.out _ hG1).mono ?_; rintro e w2 ⟨rfl, hG2⟩)
    go_ret
    exact ⟨rfl, Gr.tr hG1 hG2⟩
  | true =>
    rw [hs] at HSM
    by_cases hlm : 100 < more.length
    · have d1 : decide (100 < (more.length : Int)) = true := decide_eq_true (by omega)
      go_wp2_with (go_at_call 15; refine (HSM.out _ hG1).mono ?_; rintro e w2 ⟨rfl, hG2⟩)
      go_ret
      exact ⟨rfl, Gr.tr hG1 hG2⟩
    · have d1 : decide (100 < (more.length : Int)) = false := decide_eq_false (by omega)
      have hl20 : l.length ≤ 20 := by unfold smallB11 at hs; simp only [Bool.and_eq_true, decide_eq_true_eq] at hs; exact hs.2
      have HPA := Lib.hid (fun (x : World) (h : Gr w x) => parts_any _ l 200 plainK [98] x (HV.out x h) (HU.out.gr h) (by omega) HOK.out (by decide) (by decide) (by decide))
      go_upto_region 5 with (go_at_call 15; refine (HSM.out _ hG1).mono ?_; rintro e w2 ⟨rfl, hG2⟩)
      have hGw2 := Gr.tr hG1 hG2
      clear hG1 hG2 HSM HAL
      cases hp : partsOk 200 plainK [98] l with
      | false =>
        rw [hp] at HPA
        go_wp2_with (go_at_call 16; refine (HPA.out _ hGw2).mono ?_; rintro e w3 ⟨hG3, hend⟩; obtain rfl := (by simpa using hend : e = .returned (.tuple #[.slice none 0 0, .int .i64 1])))
        go_ret
        exact ⟨rfl, Gr.tr hGw2 hG3⟩
      | true =>
        rw [hp] at HPA
        have HBK := Lib.hid (fun (o : List UInt8) (h : o.length = 200) => ok_of hs hp h)
        clear hs hp
        go_upto_region 8 with (go_at_call 16; refine (HPA.out _ hGw2).mono ?_; rintro e w3 ⟨hG3, hend⟩; obtain ⟨v3, rfl, hp3⟩ := (by simpa using hend : ∃ v, e = .returned (.tuple #[v, .int .i64 0]) ∧ Parts w3 v (partsL 200 plainK [98] l)))
        have hGw3 := Gr.tr hGw2 hG3
        have HP3 := Lib.hid hp3
        obtain ⟨A3, c3, rfl, _, _, _⟩ := hp3.open
        clear hp3 hend hG3 hGw2 HPA
        have hpl : (partsL 200 plainK [98] l).length ≤ 1000 := by unfold partsL; rw [List.length_append, partsB_len]; simp; omega
        go_upto_region 9 with (go_at_call 18; refine (object11_any 3 _ (by decide)).mono ?_; rintro e w4 ⟨v4, o, rfl, hol, hby4, hG4⟩)
        obtain ⟨hbo, hne, _⟩ := HBK.out o hol
        have hbl : (bodyL 200 plainK [98] o l []).length ≤ l.length * (o.length + 1 + 10 + 130) + 1 + 20 := body_len 200 plainK [98] o l [] (by simp)
        have hbl2 : l.length * (o.length + 1 + 10 + 130) ≤ 20 * 341 := Nat.mul_le_mul hl20 (by omega)
        refine (fill11_any _ _ _ o _ (HP3.out.gr hG4) hby4 (parts_in hbo.span []) (by rw [fill_parts]; omega) (by omega) (by omega) (parts_text (by decide) (by decide) l [] (by simp))).mono ?_
        rintro e w5 ⟨v5, rfl, hw5, hG5⟩
        rw [fill_parts] at hw5
        have hGw5 := Gr.tr (Gr.tr hGw3 hG4) hG5
        have HRC := Lib.hid (fun k hk => multiL_cut (k := k) hbo hne hk)
        have HRM := Lib.hid (fun more => multiL_body more hbo hne)
        have hpos : 0 < (bodyL 200 plainK [98] o l []).length := by
          cases l with
          | nil => exact absurd rfl hne
          | cons s l => rw [bodyL_cons]; unfold segH; simp
        have HB5 := Lib.hid (own_byts hw5)
        clear hbo hne hG4 hG5 hGw3 hby4 HP3 HBK
        obtain ⟨A5, c5, hv5⟩ := hw5.form
        subst hv5
        clear hw5
        generalize bodyL 200 plainK [98] o l [] = B at *
        have hk0 : (0 : Int) ≤ (cut : Int) % (B.length : Int) := Int.emod_nonneg _ (by omega)
        have hk1 : (cut : Int) % (B.length : Int) < (B.length : Int) := Int.emod_lt_of_pos _ (by omega)
        have hkn : ((cut : Int) % (B.length : Int)).toNat < B.length := by omega
        have HR1 := Lib.hid (HRC.out _ hkn)
        have hBl : B.length ≤ 10000 := by omega
        go_upto_region 10 with (first
          | (refine wpList_slHi _ _ rfl rfl rfl rfl HB5.out ?_ ?_ ?_; omega; omega; intro A6 hA6; have HA6 := Lib.hid hA6; clear hA6)
          | (go_at_call 12; refine (read_any _ _ [98] _ (HV.out _ hGw5) HA6.out (by rw [List.length_take]; omega) (by decide)).mono ?_; rintro e w6 ⟨hG6, hend⟩; rw [HR1.out] at hend; simp only at hend; subst hend))
        have hGw6 := Gr.tr hGw5 hG6
        have HB6 := Lib.hid (HB5.out.gr hG6)
        have HM6 := Lib.hid (HM.out.gr hGw6)
        have HR2 := Lib.hid (HRM.out more)
        have HO6 := Lib.hid (own_nil1 w6 5)
        have hG7 := Gr.al (Gr.refl w6) (Obj.cells #[] 5)
        clear HB5 HM HRM HRC HR1 hGw5 hG6
        go_upto_region 11 with (at_builtin; first | (refine wpList_appS (W0 := w6) elemByte rfl _ _ rfl rfl rfl hG77.size HO7.out (HM6.out.gr hG77) (by simp) (one_byt _) (by omega) (by decide) ?_; intro v8 w8 hown8 happ8) | (refine wpList_appS (W0 := w6) elemByte rfl _ _ rfl rfl rfl hG7.size HO6.out (HB6.out.gr hG7) (by simp) (one_byt _) (by omega) (by decide) ?_; intro v7 w7 hown7 happ7; rw [Nat.zero_add, List.nil_append] at hown7; obtain ⟨A7, c7, rfl⟩ := hown7.form; have HO7 := Lib.hid hown7; have hG77 := happ7.gr hG7 HO6.out; clear hown7 happ7))
        rw [← List.map_append, ← List.length_append] at hown8
        have hG88 := happ8.gr hG77 HO7.out
        have hRD := read_any v8 (B ++ more) [98] w8 (HV.out _ (Gr.tr hGw6 hG88)) (own_byts hown8) (by rw [List.length_append]; omega) (by decide)
        rw [HR2.out] at hRD
        have HRD := Lib.hid hRD
        have hGw8 := Gr.tr hGw6 hG88
        obtain ⟨A8, c8, hv8⟩ := hown8.form
        clear hRD hown8 happ8 HO7 HO6 HB6 HM6 hG77 hG7 hG88 hGw6
        subst hv8
        by_cases hm0 : more = []
        · rw [if_pos hm0] at HRD
          have hml0 : more.length = 0 := by rw [hm0]; rfl
          clear hm0
          refine HRD.out.mono ?_
          rintro e w9 ⟨hG9, v9, rfl, _⟩
          clear HRD HR2
          go_wp2_with fail
          go_ret
          exact ⟨by simp, Gr.tr hGw8 hG9⟩
        · rw [if_neg hm0] at HRD
          have hml1 : 0 < more.length := List.length_pos_iff.2 hm0
          clear hm0
          refine HRD.out.mono ?_
          rintro e w9 ⟨hG9, rfl⟩
          clear HRD HR2
          go_wp2_with fail
          go_ret
          exact ⟨by simp, Gr.tr hGw8 hG9⟩
theorem walkZ (u um : Value) (l : List (Int × Int)) (k : Int) (more : List UInt8) (w : World) (hv : Vars w) (hu : Spans w u l) (hok : ∀ s ∈ l, (-9223372036854775808 ≤ s.1 ∧ s.1 ≤ 9223372036854775807) ∧ (-9223372036854775808 ≤ s.2 ∧ s.2 ≤ 9223372036854775807)) (hk : 0 ≤ k ∧ k ≤ 65535) (hm : Byts w um more) (hml : more.length ≤ 140737488355328) :
    Calls Tryd.prog 5 #[u, .int .u16 k, um] w fun e w' => e = .returned (.bool true) ∧ Gr w w' := by
  obtain ⟨n, rfl⟩ : ∃ n : Nat, k = n := ⟨k.toNat, by omega⟩
  exact walk u um l n more w hv hu hok (by omega) hm hml
end Go.Proofs.YtnmfmcmokdoieaaDoor.lmcuts
