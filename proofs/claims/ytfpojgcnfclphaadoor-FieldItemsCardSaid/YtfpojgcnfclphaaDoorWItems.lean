/- The walk of the law FieldItems. No conditions but the reach of the form. -/
import Derived.Test.YtfpojgcnfclphaaDoorField11
namespace Go.Proofs.YtfpojgcnfclphaaDoor.litems
open Go.RowKit
set_option maxHeartbeats 4000000 in
set_option maxRecDepth 100000 in
theorem walk (u : Value) (vs : List (List UInt8)) (kk : Int) (w : World) (hm : Ml w) (hu : Strs w u vs) (hs : Short vs) (hk : 0 ≤ kk ∧ kk ≤ 255) : Calls Tryd.prog 3 #[u, .int .u8 kk] w fun e w' => e = .returned (.bool true) ∧ Gr w w' := by
  obtain ⟨hk0, hk1⟩ := hk
  have HM := Lib.hid hm; have HU := Lib.hid hu; have HS := Lib.hid hs; clear hm hu hs
  cases hg : great1 vs with
  | true =>
    go_enter Tryd.func3, Tryd.ntmps3
    go_wp2_with (first | (go_at_call 11; refine (alive_any _ HM.out).mono ?_; rintro e w1 ⟨rfl, hG1⟩) | (go_at_call 12; refine (great1_any _ _ _ (HU.out.gr hG1) HS.out).mono ?_; rintro e w2 ⟨rfl, hG2⟩))
    go_ret
    exact ⟨rfl, Gr.tr hG1 hG2⟩
  | false =>
    have hb1 : ¬ 10000 < bulk1 vs := fun h => by unfold great1 at hg; simp [h] at hg
    have hb2 : ¬ 60 < vs.length := fun h => by rw [great1_big h] at hg; cases hg
    have hx1 : ∀ x ∈ vs, x.length ≤ 1000000 := fun x hx => by
      have := mem_bulk1 hx
      omega
    have hil := itemsAll_len vs
    have HX := Lib.hid hx1; clear hx1
    have HR := Lib.hid (fun (w : World) (h : Strs w u vs) => refItems_any u vs w h HX.out (by omega))
    have HL := Lib.hid (fun (w : World) (h : Strs w u vs) => lawItems_any u vs w h HX.out (by omega) (by omega))
    have HI := Lib.hid (fun (w : World) (h : Strs w u vs) => items_any u vs w h (by omega))
    go_enter Tryd.func3, Tryd.ntmps3
    go_wp2_with (first | (go_at_call 11; refine (alive_any _ HM.out).mono ?_; rintro e w1 ⟨rfl, hG1⟩) | (go_at_call 12; refine (great1_any _ _ _ (HU.out.gr hG1) HS.out).mono ?_; rintro e w2 ⟨rfl, hG2⟩))
    have hGb := Gr.tr hG1 hG2
    refine (HR.out _ (HU.out.gr hGb)).mono ?_
    rintro e w3 ⟨v3, rfl, hv3, hG3⟩
    obtain ⟨A3, c3, rfl, hc3, hx3, hxx⟩ := hv3.open
    clear hxx
    have hGc := Gr.tr hGb hG3
    have HV3 := Lib.hid hv3; clear hv3
    go_wp2_with fail
    refine (HL.out _ (HU.out.gr hGc)).mono ?_
    rintro e w4 ⟨v4, rfl, hv4, hG4⟩
    have HV4 := Lib.hid hv4; clear hv4
    have hGd := Gr.tr hGc hG4
    have hb : ((itemsAll vs) == (itemsAll vs)) = true := by simp
    go_upto_region 8 with (go_at_call 14; refine (texts_any _ _ _ _ _ HV4.out (HV3.out.gr hG4)).mono ?_; rintro e w5 ⟨rfl, hG5⟩)
    have hGe := Gr.tr hGd hG5
    clear hG1 hG2 hGb hG3 hGc hG4 hGd hG5 HV3 HV4 HR HL hb
    generalize hn : (itemsAll vs).length = n at *
    have HN := Lib.hid hn; clear hn
    by_cases h0 : n = 0
    · subst h0
      go_wp2_with fail
      go_ret
      exact ⟨rfl, hGe⟩
    · have hn0 : ((n : Int) == 0) = false := by rw [beq_eq_false_iff_ne]; omega
      have hnp : (0 : Int) < n := by omega
      obtain ⟨r, hr⟩ : ∃ r : Nat, (kk % (n : Int)) = r := ⟨(kk % (n : Int)).toNat, by have := Int.emod_nonneg kk (show (n : Int) ≠ 0 by omega); omega⟩
      have hrn : (r : Int) < n := by rw [← hr]; exact Int.emod_lt_of_pos _ hnp
      have hkt : kk.tmod (n : Int) = (r : Int) := by rw [Int.tmod_eq_emod_of_nonneg hk0]; exact hr
      go_upto_region 11 with fail
      have hb6 := (Bk.new w5 3 #[.int .i64 (1 + (r : Int))] (0, 0)).al (.cells #[.int .i64 0] 3)
      have hb7 := Bk.new (w5.alloc (.cells #[.int .i64 (1 + (r : Int))] 3)) 3 #[.int .i64 0] (0, 0)
      have hsz : (w5.alloc (.cells #[.int .i64 (1 + (r : Int))] 3)).heap.size = w5.heap.size + 1 := by simp
      rw [hsz] at hb7
      have hGf := Gr.tr hGe (Gr.al (Gr.al (Gr.refl w5) (.cells #[.int .i64 (1 + (r : Int))] 3)) (.cells #[.int .i64 0] 3))
      have h5 : w.heap.size ≤ w5.heap.size := hGe.size
      generalize hw6 : (w5.alloc (.cells #[.int .i64 (1 + (r : Int))] 3)).alloc (.cells #[.int .i64 0] 3) = w6 at *
      clear hw6 hsz hGe
      generalize w5.heap.size = g at *
      have HB6 := Lib.hid hb6; have HB7 := Lib.hid hb7
      clear hb6 hb7
      have HI2 := Lib.hid (HI.out w6 (HU.out.gr hGf))
      go_wp2_with (go_at_call 16; refine HI2.out.mono ?_; rintro e w7 ⟨ga, av, rfl, hca, hav, hG7, hga, hva⟩)
      have hlt7 : g + 1 < w6.heap.size := HB7.out.lt
      have h07 : Count w7 (g + 1) [] w7 := ⟨(Gr.refl w7).by _, HB7.out.gr hG7⟩
      have hall : ∀ ys w', Count w7 (g + 1) ys w' → w'.cell? ⟨ga, 0, none⟩ = some av ∧ Strs w' av vs := fun ys w' h => by
        refine ⟨by_cell h.1 hca (by simp only [ne_eq, Option.some.injEq]; omega), Sl.kept hav h.1 ?_⟩
        rcases hva with hva | ⟨b, hb, hb2⟩
        · exact .inl hva
        · right; rw [hb]; simp only [ne_eq, Option.some.injEq]; omega
      have hc6 : w7.cell? ⟨g, 0, none⟩ = some (.int .i64 ((1 + r : Nat) : Int)) := by
        have := (HB6.out.gr hG7).cell 0
        simpa using this
      refine (tellItems_any (Count w7 (g + 1)) (fun ys _ => decide (ys.length + 1 < 1 + r)) 17 cf_count #[.pointer (some ⟨g + 1, 0, none⟩), .pointer (some ⟨g, 0, none⟩)] ⟨ga, 0, none⟩ av vs (fun _ _ _ h k => h.gr k) hall
        (fun ys x w' h hl => count_any w7 (g + 1) g (1 + r) ys x w' (by omega) hc6 h (by have := HN.out; omega)) HX.out (by omega) w7 h07).mono ?_
      rintro e w8 ⟨rfl, hT⟩
      have hlen := tell_some [] (itemsAll vs) (1 + r) (by simp only [List.length_nil]; omega) (by have := HN.out; simp only [List.length_nil]; omega)
      obtain ⟨h1, h2⟩ := hT
      rw [hlen] at h2
      have hcv : w8.cell? ⟨g + 1, 0, none⟩ = some (.int .i64 ((1 + r : Nat) : Int)) := h2.cell 0
      have hcs : w8.cell? ⟨g, 0, none⟩ = some (.int .i64 ((1 + r : Nat) : Int)) := by_cell h1 hc6 (by simp only [ne_eq, Option.some.injEq]; omega)
      have HG : Hid (Gr w w8) := ⟨h1.os.trans (Gr.tr hGf hG7).os, h1.tape.trans (Gr.tr hGf hG7).tape, h1.output.trans (Gr.tr hGf hG7).output, Nat.le_trans (Gr.tr hGf hG7).size h1.size, fun k hk => (h1.block k (by have := hG7.size; omega) (by simp only [ne_eq, Option.some.injEq]; omega)).trans ((Gr.tr hGf hG7).block k hk)⟩
      have hbb : ((((1 + r : Nat) : Int)) == (((1 + r : Nat) : Int))) = true := by simp
      clear h1 h2 hall h07 hva hav hca hc6 hlen
      go_wp2_with fail
      go_ret
      exact ⟨by simp, HG.out⟩
end Go.Proofs.YtfpojgcnfclphaaDoor.litems
