/- Layer 11's law on values: the walk. Conditions: the library's own variables hold what their types allow. -/
import Derived.Test.YtnmfmcmokdoieaaDoorMulti12
set_option linter.unusedVariables false
set_option linter.unusedSimpArgs false
namespace Go.Proofs.YtnmfmcmokdoieaaDoor.lmvalues
open Go.RowKit
set_option maxHeartbeats 8000000 in
set_option maxRecDepth 100000 in
theorem walk (f t n : Int) (text : List UInt8) (w : World) (hv : Vars w) (hf : -9223372036854775808 ≤ f ∧ f ≤ 9223372036854775807) (ht : -9223372036854775808 ≤ t ∧ t ≤ 9223372036854775807) (hn : -9223372036854775808 ≤ n ∧ n ≤ 9223372036854775807) (hx : text.length ≤ 140737488355328) :
    Calls Tryd.prog 3 #[.agg #[.int .i64 f, .int .i64 t], .int .i64 n, str text] w fun e w' => e = .returned (.bool true) ∧ Gr w w' := by
  have HV := Lib.hid (fun (x : World) (h : Gr w x) => hv.gr h); clear hv
  have hG1 := Gr.al (Gr.refl w) (Obj.cells #[.int .i64 f, .int .i64 t] 23)
  have hb := Bk.new w 23 #[.int .i64 f, .int .i64 t] (0, 0)
  have HAL := Lib.hid (fun (x : World) (h : Gr w x) => alive11_any x (HV.out x h))
  have HC := Lib.hid (fun (x : World) (h : Gr w x) => content_any f t n x (HV.out x h).pw hf ht hn)
  have HC2 := Lib.hid (fun (x : World) => refContent_any f t n x hf ht hn)
  have hcl := cont_len f t n
  go_enter Tryd.func3, Tryd.ntmps3
  go_upto_region 1 with fail
  generalize w.alloc (Obj.cells #[.int .i64 f, .int .i64 t] 23) = w1 at *
  generalize w.heap.size = g at *
  have HB1 := Lib.hid hb
  clear hb
  go_upto_region 3 with (go_at_call 7; refine (HAL.out _ hG1).mono ?_; rintro e w2 ⟨rfl, hG2⟩)
  have hG := Gr.tr hG1 hG2
  have HB2 := Lib.hid (HB1.out.gr hG2)
  clear hG1 hG2 HB1 HAL
  by_cases hlong : 500 < text.length
  · have d1 : decide (500 < (text.length : Int)) = true := decide_eq_true (by omega)
    go_wp2_with fail
    go_ret
    exact ⟨rfl, hG⟩
  · have d1 : decide (500 < (text.length : Int)) = false := decide_eq_false (by omega)
    obtain ⟨q0, q1⟩ := HB2.out.cells2
    go_upto_region 8 with (first
      | (go_at_call 8; refine (HC.out _ hG).mono ?_; rintro e w3 ⟨rfl, hG3⟩; have q0 := hG3.cell q0; have q1 := hG3.cell q1)
      | (go_at_call 9; refine (HC2.out _).mono ?_; rintro e w4 ⟨rfl, hG4⟩))
    have hG5 := Gr.tr (Gr.tr hG hG3) hG4
    clear q0 q1 HC HC2 HB2 hG hG3 hG4
    generalize contentL f t n = cv at *
    have hs := sl_lit w4 9 [str cv, str text] 2 (by decide)
    have hG6 := Gr.tr hG5 (Gr.al (Gr.refl w4) (Obj.cells #[str cv, str text] 9))
    go_wp2_with fail
    generalize w4.alloc (Obj.cells #[str cv, str text] 9) = w6 at *
    generalize w4.heap.size = gs at *
    have HS := Lib.hid (show ∀ (k : Nat) (hk : k < [cv, text].length), w6.cell? ⟨gs, k, none⟩ = some (str [cv, text][k]) ∧ ([cv, text][k]).length ≤ 500 from by
      intro k hk
      obtain ⟨A, c, hv, _, _, ho⟩ := Sl.open hs
      injection hv with hA
      subst hA
      have hh : ∀ u, [str cv, str text][k]? = some u → w6.cell? ⟨gs, k, none⟩ = some u := fun u hu => by
        obtain ⟨b, o, hA, _, hj⟩ := ho k u hu
        injection hA with hA
        injection hA with h1 h2
        subst h1 h2
        have := hj k u hu
        rwa [Nat.zero_add] at this
      match k, hk with
      | 0, _ => exact ⟨hh _ rfl, by show cv.length ≤ 500; omega⟩
      | 1, _ => exact ⟨hh _ rfl, by show text.length ≤ 500; omega⟩)
    clear hs hG5
    go_loopw [6, 9, 10, 11, 12, 13, 14, 15, 33] (fun x6 x9 x10 x11 x12 x13 x14 x15 i wr => ∃ k : Nat, k ≤ 2 ∧ i = .int .i64 k ∧ Gr w6 wr) (fun _ _ _ _ _ _ _ _ i _ => 2 - (intOf i).toNat)
    case atStart => exact ⟨0, by omega, rfl, Gr.refl _⟩
    case round =>
      obtain ⟨k, hk, rfl, hG⟩ := hrel
      by_cases hlt : k < 2
      · obtain ⟨hc, hl⟩ := HS.out k hlt
        have hc := hG.cell hc
        generalize [cv, text][k] = tx at *
        have HR1 := Lib.hid (fun (x : World) (h : Gr w x) => range_any tx x (HV.out x h) (by omega))
        have HR2 := Lib.hid (fun (x : World) => refRange_any tx x (by omega))
        rw [progR_eq, rangeV_eq] at HR1
        rw [rangeV_eq] at HR2
        generalize rangeR tx = rr at *
        go_upto_region 12 with (go_at_call 10; refine (HR1.out _ (Gr.tr hG6 hG)).mono ?_; rintro e w7 ⟨rfl, hG7⟩)
        have hb7 := Bk.new w7 23 #[.int .i64 (rF rr), .int .i64 (rT rr)] (0, 0)
        have hG8 := Gr.tr hG7 (Gr.al (Gr.refl w7) (Obj.cells #[.int .i64 (rF rr), .int .i64 (rT rr)] 23))
        generalize w7.alloc (Obj.cells #[.int .i64 (rF rr), .int .i64 (rT rr)] 23) = w8 at *
        generalize w7.heap.size = g7 at *
        have HB7 := Lib.hid hb7
        clear hb7 hG7
        go_upto_region 13 with (go_at_call 11; refine (HR2.out _).mono ?_; rintro e w9 ⟨rfl, hG9⟩)
        have hb9 := Bk.new w9 23 #[.int .i64 (rF rr), .int .i64 (rT rr)] (0, 0)
        have hG10 := Gr.tr hG9 (Gr.al (Gr.refl w9) (Obj.cells #[.int .i64 (rF rr), .int .i64 (rT rr)] 23))
        generalize w9.alloc (Obj.cells #[.int .i64 (rF rr), .int .i64 (rT rr)] 23) = w10 at *
        generalize w9.heap.size = g9 at *
        obtain ⟨y0, y1⟩ := (HB7.out.gr hG10).cells2
        obtain ⟨z0, z1⟩ := hb9.cells2
        clear hb9 hG9 HB7
        go_wp2_with fail
        exact ⟨⟨k + 1, by omega, by go_num, Gr.tr (Gr.tr hG hG8) hG10⟩, by simp [intOf]; omega⟩
      · go_wp2_with fail
        go_ret
        exact ⟨rfl, Gr.tr hG6 hG⟩
end Go.Proofs.YtnmfmcmokdoieaaDoor.lmvalues
