/- Layer 16's law on requests for which there is a reader: the walk. Conditions: the library's own variables hold what their types allow; lengths that memory holds. -/
import Derived.Test.YtdmhjabnjbpliaaGreatDoorClient12
set_option linter.unusedVariables false
set_option linter.unusedSimpArgs false
namespace Go.Proofs.YtdmhjabnjbpliaaGreatDoor.lkasks
open Go.RowKit
set_option maxHeartbeats 8000000 in
set_option maxRecDepth 100000 in
theorem walk (q : ReqT) (vs vm vn : Value) (w : World) (hv : Vars w) (ha : ReqA w q vs vm vn) (hl : ReqLow q) :
    Calls Tryz.prog 6 #[reqV q vs vm vn] w fun e w' => e = .returned (.bool true) ∧ Gr w w' := by
  have HFW := Lib.hid (fun (x : World) (g : Gr w x) => refFew16_any q vs vm vn x (ha.gr g) hl)
  have HNW := Lib.hid (fun (x : World) (g : Gr w x) (h1 : q.2.2.2.mt.length ≤ 1000000) (h2 : q.2.2.2.no.length ≤ 1000000) => kNew_any w x g q vs vm vn (ha.gr g) hl h1 h2)
  have HRT := Lib.hid (fun (x : World) (g : Gr w x) (h1 : q.2.2.2.mt.length ≤ 1000000) (h2 : q.2.2.2.no.length ≤ 1000000) => refRight16_any q vs vm vn x (ha.gr g) hl h1 h2)
  have HLN := Lib.hid (show fewC q = true → q.2.2.2.mt.length ≤ 1000000 ∧ q.2.2.2.no.length ≤ 1000000 from fun h => by
    unfold fewC at h
    simp only [Bool.and_eq_true] at h
    have := fewB_iff.1 h.2
    omega)
  have HAW := Lib.hid (fun (x : World) (g : Gr w x) => awake16_any x (hv.gr g))
  obtain ⟨hs, hm, hn⟩ := ha
  obtain ⟨A1, a1, rfl, _, _, _⟩ := id hs.open
  obtain ⟨A2, a2, rfl, _, _, _⟩ := id hm.open
  obtain ⟨A3, a3, rfl, _, _, _⟩ := id hn.open
  unfold NewEnd at HNW
  generalize fewC q = F at *
  generalize reqC q = R at *
  obtain ⟨hd, o, l, mt, no, am, an, si, un, rx, rk⟩ := q
  clear hs hm hn hl hv
  unfold reqV at *
  simp only at *
  have hbr := Bk.new w 29 #[.bool hd, str o, .slice A1 l.length a1, .slice A2 mt.length a2, .slice A3 no.length a3, .bool am, .bool an, .int .i64 si, .int .i64 un, str rx, .bool rk] (0, 0)
  have hG0 := Gr.al (Gr.refl w) (Obj.cells #[.bool hd, str o, .slice A1 l.length a1, .slice A2 mt.length a2, .slice A3 no.length a3, .bool am, .bool an, .int .i64 si, .int .i64 un, str rx, .bool rk] 29)
  go_enter Tryz.func6, Tryz.ntmps6
  go_upto_region 1 with fail
  generalize w.alloc (Obj.cells #[.bool hd, str o, .slice A1 l.length a1, .slice A2 mt.length a2, .slice A3 no.length a3, .bool am, .bool an, .int .i64 si, .int .i64 un, str rx, .bool rk] 29) = w0 at *
  generalize w.heap.size = g at *
  have r0 : ∀ x, Gr w0 x → x.cell? ⟨g, 0, none⟩ = some (.bool hd) := fun x h => (hbr.gr h).cell 0
  have r1 : ∀ x, Gr w0 x → x.cell? ⟨g, 1, none⟩ = some (str o) := fun x h => (hbr.gr h).cell 1
  have r2 : ∀ x, Gr w0 x → x.cell? ⟨g, 2, none⟩ = some (.slice A1 l.length a1) := fun x h => (hbr.gr h).cell 2
  have r3 : ∀ x, Gr w0 x → x.cell? ⟨g, 3, none⟩ = some (.slice A2 mt.length a2) := fun x h => (hbr.gr h).cell 3
  have r4 : ∀ x, Gr w0 x → x.cell? ⟨g, 4, none⟩ = some (.slice A3 no.length a3) := fun x h => (hbr.gr h).cell 4
  have r5 : ∀ x, Gr w0 x → x.cell? ⟨g, 5, none⟩ = some (.bool am) := fun x h => (hbr.gr h).cell 5
  have r6 : ∀ x, Gr w0 x → x.cell? ⟨g, 6, none⟩ = some (.bool an) := fun x h => (hbr.gr h).cell 6
  have r7 : ∀ x, Gr w0 x → x.cell? ⟨g, 7, none⟩ = some (.int .i64 si) := fun x h => (hbr.gr h).cell 7
  have r8 : ∀ x, Gr w0 x → x.cell? ⟨g, 8, none⟩ = some (.int .i64 un) := fun x h => (hbr.gr h).cell 8
  have r9 : ∀ x, Gr w0 x → x.cell? ⟨g, 9, none⟩ = some (str rx) := fun x h => (hbr.gr h).cell 9
  have r10 : ∀ x, Gr w0 x → x.cell? ⟨g, 10, none⟩ = some (.bool rk) := fun x h => (hbr.gr h).cell 10
  have h00 : Gr w0 w0 := Gr.refl w0
  have HG0 := Lib.hid hG0
  clear hbr hG0
  cases F with
  | false =>
    go_wp2_with (first
      | (go_at_call 9; refine (HFW.out _ HG0.out).mono ?_; rintro e w1 ⟨rfl, h01⟩; have HG1 := Lib.hid (Gr.tr HG0.out h01))
      | (go_at_call 11; refine (HAW.out _ HG1.out).mono ?_; rintro e w2 ⟨rfl, hg2⟩))
    go_ret
    exact ⟨rfl, Gr.tr HG1.out hg2⟩
  | true =>
    obtain ⟨l1, l2⟩ := HLN.out rfl
    clear HLN
    cases R with
    | false =>
      simp only [Bool.false_eq_true, if_false] at HNW
      go_wp2_with (first
        | (go_at_call 9; refine (HFW.out _ HG0.out).mono ?_; rintro e w1 ⟨rfl, h01⟩; have HG1 := Lib.hid (Gr.tr HG0.out h01))
        | (go_at_call 12; refine (HNW.out _ HG1.out l1 l2).mono ?_; rintro e w2 ⟨hg2, rfl⟩; have h02 := Gr.tr h01 hg2; have HG2 := Lib.hid (Gr.tr HG1.out hg2))
        | (go_at_call 10; refine (HRT.out _ HG2.out l1 l2).mono ?_; rintro e w3 ⟨rfl, hg3⟩; have HG3 := Lib.hid (Gr.tr HG2.out hg3))
        | (go_at_call 11; refine (HAW.out _ HG3.out).mono ?_; rintro e w4 ⟨rfl, hg4⟩))
      go_ret
      exact ⟨rfl, Gr.tr HG3.out hg4⟩
    | true =>
      simp only [if_true] at HNW
      go_wp2_with (first
        | (go_at_call 9; refine (HFW.out _ HG0.out).mono ?_; rintro e w1 ⟨rfl, h01⟩; have HG1 := Lib.hid (Gr.tr HG0.out h01))
        | (go_at_call 12; refine (HNW.out _ HG1.out l1 l2).mono ?_; rintro e w2 ⟨hg2, gn, rfl, hR2, hgn⟩; have h02 := Gr.tr h01 hg2; have HG2 := Lib.hid (Gr.tr HG1.out hg2); have HR2 := Lib.hid hR2; clear hR2)
        | (go_at_call 10; refine (HRT.out _ HG2.out l1 l2).mono ?_; rintro e w3 ⟨rfl, hg3⟩; have HG3 := Lib.hid (Gr.tr HG2.out hg3); have HWH := Lib.hid (whole_any (HR2.out.gr hg3)))
        | (go_at_call 18; refine HWH.out.mono ?_; rintro e w4 ⟨rfl, hg4⟩; have HG4 := Lib.hid (Gr.tr HG3.out hg4))
        | (go_at_call 11; refine (HAW.out _ HG4.out).mono ?_; rintro e w5 ⟨rfl, hg5⟩))
      go_ret
      exact ⟨rfl, Gr.tr HG4.out hg5⟩
end Go.Proofs.YtdmhjabnjbpliaaGreatDoor.lkasks
