/- Layer 45: which requests may be, are wide, are the same; which answers are great. Contracts; conditions: texts not longer than memory. -/
import Derived.Test.YtcfefflnebkjnaaGreatDoorGateOpen
import Derived.Test.YtcfefflnebkjnaaGreatDoorJCond
import Derived.Test.YtcfefflnebkjnaaGreatDoorJCond3
import Derived.Test.YtcfefflnebkjnaaGreatDoorJSpec
import Derived.Test.YtcfefflnebkjnaaGreatDoorJHead1
import Derived.Test.YtcfefflnebkjnaaGreatDoorGate2
set_option linter.unusedVariables false
set_option linter.unusedSimpArgs false
namespace Go.Proofs.YtcfefflnebkjnaaGreatDoor
open Go.RowKit
set_option maxHeartbeats 8000000 in
set_option maxRecDepth 100000 in
theorem gateRight_any (q : ReqT) (vs vm vn : Value) (w : World) (ha : ReqA w q vs vm vn) (hl : ReqLow q) (h1 : q.2.2.2.mt.length ≤ 1000000) (h2 : q.2.2.2.no.length ≤ 1000000) :
    Calls Tryz.prog 51 #[reqV q vs vm vn] w fun e w' => e = .returned (.bool (reqB q)) ∧ Gr w w' := by
  obtain ⟨hd, o, l, mt, no, am, an, si, un, rx, rk⟩ := q
  obtain ⟨ho, hrg, hmt, hno⟩ := hl
  simp only at ho hrg hmt hno
  obtain ⟨hs, hm, hn⟩ := ha
  simp only at hs hm hn
  obtain ⟨A1, a1, rfl, _, _, hA⟩ := id hs.open
  obtain ⟨A2, a2, rfl, _, _, _⟩ := id hm.open
  obtain ⟨A3, a3, rfl, _, _, _⟩ := id hn.open
  simp only at h1 h2
  have HOB := Lib.hid (fun (x : World) => object_any o x (by omega))
  have HCR := Lib.hid (fun (x : World) (g : Gr w x) => show Calls Tryz.prog 107 #[.agg #[.slice A2 mt.length a2, .slice A3 no.length a3, .bool am, .bool an, .int .i64 si, .int .i64 un, str rx, .bool rk]] x _ from condRight_any ⟨mt, no, am, an, si, un, (rx, rk)⟩ _ _ x (hm.gr g) (hn.gr g) hmt hno h1 h2 hrg)
  have HSR := Lib.hid (fun (s : SpecT) (x : World) => show Calls Tryz.prog 108 #[.agg #[.int .i64 s.1, .int .i64 s.2]] x (fun e w' => e = .returned (.bool (specB s)) ∧ Gr x w') from specRight_any s.1 s.2 x)
  have HA := Lib.hid hA
  have hbr := Bk.new w 31 #[.bool hd, str o, .slice A1 l.length a1, .slice A2 mt.length a2, .slice A3 no.length a3, .bool am, .bool an, .int .i64 si, .int .i64 un, str rx, .bool rk] (0, 0)
  have hG0 := Gr.al (Gr.refl w) (Obj.cells #[.bool hd, str o, .slice A1 l.length a1, .slice A2 mt.length a2, .slice A3 no.length a3, .bool am, .bool an, .int .i64 si, .int .i64 un, str rx, .bool rk] 31)
  have HQ := Lib.hid (show reqB (hd, o, l, ⟨mt, no, am, an, si, un, (rx, rk)⟩) = (((objB o && decide (l.length ≤ 64)) && condB ⟨mt, no, am, an, si, un, (rx, rk)⟩) && l.all specB) from rfl)
  generalize reqB (hd, o, l, ⟨mt, no, am, an, si, un, (rx, rk)⟩) = RB at *
  generalize condB ⟨mt, no, am, an, si, un, (rx, rk)⟩ = cb at *
  clear hs hm hn hA hmt hno
  unfold reqV
  simp only
  go_enter Tryz.func51, Tryz.ntmps51
  go_upto_region 1 with fail
  generalize w.alloc (Obj.cells #[.bool hd, str o, .slice A1 l.length a1, .slice A2 mt.length a2, .slice A3 no.length a3, .bool am, .bool an, .int .i64 si, .int .i64 un, str rx, .bool rk] 31) = w0 at *
  generalize w.heap.size = g at *
  have r0 : ∀ x, Gr w0 x → x.cell? ⟨g, 0, none⟩ = some (.bool hd) := fun x h => (hbr.gr h).cell 0
  have r1 : ∀ x, Gr w0 x → x.cell? ⟨g, 1, none⟩ = some (str o) := fun x h => (hbr.gr h).cell 1
  have r2 : ∀ x, Gr w0 x → x.cell? ⟨g, 2, none⟩ = some (.slice A1 l.length a1) := fun x h => (hbr.gr h).cell 2
  have r3 : ∀ x, Gr w0 x → x.cell? ⟨g, 3, none⟩ = some (.slice A2 mt.length a2) := fun x h => (hbr.gr h).cell 3
  have r4 : ∀ x, Gr w0 x → x.cell? ⟨g, 4, none⟩ = some (.slice A3 no.length a3) := fun x h => (hbr.gr h).cell 4
  have r5 : ∀ x, Gr w0 x → x.cell? ⟨g, 5, none⟩ = some (.bool am) := fun x h => (hbr.gr h).cell 5
  have r6 : ∀ x, Gr w0 x → x.cell? ⟨g, 6, none⟩ = some (.bool an) := fun x h => (hbr.gr h).cell 6
  have r7 : ∀ x, Gr w0 x → x.cell? ⟨g, 7, none⟩ = some (.int .i64 si) := fun x h => (hbr.gr h).cell 7
  have r8 : ∀ x, Gr w0 x → x.cell? ⟨g, 8, none⟩ = some (.int .i64 un) := fun x h => (hbr.gr h).cell 8
  have r9 : ∀ x, Gr w0 x → x.cell? ⟨g, 9, none⟩ = some (str rx) := fun x h => (hbr.gr h).cell 9
  have r10 : ∀ x, Gr w0 x → x.cell? ⟨g, 10, none⟩ = some (.bool rk) := fun x h => (hbr.gr h).cell 10
  have h00 : Gr w0 w0 := Gr.refl w0
  have HG0 := Lib.hid hG0
  clear hbr hG0
  cases k0 : objB o with
  | false =>
    rw [k0] at HOB HQ
    have HX := Lib.hid (show RB = false from by rw [HQ.out]; rfl)
    clear k0 HQ HCR HSR
    go_wp2_with (go_at_call 106; refine (HOB.out _).mono ?_; rintro e wn ⟨rfl, hgn⟩)
    go_ret
    exact ⟨ret_bool HX.out.symm, Gr.tr HG0.out hgn⟩
  | true =>
    rw [k0] at HOB HQ
    by_cases k1 : l.length ≤ 64
    · have d1 : decide (64 < (l.length : Int)) = false := decide_eq_false (by omega)
      cases k2 : cb with
      | false =>
        rw [k2] at HCR HQ
        have HX := Lib.hid (show RB = false from by rw [HQ.out]; simp)
        clear k0 k1 k2 HQ HSR
        go_wp2_with (first | (go_at_call 106; refine (HOB.out _).mono ?_; rintro e wn ⟨rfl, hgn⟩) | (go_at_call 107; refine (HCR.out _ (Gr.tr HG0.out (by assumption))).mono ?_; rintro e wm ⟨rfl, hgm⟩))
        go_ret
        exact ⟨ret_bool HX.out.symm, Gr.tr HG0.out (Gr.tr hgn hgm)⟩
      | true =>
        rw [k2] at HCR HQ
        have HX := Lib.hid (show RB = l.all specB from by rw [HQ.out, decide_eq_true k1]; rfl)
        clear k0 k2 HQ
        go_upto_region 4 with (first | (go_at_call 106; refine (HOB.out _).mono ?_; rintro e wn ⟨rfl, hgn⟩) | (go_at_call 107; refine (HCR.out _ (Gr.tr HG0.out (by assumption))).mono ?_; rintro e wm ⟨rfl, hgm⟩; have hgnm := Gr.tr hgn hgm))
        have hG2 := hgnm
        clear HCR HOB hgn hgm
        go_loopw [4, 24] (fun x4 i wr => ∃ k : Nat, k ≤ l.length ∧ i = .int .i64 k ∧ Gr w0 wr ∧ (l.take k).all specB = true) (fun _ i _ => l.length - (intOf i).toNat)
        case atStart => exact ⟨0, Nat.zero_le _, rfl, hG2, rfl⟩
        case round =>
          obtain ⟨k, hk, rfl, hG, hE⟩ := hrel
          have HE := Lib.hid hE
          clear hE
          by_cases hlt : k < l.length
          · obtain ⟨b5, o5, rfl, hb5, p5, p6⟩ := HA.out k hlt
            have p5 := Gr.cell (Gr.tr HG0.out hG) p5
            have p6 := Gr.cell (Gr.tr HG0.out hG) p6
            have HT := Lib.hid (HSR.out l[k])
            go_upto_region 6 with fail
            cases hz : specB l[k] with
            | true =>
              rw [hz] at HT
              have HS := Lib.hid (all_take_succ _ l k hlt HE.out hz)
              have hGb := Gr.al (Gr.refl wr) (Obj.cells #[.int .i64 l[k].1, .int .i64 l[k].2] 74)
              have hbb := Bk.new wr 74 #[.int .i64 l[k].1, .int .i64 l[k].2] (0, 0)
              have hG := Gr.tr hG hGb
              generalize wr.alloc (Obj.cells #[.int .i64 l[k].1, .int .i64 l[k].2] 74) = wb at *
              obtain ⟨y0, y1⟩ := hbb.cells2
              clear hGb hbb
              go_wp2_with (go_at_call 108; refine (HT.out _).mono ?_; rintro e wn ⟨rfl, hgn⟩)
              exact ⟨⟨k + 1, by omega, by go_num, Gr.tr hG hgn, HS.out⟩, by simp [intOf]; omega⟩
            | false =>
              rw [hz] at HT
              have HX := Lib.hid (show RB = false from by rw [HX.out, List.all_eq_false]; exact ⟨l[k], List.getElem_mem hlt, by simp [hz]⟩)
              have hGb := Gr.al (Gr.refl wr) (Obj.cells #[.int .i64 l[k].1, .int .i64 l[k].2] 74)
              have hbb := Bk.new wr 74 #[.int .i64 l[k].1, .int .i64 l[k].2] (0, 0)
              have hG := Gr.tr hG hGb
              generalize wr.alloc (Obj.cells #[.int .i64 l[k].1, .int .i64 l[k].2] 74) = wb at *
              obtain ⟨y0, y1⟩ := hbb.cells2
              clear hGb hbb
              go_wp2_with (go_at_call 108; refine (HT.out _).mono ?_; rintro e wn ⟨rfl, hgn⟩)
              go_ret
              exact ⟨ret_bool HX.out.symm, Gr.tr HG0.out (Gr.tr hG hgn)⟩
          · have hvk : l.take k = l := List.take_of_length_le (by omega)
            have HX := Lib.hid (show RB = true from by rw [HX.out]; have := HE.out; rwa [hvk] at this)
            clear hvk
            go_wp2_with fail
            go_ret
            exact ⟨ret_bool HX.out.symm, Gr.tr HG0.out hG⟩
    · have d1 : decide (64 < (l.length : Int)) = true := decide_eq_true (by omega)
      have HX := Lib.hid (show RB = false from by rw [HQ.out, decide_eq_false k1]; simp)
      clear k0 k1 HQ HCR HSR
      go_wp2_with (go_at_call 106; refine (HOB.out _).mono ?_; rintro e wn ⟨rfl, hgn⟩)
      go_ret
      exact ⟨ret_bool HX.out.symm, Gr.tr HG0.out hgn⟩
set_option maxHeartbeats 8000000 in
set_option maxRecDepth 100000 in
theorem refRight45_any (q : ReqT) (vs vm vn : Value) (w : World) (ha : ReqA w q vs vm vn) (hl : ReqLow q) (h1 : q.2.2.2.mt.length ≤ 1000000) (h2 : q.2.2.2.no.length ≤ 1000000) :
    Calls Tryz.prog 18 #[reqV q vs vm vn] w fun e w' => e = .returned (.bool (reqB q)) ∧ Gr w w' := by
  obtain ⟨hd, o, l, mt, no, am, an, si, un, rx, rk⟩ := q
  obtain ⟨ho, hrg, hmt, hno⟩ := hl
  simp only at ho hrg hmt hno
  obtain ⟨hs, hm, hn⟩ := ha
  simp only at hs hm hn
  obtain ⟨A1, a1, rfl, _, _, hA⟩ := id hs.open
  obtain ⟨A2, a2, rfl, _, _, _⟩ := id hm.open
  obtain ⟨A3, a3, rfl, _, _, _⟩ := id hn.open
  simp only at h1 h2
  have HOB := Lib.hid (fun (x : World) => refObject_any o x (by omega))
  have HCR := Lib.hid (fun (x : World) (g : Gr w x) => show Calls Tryz.prog 59 #[.agg #[.slice A2 mt.length a2, .slice A3 no.length a3, .bool am, .bool an, .int .i64 si, .int .i64 un, str rx, .bool rk]] x _ from refCondRight_any ⟨mt, no, am, an, si, un, (rx, rk)⟩ _ _ x (hm.gr g) (hn.gr g) hmt hno h1 h2 hrg)
  have HSR := Lib.hid (fun (s : SpecT) (x : World) => show Calls Tryz.prog 60 #[.agg #[.int .i64 s.1, .int .i64 s.2]] x (fun e w' => e = .returned (.bool (specB s)) ∧ Gr x w') from refSpecRight_any s.1 s.2 x)
  have HA := Lib.hid hA
  have hbr := Bk.new w 31 #[.bool hd, str o, .slice A1 l.length a1, .slice A2 mt.length a2, .slice A3 no.length a3, .bool am, .bool an, .int .i64 si, .int .i64 un, str rx, .bool rk] (0, 0)
  have hG0 := Gr.al (Gr.refl w) (Obj.cells #[.bool hd, str o, .slice A1 l.length a1, .slice A2 mt.length a2, .slice A3 no.length a3, .bool am, .bool an, .int .i64 si, .int .i64 un, str rx, .bool rk] 31)
  have HQ := Lib.hid (show reqB (hd, o, l, ⟨mt, no, am, an, si, un, (rx, rk)⟩) = (((objB o && decide (l.length ≤ 64)) && condB ⟨mt, no, am, an, si, un, (rx, rk)⟩) && l.all specB) from rfl)
  generalize reqB (hd, o, l, ⟨mt, no, am, an, si, un, (rx, rk)⟩) = RB at *
  generalize condB ⟨mt, no, am, an, si, un, (rx, rk)⟩ = cb at *
  clear hs hm hn hA hmt hno
  unfold reqV
  simp only
  go_enter Tryz.func18, Tryz.ntmps18
  go_upto_region 1 with fail
  generalize w.alloc (Obj.cells #[.bool hd, str o, .slice A1 l.length a1, .slice A2 mt.length a2, .slice A3 no.length a3, .bool am, .bool an, .int .i64 si, .int .i64 un, str rx, .bool rk] 31) = w0 at *
  generalize w.heap.size = g at *
  have r0 : ∀ x, Gr w0 x → x.cell? ⟨g, 0, none⟩ = some (.bool hd) := fun x h => (hbr.gr h).cell 0
  have r1 : ∀ x, Gr w0 x → x.cell? ⟨g, 1, none⟩ = some (str o) := fun x h => (hbr.gr h).cell 1
  have r2 : ∀ x, Gr w0 x → x.cell? ⟨g, 2, none⟩ = some (.slice A1 l.length a1) := fun x h => (hbr.gr h).cell 2
  have r3 : ∀ x, Gr w0 x → x.cell? ⟨g, 3, none⟩ = some (.slice A2 mt.length a2) := fun x h => (hbr.gr h).cell 3
  have r4 : ∀ x, Gr w0 x → x.cell? ⟨g, 4, none⟩ = some (.slice A3 no.length a3) := fun x h => (hbr.gr h).cell 4
  have r5 : ∀ x, Gr w0 x → x.cell? ⟨g, 5, none⟩ = some (.bool am) := fun x h => (hbr.gr h).cell 5
  have r6 : ∀ x, Gr w0 x → x.cell? ⟨g, 6, none⟩ = some (.bool an) := fun x h => (hbr.gr h).cell 6
  have r7 : ∀ x, Gr w0 x → x.cell? ⟨g, 7, none⟩ = some (.int .i64 si) := fun x h => (hbr.gr h).cell 7
  have r8 : ∀ x, Gr w0 x → x.cell? ⟨g, 8, none⟩ = some (.int .i64 un) := fun x h => (hbr.gr h).cell 8
  have r9 : ∀ x, Gr w0 x → x.cell? ⟨g, 9, none⟩ = some (str rx) := fun x h => (hbr.gr h).cell 9
  have r10 : ∀ x, Gr w0 x → x.cell? ⟨g, 10, none⟩ = some (.bool rk) := fun x h => (hbr.gr h).cell 10
  have h00 : Gr w0 w0 := Gr.refl w0
  have HG0 := Lib.hid hG0
  clear hbr hG0
  cases k0 : objB o with
  | false =>
    rw [k0] at HOB HQ
    have HX := Lib.hid (show RB = false from by rw [HQ.out]; rfl)
    clear k0 HQ HCR HSR
    go_wp2_with (go_at_call 58; refine (HOB.out _).mono ?_; rintro e wn ⟨rfl, hgn⟩)
    go_ret
    exact ⟨ret_bool HX.out.symm, Gr.tr HG0.out hgn⟩
  | true =>
    rw [k0] at HOB HQ
    by_cases k1 : l.length ≤ 64
    · have d1 : decide (64 < (l.length : Int)) = false := decide_eq_false (by omega)
      cases k2 : cb with
      | false =>
        rw [k2] at HCR HQ
        have HX := Lib.hid (show RB = false from by rw [HQ.out]; simp)
        clear k0 k1 k2 HQ HSR
        go_wp2_with (first | (go_at_call 58; refine (HOB.out _).mono ?_; rintro e wn ⟨rfl, hgn⟩) | (go_at_call 59; refine (HCR.out _ (Gr.tr HG0.out (by assumption))).mono ?_; rintro e wm ⟨rfl, hgm⟩))
        go_ret
        exact ⟨ret_bool HX.out.symm, Gr.tr HG0.out (Gr.tr hgn hgm)⟩
      | true =>
        rw [k2] at HCR HQ
        have HX := Lib.hid (show RB = l.all specB from by rw [HQ.out, decide_eq_true k1]; rfl)
        clear k0 k2 HQ
        go_upto_region 4 with (first | (go_at_call 58; refine (HOB.out _).mono ?_; rintro e wn ⟨rfl, hgn⟩) | (go_at_call 59; refine (HCR.out _ (Gr.tr HG0.out (by assumption))).mono ?_; rintro e wm ⟨rfl, hgm⟩; have hgnm := Gr.tr hgn hgm))
        have hG2 := hgnm
        clear HCR HOB hgn hgm
        go_loopw [3] (fun i wr => ∃ k : Nat, k ≤ l.length ∧ i = .int .i64 k ∧ Gr w0 wr ∧ (l.take k).all specB = true) (fun i _ => l.length - (intOf i).toNat)
        case atStart => exact ⟨0, Nat.zero_le _, rfl, hG2, rfl⟩
        case round =>
          obtain ⟨k, hk, rfl, hG, hE⟩ := hrel
          have HE := Lib.hid hE
          clear hE
          by_cases hlt : k < l.length
          · obtain ⟨b5, o5, rfl, hb5, p5, p6⟩ := HA.out k hlt
            have p5 := Gr.cell (Gr.tr HG0.out hG) p5
            have p6 := Gr.cell (Gr.tr HG0.out hG) p6
            have HT := Lib.hid (HSR.out l[k])
            go_upto_region 6 with fail
            cases hz : specB l[k] with
            | true =>
              rw [hz] at HT
              have HS := Lib.hid (all_take_succ _ l k hlt HE.out hz)
              skip
              go_wp2_with (go_at_call 60; refine (HT.out _).mono ?_; rintro e wn ⟨rfl, hgn⟩)
              exact ⟨⟨k + 1, by omega, by go_num, Gr.tr hG hgn, HS.out⟩, by simp [intOf]; omega⟩
            | false =>
              rw [hz] at HT
              have HX := Lib.hid (show RB = false from by rw [HX.out, List.all_eq_false]; exact ⟨l[k], List.getElem_mem hlt, by simp [hz]⟩)
              skip
              go_wp2_with (go_at_call 60; refine (HT.out _).mono ?_; rintro e wn ⟨rfl, hgn⟩)
              go_ret
              exact ⟨ret_bool HX.out.symm, Gr.tr HG0.out (Gr.tr hG hgn)⟩
          · have hvk : l.take k = l := List.take_of_length_le (by omega)
            have HX := Lib.hid (show RB = true from by rw [HX.out]; have := HE.out; rwa [hvk] at this)
            clear hvk
            go_wp2_with fail
            go_ret
            exact ⟨ret_bool HX.out.symm, Gr.tr HG0.out hG⟩
    · have d1 : decide (64 < (l.length : Int)) = true := decide_eq_true (by omega)
      have HX := Lib.hid (show RB = false from by rw [HQ.out, decide_eq_false k1]; simp)
      clear k0 k1 HQ HCR HSR
      go_wp2_with (go_at_call 58; refine (HOB.out _).mono ?_; rintro e wn ⟨rfl, hgn⟩)
      go_ret
      exact ⟨ret_bool HX.out.symm, Gr.tr HG0.out hgn⟩
def wideB (q : ReqT) : Bool := decide (300 < q.2.1.length) || (decide (70 < q.2.2.1.length) || !fewB q.2.2.2)
theorem wideB_no {q : ReqT} (h : wideB q = false) : q.2.1.length ≤ 300 ∧ q.2.2.1.length ≤ 70 ∧ fewB q.2.2.2 = true := by
  unfold wideB at h
  simp only [Bool.or_eq_false_iff, decide_eq_false_iff_not, Bool.not_eq_false'] at h
  exact ⟨by omega, by omega, h.2.2⟩
set_option maxHeartbeats 8000000 in
set_option maxRecDepth 100000 in
theorem refWide_any (q : ReqT) (vs vm vn : Value) (w : World) (ha : ReqA w q vs vm vn) (hl : ReqLow q) :
    Calls Tryz.prog 15 #[reqV q vs vm vn] w fun e w' => e = .returned (.bool (wideB q)) ∧ Gr w w' := by
  obtain ⟨hd, o, l, mt, no, am, an, si, un, rx, rk⟩ := q
  obtain ⟨ho, hrg, hmt, hno⟩ := hl
  simp only at ho hrg hmt hno
  obtain ⟨hs, hm, hn⟩ := ha
  simp only at hs hm hn
  obtain ⟨A1, a1, rfl, _, _, hA⟩ := id hs.open
  obtain ⟨A2, a2, rfl, _, _, _⟩ := id hm.open
  obtain ⟨A3, a3, rfl, _, _, _⟩ := id hn.open
  have HFW := Lib.hid (fun (x : World) (g : Gr w x) => show Calls Tryz.prog 50 #[.agg #[.slice A2 mt.length a2, .slice A3 no.length a3, .bool am, .bool an, .int .i64 si, .int .i64 un, str rx, .bool rk]] x _ from refFew_any ⟨mt, no, am, an, si, un, (rx, rk)⟩ _ _ x (hm.gr g) (hn.gr g) hmt hno hrg)
  have hbr := Bk.new w 31 #[.bool hd, str o, .slice A1 l.length a1, .slice A2 mt.length a2, .slice A3 no.length a3, .bool am, .bool an, .int .i64 si, .int .i64 un, str rx, .bool rk] (0, 0)
  have hG0 := Gr.al (Gr.refl w) (Obj.cells #[.bool hd, str o, .slice A1 l.length a1, .slice A2 mt.length a2, .slice A3 no.length a3, .bool am, .bool an, .int .i64 si, .int .i64 un, str rx, .bool rk] 31)
  have HQ := Lib.hid (show wideB (hd, o, l, ⟨mt, no, am, an, si, un, (rx, rk)⟩) = (decide (300 < o.length) || (decide (70 < l.length) || !fewB ⟨mt, no, am, an, si, un, (rx, rk)⟩)) from rfl)
  generalize wideB (hd, o, l, ⟨mt, no, am, an, si, un, (rx, rk)⟩) = RB at *
  generalize fewB ⟨mt, no, am, an, si, un, (rx, rk)⟩ = fb at *
  clear hs hm hn hA hmt hno
  unfold reqV
  simp only
  go_enter Tryz.func15, Tryz.ntmps15
  go_upto_region 1 with fail
  generalize w.alloc (Obj.cells #[.bool hd, str o, .slice A1 l.length a1, .slice A2 mt.length a2, .slice A3 no.length a3, .bool am, .bool an, .int .i64 si, .int .i64 un, str rx, .bool rk] 31) = w0 at *
  generalize w.heap.size = g at *
  have r0 : ∀ x, Gr w0 x → x.cell? ⟨g, 0, none⟩ = some (.bool hd) := fun x h => (hbr.gr h).cell 0
  have r1 : ∀ x, Gr w0 x → x.cell? ⟨g, 1, none⟩ = some (str o) := fun x h => (hbr.gr h).cell 1
  have r2 : ∀ x, Gr w0 x → x.cell? ⟨g, 2, none⟩ = some (.slice A1 l.length a1) := fun x h => (hbr.gr h).cell 2
  have r3 : ∀ x, Gr w0 x → x.cell? ⟨g, 3, none⟩ = some (.slice A2 mt.length a2) := fun x h => (hbr.gr h).cell 3
  have r4 : ∀ x, Gr w0 x → x.cell? ⟨g, 4, none⟩ = some (.slice A3 no.length a3) := fun x h => (hbr.gr h).cell 4
  have r5 : ∀ x, Gr w0 x → x.cell? ⟨g, 5, none⟩ = some (.bool am) := fun x h => (hbr.gr h).cell 5
  have r6 : ∀ x, Gr w0 x → x.cell? ⟨g, 6, none⟩ = some (.bool an) := fun x h => (hbr.gr h).cell 6
  have r7 : ∀ x, Gr w0 x → x.cell? ⟨g, 7, none⟩ = some (.int .i64 si) := fun x h => (hbr.gr h).cell 7
  have r8 : ∀ x, Gr w0 x → x.cell? ⟨g, 8, none⟩ = some (.int .i64 un) := fun x h => (hbr.gr h).cell 8
  have r9 : ∀ x, Gr w0 x → x.cell? ⟨g, 9, none⟩ = some (str rx) := fun x h => (hbr.gr h).cell 9
  have r10 : ∀ x, Gr w0 x → x.cell? ⟨g, 10, none⟩ = some (.bool rk) := fun x h => (hbr.gr h).cell 10
  have h00 : Gr w0 w0 := Gr.refl w0
  have HG0 := Lib.hid hG0
  clear hbr hG0
  by_cases k0 : 300 < o.length
  · have d0 : decide (300 < (o.length : Int)) = true := decide_eq_true (by omega)
    have HX := Lib.hid (show RB = true from by rw [HQ.out, decide_eq_true k0]; rfl)
    go_wp2_with fail
    go_ret
    exact ⟨ret_bool HX.out.symm, HG0.out⟩
  · have d0 : decide (300 < (o.length : Int)) = false := decide_eq_false (by omega)
    by_cases k1 : 70 < l.length
    · have d1 : decide (70 < (l.length : Int)) = true := decide_eq_true (by omega)
      have HX := Lib.hid (show RB = true from by rw [HQ.out, decide_eq_true k1]; simp)
      go_wp2_with fail
      go_ret
      exact ⟨ret_bool HX.out.symm, HG0.out⟩
    · have d1 : decide (70 < (l.length : Int)) = false := decide_eq_false (by omega)
      have HX := Lib.hid (show RB = !fb from by rw [HQ.out, decide_eq_false k0, decide_eq_false k1]; rfl)
      clear HQ
      go_wp2_with (go_at_call 50; refine (HFW.out _ HG0.out).mono ?_; rintro e wn ⟨rfl, hgn⟩)
      go_ret
      exact ⟨ret_bool HX.out.symm, Gr.tr HG0.out hgn⟩
set_option maxHeartbeats 8000000 in
set_option maxRecDepth 100000 in
theorem refSame45_eq (q : ReqT) (vs vm vn us um un' : Value) (w : World) (ha : ReqA w q vs vm vn) (ka : ReqA w q us um un') :
    Calls Tryz.prog 14 #[reqV q vs vm vn, reqV q us um un'] w fun e w' => e = .returned (.bool true) ∧ Gr w w' := by
  obtain ⟨hd, o, l, mt, no, am, an, si, un, rx, rk⟩ := q
  obtain ⟨hs, hm, hn⟩ := ha
  obtain ⟨ks, km, kn⟩ := ka
  simp only at hs hm hn ks km kn
  obtain ⟨A1, a1, rfl, _, _, _⟩ := id hs.open
  obtain ⟨A2, a2, rfl, _, _, _⟩ := id hm.open
  obtain ⟨A3, a3, rfl, _, _, _⟩ := id hn.open
  obtain ⟨B1, b1, rfl, _, _, _⟩ := id ks.open
  obtain ⟨B2, b2, rfl, _, _, _⟩ := id km.open
  obtain ⟨B3, b3, rfl, _, _, _⟩ := id kn.open
  have HSS := Lib.hid (fun (x : World) (g : Gr w x) => refSpecSame_eq l _ _ x (hs.gr g) (ks.gr g))
  have HCS := Lib.hid (fun (x : World) (g : Gr w x) => show Calls Tryz.prog 49 #[.agg #[.slice A2 mt.length a2, .slice A3 no.length a3, .bool am, .bool an, .int .i64 si, .int .i64 un, str rx, .bool rk], .agg #[.slice B2 mt.length b2, .slice B3 no.length b3, .bool am, .bool an, .int .i64 si, .int .i64 un, str rx, .bool rk]] x _ from refCondSame_eq ⟨mt, no, am, an, si, un, (rx, rk)⟩ _ _ _ _ x (hm.gr g) (hn.gr g) (km.gr g) (kn.gr g))
  clear hs hm hn ks km kn
  have hbr := Bk.new w 31 #[.bool hd, str o, .slice A1 l.length a1, .slice A2 mt.length a2, .slice A3 no.length a3, .bool am, .bool an, .int .i64 si, .int .i64 un, str rx, .bool rk] (0, 0)
  have hG1 := Gr.al (Gr.refl w) (Obj.cells #[.bool hd, str o, .slice A1 l.length a1, .slice A2 mt.length a2, .slice A3 no.length a3, .bool am, .bool an, .int .i64 si, .int .i64 un, str rx, .bool rk] 31)
  unfold reqV
  simp only
  go_enter Tryz.func14, Tryz.ntmps14
  go_upto_region 1 with fail
  have hz : (w.alloc (Obj.cells #[.bool hd, str o, .slice A1 l.length a1, .slice A2 mt.length a2, .slice A3 no.length a3, .bool am, .bool an, .int .i64 si, .int .i64 un, str rx, .bool rk] 31)).heap.size = w.heap.size + 1 := by simp only [World.alloc, Array.size_push]
  generalize w.alloc (Obj.cells #[.bool hd, str o, .slice A1 l.length a1, .slice A2 mt.length a2, .slice A3 no.length a3, .bool am, .bool an, .int .i64 si, .int .i64 un, str rx, .bool rk] 31) = w1 at *
  generalize w.heap.size = g at *
  have hbt := Bk.new w1 31 #[.bool hd, str o, .slice B1 l.length b1, .slice B2 mt.length b2, .slice B3 no.length b3, .bool am, .bool an, .int .i64 si, .int .i64 un, str rx, .bool rk] (0, 0)
  have hG2 := Gr.al (Gr.refl w1) (Obj.cells #[.bool hd, str o, .slice B1 l.length b1, .slice B2 mt.length b2, .slice B3 no.length b3, .bool am, .bool an, .int .i64 si, .int .i64 un, str rx, .bool rk] 31)
  generalize w1.alloc (Obj.cells #[.bool hd, str o, .slice B1 l.length b1, .slice B2 mt.length b2, .slice B3 no.length b3, .bool am, .bool an, .int .i64 si, .int .i64 un, str rx, .bool rk] 31) = w0 at *
  simp only [hz] at hbt
  clear hz
  have hbr := hbr.gr hG2
  have r0 : ∀ x, Gr w0 x → x.cell? ⟨g, 0, none⟩ = some (.bool hd) := fun x h => (hbr.gr h).cell 0
  have r1 : ∀ x, Gr w0 x → x.cell? ⟨g, 1, none⟩ = some (str o) := fun x h => (hbr.gr h).cell 1
  have r2 : ∀ x, Gr w0 x → x.cell? ⟨g, 2, none⟩ = some (.slice A1 l.length a1) := fun x h => (hbr.gr h).cell 2
  have r3 : ∀ x, Gr w0 x → x.cell? ⟨g, 3, none⟩ = some (.slice A2 mt.length a2) := fun x h => (hbr.gr h).cell 3
  have r4 : ∀ x, Gr w0 x → x.cell? ⟨g, 4, none⟩ = some (.slice A3 no.length a3) := fun x h => (hbr.gr h).cell 4
  have r5 : ∀ x, Gr w0 x → x.cell? ⟨g, 5, none⟩ = some (.bool am) := fun x h => (hbr.gr h).cell 5
  have r6 : ∀ x, Gr w0 x → x.cell? ⟨g, 6, none⟩ = some (.bool an) := fun x h => (hbr.gr h).cell 6
  have r7 : ∀ x, Gr w0 x → x.cell? ⟨g, 7, none⟩ = some (.int .i64 si) := fun x h => (hbr.gr h).cell 7
  have r8 : ∀ x, Gr w0 x → x.cell? ⟨g, 8, none⟩ = some (.int .i64 un) := fun x h => (hbr.gr h).cell 8
  have r9 : ∀ x, Gr w0 x → x.cell? ⟨g, 9, none⟩ = some (str rx) := fun x h => (hbr.gr h).cell 9
  have r10 : ∀ x, Gr w0 x → x.cell? ⟨g, 10, none⟩ = some (.bool rk) := fun x h => (hbr.gr h).cell 10
  have t0 : ∀ x, Gr w0 x → x.cell? ⟨g + 1, 0, none⟩ = some (.bool hd) := fun x h => (hbt.gr h).cell 0
  have t1 : ∀ x, Gr w0 x → x.cell? ⟨g + 1, 1, none⟩ = some (str o) := fun x h => (hbt.gr h).cell 1
  have t2 : ∀ x, Gr w0 x → x.cell? ⟨g + 1, 2, none⟩ = some (.slice B1 l.length b1) := fun x h => (hbt.gr h).cell 2
  have t3 : ∀ x, Gr w0 x → x.cell? ⟨g + 1, 3, none⟩ = some (.slice B2 mt.length b2) := fun x h => (hbt.gr h).cell 3
  have t4 : ∀ x, Gr w0 x → x.cell? ⟨g + 1, 4, none⟩ = some (.slice B3 no.length b3) := fun x h => (hbt.gr h).cell 4
  have t5 : ∀ x, Gr w0 x → x.cell? ⟨g + 1, 5, none⟩ = some (.bool am) := fun x h => (hbt.gr h).cell 5
  have t6 : ∀ x, Gr w0 x → x.cell? ⟨g + 1, 6, none⟩ = some (.bool an) := fun x h => (hbt.gr h).cell 6
  have t7 : ∀ x, Gr w0 x → x.cell? ⟨g + 1, 7, none⟩ = some (.int .i64 si) := fun x h => (hbt.gr h).cell 7
  have t8 : ∀ x, Gr w0 x → x.cell? ⟨g + 1, 8, none⟩ = some (.int .i64 un) := fun x h => (hbt.gr h).cell 8
  have t9 : ∀ x, Gr w0 x → x.cell? ⟨g + 1, 9, none⟩ = some (str rx) := fun x h => (hbt.gr h).cell 9
  have t10 : ∀ x, Gr w0 x → x.cell? ⟨g + 1, 10, none⟩ = some (.bool rk) := fun x h => (hbt.gr h).cell 10
  have h00 : Gr w0 w0 := Gr.refl w0
  have HG0 := Lib.hid (Gr.tr hG1 hG2)
  have s1 : (hd == hd) = true := by simp
  have s2 : (o == o) = true := by simp
  clear hbr hbt hG1 hG2
  go_wp2_with (first
    | (go_at_call 48; refine (HSS.out _ (Gr.tr HG0.out (by assumption))).mono ?_; rintro e wn ⟨rfl, hgn⟩)
    | (go_at_call 49; refine (HCS.out _ (Gr.tr HG0.out hgn)).mono ?_; rintro e wm ⟨rfl, hgm⟩; have hgnm := Gr.tr hgn hgm))
  go_ret
  exact ⟨by simp, Gr.tr HG0.out hgnm⟩
/-- is an answer more than is played? -/
def greatA (fs : List Fld) (ps : List PartT) (obj : List UInt8) : Bool := (decide (12 < ps.length) || (decide (120 < obj.length) || great2 fs)) || ps.any (fun p => decide (100 < p.1.length))
theorem greatA_no {fs : List Fld} {ps : List PartT} {obj : List UInt8} (h : greatA fs ps obj = false) : ps.length ≤ 12 ∧ obj.length ≤ 120 ∧ great2 fs = false ∧ ∀ p ∈ ps, p.1.length ≤ 100 := by
  unfold greatA at h
  simp only [Bool.or_eq_false_iff, decide_eq_false_iff_not, List.any_eq_false, decide_eq_true_eq] at h
  exact ⟨by omega, by omega, h.1.2.2, fun p hp => by have := h.2 p hp; omega⟩
set_option maxHeartbeats 8000000 in
set_option maxRecDepth 100000 in
theorem refGreat45_any (st sz : Int) (fs : List Fld) (ov : Value) (A1 A2 : Option Addr) (c1 c2 : Nat) (ps : List PartT) (obj : List UInt8) (w : World) (hf : Flds w (.slice A1 fs.length c1) fs) (hs : Short2 fs) (hu : Parts w (.slice A2 ps.length c2) ps) (ho : Byts w ov obj) (hlp : ∀ p ∈ ps, Low p.1) :
    Calls Tryz.prog 19 #[.agg #[.int .i64 st, .slice A1 fs.length c1, .slice A2 ps.length c2, .int .i64 sz], ov] w fun e w' => e = .returned (.bool (greatA fs ps obj)) ∧ Gr w w' := by
  obtain ⟨A3, c3, rfl, _, _, _⟩ := ho.open
  obtain ⟨A', c', hv, _, _, hA⟩ := hu.open
  simp only [Value.slice.injEq, true_and] at hv
  obtain ⟨rfl, rfl⟩ := hv
  have HA := Lib.hid hA
  have HLP := Lib.hid hlp
  have HGR := Lib.hid (fun (x : World) (g : Gr w x) => great2_any _ fs x (hf.gr g) hs)
  have hbr := Bk.new w 45 #[.int .i64 st, .slice A1 fs.length c1, .slice A2 ps.length c2, .int .i64 sz] (0, 0)
  have hG0 := Gr.al (Gr.refl w) (Obj.cells #[.int .i64 st, .slice A1 fs.length c1, .slice A2 ps.length c2, .int .i64 sz] 45)
  have HQ := Lib.hid (show greatA fs ps obj = ((decide (12 < ps.length) || (decide (120 < obj.length) || great2 fs)) || ps.any (fun p => decide (100 < p.1.length))) from rfl)
  generalize greatA fs ps obj = RB at *
  generalize great2 fs = gb at *
  clear hf hu ho hA hs hlp
  go_enter Tryz.func19, Tryz.ntmps19
  go_upto_region 1 with fail
  generalize w.alloc (Obj.cells #[.int .i64 st, .slice A1 fs.length c1, .slice A2 ps.length c2, .int .i64 sz] 45) = w0 at *
  generalize w.heap.size = g at *
  have r1 : ∀ x, Gr w0 x → x.cell? ⟨g, 1, none⟩ = some (.slice A1 fs.length c1) := fun x h => (hbr.gr h).cell 1
  have r2 : ∀ x, Gr w0 x → x.cell? ⟨g, 2, none⟩ = some (.slice A2 ps.length c2) := fun x h => (hbr.gr h).cell 2
  have h00 : Gr w0 w0 := Gr.refl w0
  have HG0 := Lib.hid hG0
  clear hbr hG0
  by_cases k0 : 12 < ps.length
  · have d0 : decide (12 < (ps.length : Int)) = true := decide_eq_true (by omega)
    have HX := Lib.hid (show RB = true from by rw [HQ.out, decide_eq_true k0]; rfl)
    go_wp2_with fail
    go_ret
    exact ⟨ret_bool HX.out.symm, HG0.out⟩
  have d0 : decide (12 < (ps.length : Int)) = false := decide_eq_false (by omega)
  by_cases k1 : 120 < obj.length
  · have d1 : decide (120 < (obj.length : Int)) = true := decide_eq_true (by omega)
    have HX := Lib.hid (show RB = true from by rw [HQ.out, decide_eq_true k1]; simp)
    go_wp2_with fail
    go_ret
    exact ⟨ret_bool HX.out.symm, HG0.out⟩
  have d1 : decide (120 < (obj.length : Int)) = false := decide_eq_false (by omega)
  cases k2 : gb with
  | true =>
    rw [k2] at HGR HQ
    have HX := Lib.hid (show RB = true from by rw [HQ.out]; simp)
    clear k2 HQ
    go_wp2_with (go_at_call 61; refine (HGR.out _ HG0.out).mono ?_; rintro e wn ⟨rfl, hgn⟩)
    go_ret
    exact ⟨ret_bool HX.out.symm, Gr.tr HG0.out hgn⟩
  | false =>
    rw [k2] at HGR HQ
    have HX := Lib.hid (show RB = ps.any (fun p => decide (100 < p.1.length)) from by rw [HQ.out, decide_eq_false k0, decide_eq_false k1]; rfl)
    clear k2 HQ
    go_upto_region 4 with (go_at_call 61; refine (HGR.out _ HG0.out).mono ?_; rintro e wn ⟨rfl, hgn⟩)
    clear HGR
    go_loopw [5] (fun i wr => ∃ k : Nat, k ≤ ps.length ∧ i = .int .i64 k ∧ Gr w0 wr ∧ (ps.take k).any (fun p => decide (100 < p.1.length)) = false) (fun i _ => ps.length - (intOf i).toNat)
    case atStart => exact ⟨0, Nat.zero_le _, rfl, hgn, rfl⟩
    case round =>
      obtain ⟨k, hk, rfl, hG, hE⟩ := hrel
      have HE := Lib.hid hE
      clear hE
      by_cases hlt : k < ps.length
      · obtain ⟨b5, o5, rfl, hb5, p5, p6, p7⟩ := HA.out k hlt
        have p5 := Gr.cell (Gr.tr HG0.out hG) p5
        have hlow := HLP.out _ (List.getElem_mem hlt)
        unfold Low at hlow
        clear p6 p7
        by_cases kz : 100 < ps[k].1.length
        · have dz : decide (100 < ((ps[k].1.length : Nat) : Int)) = true := decide_eq_true (by omega)
          have HX := Lib.hid (show RB = true from by rw [HX.out, List.any_eq_true]; exact ⟨ps[k], List.getElem_mem hlt, decide_eq_true kz⟩)
          clear kz
          go_wp2_with fail
          go_ret
          exact ⟨ret_bool HX.out.symm, Gr.tr HG0.out hG⟩
        · have dz : decide (100 < ((ps[k].1.length : Nat) : Int)) = false := decide_eq_false (by omega)
          have HS := Lib.hid (show (ps.take (k + 1)).any (fun p => decide (100 < p.1.length)) = false from by
            rw [List.take_succ_eq_append_getElem hlt, List.any_append, HE.out]; simp; omega)
          clear kz
          go_wp2_with fail
          exact ⟨⟨k + 1, by omega, by go_num, hG, HS.out⟩, by simp [intOf]; omega⟩
      · have hvk : ps.take k = ps := List.take_of_length_le (by omega)
        have HX := Lib.hid (show RB = false from by rw [HX.out]; have := HE.out; rwa [hvk] at this)
        clear hvk
        go_wp2_with fail
        go_ret
        exact ⟨ret_bool HX.out.symm, Gr.tr HG0.out hG⟩
end Go.Proofs.YtcfefflnebkjnaaGreatDoor
