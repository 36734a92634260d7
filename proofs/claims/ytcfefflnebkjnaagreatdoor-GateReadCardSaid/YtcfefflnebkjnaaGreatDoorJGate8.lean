/- Several texts in one (their own heads say what each is). No conditions but those that each theorem names. -/
import Derived.Test.YtcfefflnebkjnaaGreatDoorJGateO
import Derived.Test.YtcfefflnebkjnaaGreatDoorJCond
import Derived.Test.YtcfefflnebkjnaaGreatDoorJCond3
import Derived.Test.YtcfefflnebkjnaaGreatDoorJSpec
import Derived.Test.YtcfefflnebkjnaaGreatDoorJHead1
import Derived.Test.YtcfefflnebkjnaaGreatDoorJGate1
import Derived.Test.YtcfefflnebkjnaaGreatDoorJItems
import Derived.Test.YtcfefflnebkjnaaGreatDoorJWords
set_option linter.unusedVariables false
set_option linter.unusedSimpArgs false
/- XGate7 -/
namespace Go.Proofs.YtcfefflnebkjnaaGreatDoor
open Go.RowKit
set_option maxHeartbeats 8000000 in
set_option maxRecDepth 100000 in
theorem gateRight_any (q : ReqT) (vs vm vn : Value) (w : World) (ha : ReqA w q vs vm vn) (hl : ReqLow q) (h1 : q.2.2.2.mt.length ≤ 1000000) (h2 : q.2.2.2.no.length ≤ 1000000) :
    Calls Tryz.prog 51 #[reqV q vs vm vn] w fun e w' => e = .returned (.bool (reqB q)) ∧ Gr w w' := by
  obtain ⟨hd, o, l, mt, no, am, an, si, un, rx, rk⟩ := q
  obtain ⟨ho, hrg, hmt, hno⟩ := hl
  simp only at ho hrg hmt hno
  obtain ⟨hs, hm, hn⟩ := ha
  simp only at hs hm hn
  obtain ⟨A1, a1, rfl, _, _, hA⟩ := id hs.open
  obtain ⟨A2, a2, rfl, _, _, _⟩ := id hm.open
  obtain ⟨A3, a3, rfl, _, _, _⟩ := id hn.open
  simp only at h1 h2
  have HOB := Lib.hid (fun (x : World) => object_any o x (by omega))
  have HCR := Lib.hid (fun (x : World) (g : Gr w x) => show Calls Tryz.prog 107 #[.agg #[.slice A2 mt.length a2, .slice A3 no.length a3, .bool am, .bool an, .int .i64 si, .int .i64 un, str rx, .bool rk]] x _ from condRight_any ⟨mt, no, am, an, si, un, (rx, rk)⟩ _ _ x (hm.gr g) (hn.gr g) hmt hno h1 h2 hrg)
  have HSR := Lib.hid (fun (s : SpecT) (x : World) => show Calls Tryz.prog 108 #[.agg #[.int .i64 s.1, .int .i64 s.2]] x (fun e w' => e = .returned (.bool (specB s)) ∧ Gr x w') from specRight_any s.1 s.2 x)
  have HA := Lib.hid hA
  have hbr := Bk.new w 31 #[.bool hd, str o, .slice A1 l.length a1, .slice A2 mt.length a2, .slice A3 no.length a3, .bool am, .bool an, .int .i64 si, .int .i64 un, str rx, .bool rk] (0, 0)
  have hG0 := Gr.al (Gr.refl w) (Obj.cells #[.bool hd, str o, .slice A1 l.length a1, .slice A2 mt.length a2, .slice A3 no.length a3, .bool am, .bool an, .int .i64 si, .int .i64 un, str rx, .bool rk] 31)
  have HQ := Lib.hid (show reqB (hd, o, l, ⟨mt, no, am, an, si, un, (rx, rk)⟩) = (((objB o && decide (l.length ≤ 64)) && condB ⟨mt, no, am, an, si, un, (rx, rk)⟩) && l.all specB) from rfl)
  generalize reqB (hd, o, l, ⟨mt, no, am, an, si, un, (rx, rk)⟩) = RB at *
  generalize condB ⟨mt, no, am, an, si, un, (rx, rk)⟩ = cb at *
  clear hs hm hn hA hmt hno
  unfold reqV
  simp only
  go_enter Tryz.func51, Tryz.ntmps51
  go_upto_region 1 with fail
  generalize w.alloc (Obj.cells #[.bool hd, str o, .slice A1 l.length a1, .slice A2 mt.length a2, .slice A3 no.length a3, .bool am, .bool an, .int .i64 si, .int .i64 un, str rx, .bool rk] 31) = w0 at *
  generalize w.heap.size = g at *
  have r0 : ∀ x, Gr w0 x → x.cell? ⟨g, 0, none⟩ = some (.bool hd) := fun x h => (hbr.gr h).cell 0
  have r1 : ∀ x, Gr w0 x → x.cell? ⟨g, 1, none⟩ = some (str o) := fun x h => (hbr.gr h).cell 1
  have r2 : ∀ x, Gr w0 x → x.cell? ⟨g, 2, none⟩ = some (.slice A1 l.length a1) := fun x h => (hbr.gr h).cell 2
  have r3 : ∀ x, Gr w0 x → x.cell? ⟨g, 3, none⟩ = some (.slice A2 mt.length a2) := fun x h => (hbr.gr h).cell 3
  have r4 : ∀ x, Gr w0 x → x.cell? ⟨g, 4, none⟩ = some (.slice A3 no.length a3) := fun x h => (hbr.gr h).cell 4
  have r5 : ∀ x, Gr w0 x → x.cell? ⟨g, 5, none⟩ = some (.bool am) := fun x h => (hbr.gr h).cell 5
  have r6 : ∀ x, Gr w0 x → x.cell? ⟨g, 6, none⟩ = some (.bool an) := fun x h => (hbr.gr h).cell 6
  have r7 : ∀ x, Gr w0 x → x.cell? ⟨g, 7, none⟩ = some (.int .i64 si) := fun x h => (hbr.gr h).cell 7
  have r8 : ∀ x, Gr w0 x → x.cell? ⟨g, 8, none⟩ = some (.int .i64 un) := fun x h => (hbr.gr h).cell 8
  have r9 : ∀ x, Gr w0 x → x.cell? ⟨g, 9, none⟩ = some (str rx) := fun x h => (hbr.gr h).cell 9
  have r10 : ∀ x, Gr w0 x → x.cell? ⟨g, 10, none⟩ = some (.bool rk) := fun x h => (hbr.gr h).cell 10
  have h00 : Gr w0 w0 := Gr.refl w0
  have HG0 := Lib.hid hG0
  clear hbr hG0
  cases k0 : objB o with
  | false =>
    rw [k0] at HOB HQ
    have HX := Lib.hid (show RB = false from by rw [HQ.out]; rfl)
    clear k0 HQ HCR HSR
    go_wp2_with (go_at_call 106; refine (HOB.out _).mono ?_; rintro e wn ⟨rfl, hgn⟩)
    go_ret
    exact ⟨ret_bool HX.out.symm, Gr.tr HG0.out hgn⟩
  | true =>
    rw [k0] at HOB HQ
    by_cases k1 : l.length ≤ 64
    · have d1 : decide (64 < (l.length : Int)) = false := decide_eq_false (by omega)
      cases k2 : cb with
      | false =>
        rw [k2] at HCR HQ
        have HX := Lib.hid (show RB = false from by rw [HQ.out]; simp)
        clear k0 k1 k2 HQ HSR
        go_wp2_with (first | (go_at_call 106; refine (HOB.out _).mono ?_; rintro e wn ⟨rfl, hgn⟩) | (go_at_call 107; refine (HCR.out _ (Gr.tr HG0.out (by assumption))).mono ?_; rintro e wm ⟨rfl, hgm⟩))
        go_ret
        exact ⟨ret_bool HX.out.symm, Gr.tr HG0.out (Gr.tr hgn hgm)⟩
      | true =>
        rw [k2] at HCR HQ
        have HX := Lib.hid (show RB = l.all specB from by rw [HQ.out, decide_eq_true k1]; rfl)
        clear k0 k2 HQ
        go_upto_region 4 with (first | (go_at_call 106; refine (HOB.out _).mono ?_; rintro e wn ⟨rfl, hgn⟩) | (go_at_call 107; refine (HCR.out _ (Gr.tr HG0.out (by assumption))).mono ?_; rintro e wm ⟨rfl, hgm⟩; have hgnm := Gr.tr hgn hgm))
        have hG2 := hgnm
        clear HCR HOB hgn hgm
        go_loopw [4, 24] (fun x4 i wr => ∃ k : Nat, k ≤ l.length ∧ i = .int .i64 k ∧ Gr w0 wr ∧ (l.take k).all specB = true) (fun _ i _ => l.length - (intOf i).toNat)
        case atStart => exact ⟨0, Nat.zero_le _, rfl, hG2, rfl⟩
        case round =>
          obtain ⟨k, hk, rfl, hG, hE⟩ := hrel
          have HE := Lib.hid hE
          clear hE
          by_cases hlt : k < l.length
          · obtain ⟨b5, o5, rfl, hb5, p5, p6⟩ := HA.out k hlt
            have p5 := Gr.cell (Gr.tr HG0.out hG) p5
            have p6 := Gr.cell (Gr.tr HG0.out hG) p6
            have HT := Lib.hid (HSR.out l[k])
            go_upto_region 6 with fail
            cases hz : specB l[k] with
            | true =>
              rw [hz] at HT
              have HS := Lib.hid (all_take_succ _ l k hlt HE.out hz)
              have hGb := Gr.al (Gr.refl wr) (Obj.cells #[.int .i64 l[k].1, .int .i64 l[k].2] 74)
              have hbb := Bk.new wr 74 #[.int .i64 l[k].1, .int .i64 l[k].2] (0, 0)
              have hG := Gr.tr hG hGb
              generalize wr.alloc (Obj.cells #[.int .i64 l[k].1, .int .i64 l[k].2] 74) = wb at *
              obtain ⟨y0, y1⟩ := hbb.cells2
              clear hGb hbb
              go_wp2_with (go_at_call 108; refine (HT.out _).mono ?_; rintro e wn ⟨rfl, hgn⟩)
              exact ⟨⟨k + 1, by omega, by go_num, Gr.tr hG hgn, HS.out⟩, by simp [intOf]; omega⟩
            | false =>
              rw [hz] at HT
              have HX := Lib.hid (show RB = false from by rw [HX.out, List.all_eq_false]; exact ⟨l[k], List.getElem_mem hlt, by simp [hz]⟩)
              have hGb := Gr.al (Gr.refl wr) (Obj.cells #[.int .i64 l[k].1, .int .i64 l[k].2] 74)
              have hbb := Bk.new wr 74 #[.int .i64 l[k].1, .int .i64 l[k].2] (0, 0)
              have hG := Gr.tr hG hGb
              generalize wr.alloc (Obj.cells #[.int .i64 l[k].1, .int .i64 l[k].2] 74) = wb at *
              obtain ⟨y0, y1⟩ := hbb.cells2
              clear hGb hbb
              go_wp2_with (go_at_call 108; refine (HT.out _).mono ?_; rintro e wn ⟨rfl, hgn⟩)
              go_ret
              exact ⟨ret_bool HX.out.symm, Gr.tr HG0.out (Gr.tr hG hgn)⟩
          · have hvk : l.take k = l := List.take_of_length_le (by omega)
            have HX := Lib.hid (show RB = true from by rw [HX.out]; have := HE.out; rwa [hvk] at this)
            clear hvk
            go_wp2_with fail
            go_ret
            exact ⟨ret_bool HX.out.symm, Gr.tr HG0.out hG⟩
    · have d1 : decide (64 < (l.length : Int)) = true := decide_eq_true (by omega)
      have HX := Lib.hid (show RB = false from by rw [HQ.out, decide_eq_false k1]; simp)
      clear k0 k1 HQ HCR HSR
      go_wp2_with (go_at_call 106; refine (HOB.out _).mono ?_; rintro e wn ⟨rfl, hgn⟩)
      go_ret
      exact ⟨ret_bool HX.out.symm, Gr.tr HG0.out hgn⟩
set_option maxHeartbeats 8000000 in
set_option maxRecDepth 100000 in
theorem refSame45_eq (q : ReqT) (vs vm vn us um un' : Value) (w : World) (ha : ReqA w q vs vm vn) (ka : ReqA w q us um un') :
    Calls Tryz.prog 14 #[reqV q vs vm vn, reqV q us um un'] w fun e w' => e = .returned (.bool true) ∧ Gr w w' := by
  obtain ⟨hd, o, l, mt, no, am, an, si, un, rx, rk⟩ := q
  obtain ⟨hs, hm, hn⟩ := ha
  obtain ⟨ks, km, kn⟩ := ka
  simp only at hs hm hn ks km kn
  obtain ⟨A1, a1, rfl, _, _, _⟩ := id hs.open
  obtain ⟨A2, a2, rfl, _, _, _⟩ := id hm.open
  obtain ⟨A3, a3, rfl, _, _, _⟩ := id hn.open
  obtain ⟨B1, b1, rfl, _, _, _⟩ := id ks.open
  obtain ⟨B2, b2, rfl, _, _, _⟩ := id km.open
  obtain ⟨B3, b3, rfl, _, _, _⟩ := id kn.open
  have HSS := Lib.hid (fun (x : World) (g : Gr w x) => refSpecSame_eq l _ _ x (hs.gr g) (ks.gr g))
  have HCS := Lib.hid (fun (x : World) (g : Gr w x) => show Calls Tryz.prog 49 #[.agg #[.slice A2 mt.length a2, .slice A3 no.length a3, .bool am, .bool an, .int .i64 si, .int .i64 un, str rx, .bool rk], .agg #[.slice B2 mt.length b2, .slice B3 no.length b3, .bool am, .bool an, .int .i64 si, .int .i64 un, str rx, .bool rk]] x _ from refCondSame_eq ⟨mt, no, am, an, si, un, (rx, rk)⟩ _ _ _ _ x (hm.gr g) (hn.gr g) (km.gr g) (kn.gr g))
  clear hs hm hn ks km kn
  have hbr := Bk.new w 31 #[.bool hd, str o, .slice A1 l.length a1, .slice A2 mt.length a2, .slice A3 no.length a3, .bool am, .bool an, .int .i64 si, .int .i64 un, str rx, .bool rk] (0, 0)
  have hG1 := Gr.al (Gr.refl w) (Obj.cells #[.bool hd, str o, .slice A1 l.length a1, .slice A2 mt.length a2, .slice A3 no.length a3, .bool am, .bool an, .int .i64 si, .int .i64 un, str rx, .bool rk] 31)
  unfold reqV
  simp only
  go_enter Tryz.func14, Tryz.ntmps14
  go_upto_region 1 with fail
  have hz : (w.alloc (Obj.cells #[.bool hd, str o, .slice A1 l.length a1, .slice A2 mt.length a2, .slice A3 no.length a3, .bool am, .bool an, .int .i64 si, .int .i64 un, str rx, .bool rk] 31)).heap.size = w.heap.size + 1 := by simp only [World.alloc, Array.size_push]
  generalize w.alloc (Obj.cells #[.bool hd, str o, .slice A1 l.length a1, .slice A2 mt.length a2, .slice A3 no.length a3, .bool am, .bool an, .int .i64 si, .int .i64 un, str rx, .bool rk] 31) = w1 at *
  generalize w.heap.size = g at *
  have hbt := Bk.new w1 31 #[.bool hd, str o, .slice B1 l.length b1, .slice B2 mt.length b2, .slice B3 no.length b3, .bool am, .bool an, .int .i64 si, .int .i64 un, str rx, .bool rk] (0, 0)
  have hG2 := Gr.al (Gr.refl w1) (Obj.cells #[.bool hd, str o, .slice B1 l.length b1, .slice B2 mt.length b2, .slice B3 no.length b3, .bool am, .bool an, .int .i64 si, .int .i64 un, str rx, .bool rk] 31)
  generalize w1.alloc (Obj.cells #[.bool hd, str o, .slice B1 l.length b1, .slice B2 mt.length b2, .slice B3 no.length b3, .bool am, .bool an, .int .i64 si, .int .i64 un, str rx, .bool rk] 31) = w0 at *
  simp only [hz] at hbt
  clear hz
  have hbr := hbr.gr hG2
  have r0 : ∀ x, Gr w0 x → x.cell? ⟨g, 0, none⟩ = some (.bool hd) := fun x h => (hbr.gr h).cell 0
  have r1 : ∀ x, Gr w0 x → x.cell? ⟨g, 1, none⟩ = some (str o) := fun x h => (hbr.gr h).cell 1
  have r2 : ∀ x, Gr w0 x → x.cell? ⟨g, 2, none⟩ = some (.slice A1 l.length a1) := fun x h => (hbr.gr h).cell 2
  have r3 : ∀ x, Gr w0 x → x.cell? ⟨g, 3, none⟩ = some (.slice A2 mt.length a2) := fun x h => (hbr.gr h).cell 3
  have r4 : ∀ x, Gr w0 x → x.cell? ⟨g, 4, none⟩ = some (.slice A3 no.length a3) := fun x h => (hbr.gr h).cell 4
  have r5 : ∀ x, Gr w0 x → x.cell? ⟨g, 5, none⟩ = some (.bool am) := fun x h => (hbr.gr h).cell 5
  have r6 : ∀ x, Gr w0 x → x.cell? ⟨g, 6, none⟩ = some (.bool an) := fun x h => (hbr.gr h).cell 6
  have r7 : ∀ x, Gr w0 x → x.cell? ⟨g, 7, none⟩ = some (.int .i64 si) := fun x h => (hbr.gr h).cell 7
  have r8 : ∀ x, Gr w0 x → x.cell? ⟨g, 8, none⟩ = some (.int .i64 un) := fun x h => (hbr.gr h).cell 8
  have r9 : ∀ x, Gr w0 x → x.cell? ⟨g, 9, none⟩ = some (str rx) := fun x h => (hbr.gr h).cell 9
  have r10 : ∀ x, Gr w0 x → x.cell? ⟨g, 10, none⟩ = some (.bool rk) := fun x h => (hbr.gr h).cell 10
  have t0 : ∀ x, Gr w0 x → x.cell? ⟨g + 1, 0, none⟩ = some (.bool hd) := fun x h => (hbt.gr h).cell 0
  have t1 : ∀ x, Gr w0 x → x.cell? ⟨g + 1, 1, none⟩ = some (str o) := fun x h => (hbt.gr h).cell 1
  have t2 : ∀ x, Gr w0 x → x.cell? ⟨g + 1, 2, none⟩ = some (.slice B1 l.length b1) := fun x h => (hbt.gr h).cell 2
  have t3 : ∀ x, Gr w0 x → x.cell? ⟨g + 1, 3, none⟩ = some (.slice B2 mt.length b2) := fun x h => (hbt.gr h).cell 3
  have t4 : ∀ x, Gr w0 x → x.cell? ⟨g + 1, 4, none⟩ = some (.slice B3 no.length b3) := fun x h => (hbt.gr h).cell 4
  have t5 : ∀ x, Gr w0 x → x.cell? ⟨g + 1, 5, none⟩ = some (.bool am) := fun x h => (hbt.gr h).cell 5
  have t6 : ∀ x, Gr w0 x → x.cell? ⟨g + 1, 6, none⟩ = some (.bool an) := fun x h => (hbt.gr h).cell 6
  have t7 : ∀ x, Gr w0 x → x.cell? ⟨g + 1, 7, none⟩ = some (.int .i64 si) := fun x h => (hbt.gr h).cell 7
  have t8 : ∀ x, Gr w0 x → x.cell? ⟨g + 1, 8, none⟩ = some (.int .i64 un) := fun x h => (hbt.gr h).cell 8
  have t9 : ∀ x, Gr w0 x → x.cell? ⟨g + 1, 9, none⟩ = some (str rx) := fun x h => (hbt.gr h).cell 9
  have t10 : ∀ x, Gr w0 x → x.cell? ⟨g + 1, 10, none⟩ = some (.bool rk) := fun x h => (hbt.gr h).cell 10
  have h00 : Gr w0 w0 := Gr.refl w0
  have HG0 := Lib.hid (Gr.tr hG1 hG2)
  have s1 : (hd == hd) = true := by simp
  have s2 : (o == o) = true := by simp
  clear hbr hbt hG1 hG2
  go_wp2_with (first
    | (go_at_call 48; refine (HSS.out _ (Gr.tr HG0.out (by assumption))).mono ?_; rintro e wn ⟨rfl, hgn⟩)
    | (go_at_call 49; refine (HCS.out _ (Gr.tr HG0.out hgn)).mono ?_; rintro e wm ⟨rfl, hgm⟩; have hgnm := Gr.tr hgn hgm))
  go_ret
  exact ⟨by simp, Gr.tr HG0.out hgnm⟩
/-- is an answer more than is played? -/
def greatA (fs : List Fld) (ps : List PartT) (obj : List UInt8) : Bool := (decide (12 < ps.length) || (decide (120 < obj.length) || great2 fs)) || ps.any (fun p => decide (100 < p.1.length))
theorem greatA_no {fs : List Fld} {ps : List PartT} {obj : List UInt8} (h : greatA fs ps obj = false) : ps.length ≤ 12 ∧ obj.length ≤ 120 ∧ great2 fs = false ∧ ∀ p ∈ ps, p.1.length ≤ 100 := by
  unfold greatA at h
  simp only [Bool.or_eq_false_iff, decide_eq_false_iff_not, List.any_eq_false, decide_eq_true_eq] at h
  exact ⟨by omega, by omega, h.1.2.2, fun p hp => by have := h.2 p hp; omega⟩
set_option maxHeartbeats 8000000 in
set_option maxRecDepth 100000 in
theorem refGreat45_any (st sz : Int) (fs : List Fld) (ov : Value) (A1 A2 : Option Addr) (c1 c2 : Nat) (ps : List PartT) (obj : List UInt8) (w : World) (hf : Flds w (.slice A1 fs.length c1) fs) (hs : Short2 fs) (hu : Parts w (.slice A2 ps.length c2) ps) (ho : Byts w ov obj) (hlp : ∀ p ∈ ps, Low p.1) :
    Calls Tryz.prog 19 #[.agg #[.int .i64 st, .slice A1 fs.length c1, .slice A2 ps.length c2, .int .i64 sz], ov] w fun e w' => e = .returned (.bool (greatA fs ps obj)) ∧ Gr w w' := by
  obtain ⟨A3, c3, rfl, _, _, _⟩ := ho.open
  obtain ⟨A', c', hv, _, _, hA⟩ := hu.open
  simp only [Value.slice.injEq, true_and] at hv
  obtain ⟨rfl, rfl⟩ := hv
  have HA := Lib.hid hA
  have HLP := Lib.hid hlp
  have HGR := Lib.hid (fun (x : World) (g : Gr w x) => great2_any _ fs x (hf.gr g) hs)
  have hbr := Bk.new w 45 #[.int .i64 st, .slice A1 fs.length c1, .slice A2 ps.length c2, .int .i64 sz] (0, 0)
  have hG0 := Gr.al (Gr.refl w) (Obj.cells #[.int .i64 st, .slice A1 fs.length c1, .slice A2 ps.length c2, .int .i64 sz] 45)
  have HQ := Lib.hid (show greatA fs ps obj = ((decide (12 < ps.length) || (decide (120 < obj.length) || great2 fs)) || ps.any (fun p => decide (100 < p.1.length))) from rfl)
  generalize greatA fs ps obj = RB at *
  generalize great2 fs = gb at *
  clear hf hu ho hA hs hlp
  go_enter Tryz.func19, Tryz.ntmps19
  go_upto_region 1 with fail
  generalize w.alloc (Obj.cells #[.int .i64 st, .slice A1 fs.length c1, .slice A2 ps.length c2, .int .i64 sz] 45) = w0 at *
  generalize w.heap.size = g at *
  have r1 : ∀ x, Gr w0 x → x.cell? ⟨g, 1, none⟩ = some (.slice A1 fs.length c1) := fun x h => (hbr.gr h).cell 1
  have r2 : ∀ x, Gr w0 x → x.cell? ⟨g, 2, none⟩ = some (.slice A2 ps.length c2) := fun x h => (hbr.gr h).cell 2
  have h00 : Gr w0 w0 := Gr.refl w0
  have HG0 := Lib.hid hG0
  clear hbr hG0
  by_cases k0 : 12 < ps.length
  · have d0 : decide (12 < (ps.length : Int)) = true := decide_eq_true (by omega)
    have HX := Lib.hid (show RB = true from by rw [HQ.out, decide_eq_true k0]; rfl)
    go_wp2_with fail
    go_ret
    exact ⟨ret_bool HX.out.symm, HG0.out⟩
  have d0 : decide (12 < (ps.length : Int)) = false := decide_eq_false (by omega)
  by_cases k1 : 120 < obj.length
  · have d1 : decide (120 < (obj.length : Int)) = true := decide_eq_true (by omega)
    have HX := Lib.hid (show RB = true from by rw [HQ.out, decide_eq_true k1]; simp)
    go_wp2_with fail
    go_ret
    exact ⟨ret_bool HX.out.symm, HG0.out⟩
  have d1 : decide (120 < (obj.length : Int)) = false := decide_eq_false (by omega)
  cases k2 : gb with
  | true =>
    rw [k2] at HGR HQ
    have HX := Lib.hid (show RB = true from by rw [HQ.out]; simp)
    clear k2 HQ
    go_wp2_with (go_at_call 61; refine (HGR.out _ HG0.out).mono ?_; rintro e wn ⟨rfl, hgn⟩)
    go_ret
    exact ⟨ret_bool HX.out.symm, Gr.tr HG0.out hgn⟩
  | false =>
    rw [k2] at HGR HQ
    have HX := Lib.hid (show RB = ps.any (fun p => decide (100 < p.1.length)) from by rw [HQ.out, decide_eq_false k0, decide_eq_false k1]; rfl)
    clear k2 HQ
    go_upto_region 4 with (go_at_call 61; refine (HGR.out _ HG0.out).mono ?_; rintro e wn ⟨rfl, hgn⟩)
    clear HGR
    go_loopw [5] (fun i wr => ∃ k : Nat, k ≤ ps.length ∧ i = .int .i64 k ∧ Gr w0 wr ∧ (ps.take k).any (fun p => decide (100 < p.1.length)) = false) (fun i _ => ps.length - (intOf i).toNat)
    case atStart => exact ⟨0, Nat.zero_le _, rfl, hgn, rfl⟩
    case round =>
      obtain ⟨k, hk, rfl, hG, hE⟩ := hrel
      have HE := Lib.hid hE
      clear hE
      by_cases hlt : k < ps.length
      · obtain ⟨b5, o5, rfl, hb5, p5, p6, p7⟩ := HA.out k hlt
        have p5 := Gr.cell (Gr.tr HG0.out hG) p5
        have hlow := HLP.out _ (List.getElem_mem hlt)
        unfold Low at hlow
        clear p6 p7
        by_cases kz : 100 < ps[k].1.length
        · have dz : decide (100 < ((ps[k].1.length : Nat) : Int)) = true := decide_eq_true (by omega)
          have HX := Lib.hid (show RB = true from by rw [HX.out, List.any_eq_true]; exact ⟨ps[k], List.getElem_mem hlt, decide_eq_true kz⟩)
          clear kz
          go_wp2_with fail
          go_ret
          exact ⟨ret_bool HX.out.symm, Gr.tr HG0.out hG⟩
        · have dz : decide (100 < ((ps[k].1.length : Nat) : Int)) = false := decide_eq_false (by omega)
          have HS := Lib.hid (show (ps.take (k + 1)).any (fun p => decide (100 < p.1.length)) = false from by
            rw [List.take_succ_eq_append_getElem hlt, List.any_append, HE.out]; simp; omega)
          clear kz
          go_wp2_with fail
          exact ⟨⟨k + 1, by omega, by go_num, hG, HS.out⟩, by simp [intOf]; omega⟩
      · have hvk : ps.take k = ps := List.take_of_length_le (by omega)
        have HX := Lib.hid (show RB = false from by rw [HX.out]; have := HE.out; rwa [hvk] at this)
        clear hvk
        go_wp2_with fail
        go_ret
        exact ⟨ret_bool HX.out.symm, Gr.tr HG0.out hG⟩
end Go.Proofs.YtcfefflnebkjnaaGreatDoor
/- XGate8 -/
namespace Go.Proofs.YtcfefflnebkjnaaGreatDoor
open Go.RowKit
set_option maxHeartbeats 16000000 in
set_option maxRecDepth 100000 in
theorem gatePut_any (q : ReqT) (vs vm vn : Value) (w : World) (hp : Pw w) (ha : ReqA w q vs vm vn) (hl : ReqLow q) (h1 : q.2.2.2.mt.length ≤ 1000000) (h2 : q.2.2.2.no.length ≤ 1000000) :
    Calls Tryz.prog 16 #[reqV q vs vm vn] w (PutM w (putQ q)) := by
  obtain ⟨hd, o, l, mt, no, am, an, si, un, rx, rk⟩ := q
  obtain ⟨ho, hrg, hmt, hno⟩ := id hl
  simp only at ho hrg hmt hno
  obtain ⟨hs, hm, hn⟩ := id ha
  simp only at hs hm hn h1 h2
  obtain ⟨A1, a1, rfl, _, _, _⟩ := id hs.open
  obtain ⟨A2, a2, rfl, _, _, _⟩ := id hm.open
  obtain ⟨A3, a3, rfl, _, _, _⟩ := id hn.open
  have HRB := Lib.hid (fun (x : World) (g : Gr w x) => show Calls Tryz.prog 51 #[.agg #[.bool hd, str o, .slice A1 l.length a1, .slice A2 mt.length a2, .slice A3 no.length a3, .bool am, .bool an, .int .i64 si, .int .i64 un, str rx, .bool rk]] x (fun e w' => e = .returned (.bool (reqB (hd, o, l, ⟨mt, no, am, an, si, un, (rx, rk)⟩))) ∧ Gr x w') from gateRight_any (hd, o, l, ⟨mt, no, am, an, si, un, (rx, rk)⟩) _ _ _ x (ha.gr g) hl h1 h2)
  have HTX0 := Lib.hid (fun (h : l.length ≤ 1000000) (x : World) (g : Gr w x) => specText_any (.slice A1 l.length a1) l x (hp.gr g) (hs.gr g) h)
  have HCF0 := Lib.hid (fun (hc : condB ⟨mt, no, am, an, si, un, (rx, rk)⟩ = true) (x : World) (g : Gr w x) => show Calls Tryz.prog 53 #[.agg #[.slice A2 mt.length a2, .slice A3 no.length a3, .bool am, .bool an, .int .i64 si, .int .i64 un, str rx, .bool rk]] x (FieldsEnd (condF ⟨mt, no, am, an, si, un, (rx, rk)⟩) x) from condFields_any ⟨mt, no, am, an, si, un, (rx, rk)⟩ _ _ x (hm.gr g) (hn.gr g) hmt hno h1 h2 hrg hc)
  have HPU := Lib.hid (fun (m : List UInt8) (L : List Fld) (A' : Option Addr) (c' : Nat) (x : World) (g : Gr w x) (h : Flds x (.slice A' L.length c') L) (hm : m.length ≤ 600) (hol : o.length ≤ 600) (hl : L.length ≤ 6) (hb : bulk2 L ≤ 9600) => show Calls Tryz.prog 54 #[.agg #[str m, str o, .int .i64 0, .slice A' L.length c']] x (PutM x (putH (m, o, 0, L))) from put12_w (m, o, 0, L) A' c' x (hp.gr g) h (fun f hf => by have := bulk2_short hb f hf; omega) hm hol (by show L.length ≤ 140; omega) (by show bulk2 L ≤ 12400; omega))
  have hbr := Bk.new w 31 #[.bool hd, str o, .slice A1 l.length a1, .slice A2 mt.length a2, .slice A3 no.length a3, .bool am, .bool an, .int .i64 si, .int .i64 un, str rx, .bool rk] (0, 0)
  have hG0 := Gr.al (Gr.refl w) (Obj.cells #[.bool hd, str o, .slice A1 l.length a1, .slice A2 mt.length a2, .slice A3 no.length a3, .bool am, .bool an, .int .i64 si, .int .i64 un, str rx, .bool rk] 31)
  have HB := Lib.hid (show reqB (hd, o, l, ⟨mt, no, am, an, si, un, (rx, rk)⟩) = false → putQ (hd, o, l, ⟨mt, no, am, an, si, un, (rx, rk)⟩) = ([], 1) from fun h => by unfold putQ; rw [h]; rfl)
  have HK := Lib.hid (show reqB (hd, o, l, ⟨mt, no, am, an, si, un, (rx, rk)⟩) = true → putQ (hd, o, l, ⟨mt, no, am, an, si, un, (rx, rk)⟩) = putH (if hd then headB else getB, o, 0, fldsS l ++ condF ⟨mt, no, am, an, si, un, (rx, rk)⟩) from fun h => by unfold putQ; rw [h]; rfl)
  have HSZ0 := Lib.hid (show reqB (hd, o, l, ⟨mt, no, am, an, si, un, (rx, rk)⟩) = true → (fldsS l ++ condF ⟨mt, no, am, an, si, un, (rx, rk)⟩).length ≤ 6 ∧ bulk2 (fldsS l ++ condF ⟨mt, no, am, an, si, un, (rx, rk)⟩) ≤ 9600 from fun h => reqF_size h)
  have HRI := Lib.hid (show reqB (hd, o, l, ⟨mt, no, am, an, si, un, (rx, rk)⟩) = true → objB o = true ∧ l.length ≤ 64 ∧ condB ⟨mt, no, am, an, si, un, (rx, rk)⟩ = true ∧ l.all specB = true from fun h => reqB_iff.1 h)
  generalize putQ (hd, o, l, ⟨mt, no, am, an, si, un, (rx, rk)⟩) = PQ at *
  generalize reqB (hd, o, l, ⟨mt, no, am, an, si, un, (rx, rk)⟩) = rb at *
  clear hs hm hn hmt hno ha hl
  unfold reqV
  simp only
  go_enter Tryz.func16, Tryz.ntmps16
  go_upto_region 1 with fail
  generalize w.alloc (Obj.cells #[.bool hd, str o, .slice A1 l.length a1, .slice A2 mt.length a2, .slice A3 no.length a3, .bool am, .bool an, .int .i64 si, .int .i64 un, str rx, .bool rk] 31) = w0 at *
  generalize w.heap.size = g at *
  have r0 : ∀ x, Gr w0 x → x.cell? ⟨g, 0, none⟩ = some (.bool hd) := fun x h => (hbr.gr h).cell 0
  have r1 : ∀ x, Gr w0 x → x.cell? ⟨g, 1, none⟩ = some (str o) := fun x h => (hbr.gr h).cell 1
  have r2 : ∀ x, Gr w0 x → x.cell? ⟨g, 2, none⟩ = some (.slice A1 l.length a1) := fun x h => (hbr.gr h).cell 2
  have r3 : ∀ x, Gr w0 x → x.cell? ⟨g, 3, none⟩ = some (.slice A2 mt.length a2) := fun x h => (hbr.gr h).cell 3
  have r4 : ∀ x, Gr w0 x → x.cell? ⟨g, 4, none⟩ = some (.slice A3 no.length a3) := fun x h => (hbr.gr h).cell 4
  have r5 : ∀ x, Gr w0 x → x.cell? ⟨g, 5, none⟩ = some (.bool am) := fun x h => (hbr.gr h).cell 5
  have r6 : ∀ x, Gr w0 x → x.cell? ⟨g, 6, none⟩ = some (.bool an) := fun x h => (hbr.gr h).cell 6
  have r7 : ∀ x, Gr w0 x → x.cell? ⟨g, 7, none⟩ = some (.int .i64 si) := fun x h => (hbr.gr h).cell 7
  have r8 : ∀ x, Gr w0 x → x.cell? ⟨g, 8, none⟩ = some (.int .i64 un) := fun x h => (hbr.gr h).cell 8
  have r9 : ∀ x, Gr w0 x → x.cell? ⟨g, 9, none⟩ = some (str rx) := fun x h => (hbr.gr h).cell 9
  have r10 : ∀ x, Gr w0 x → x.cell? ⟨g, 10, none⟩ = some (.bool rk) := fun x h => (hbr.gr h).cell 10
  have h00 : Gr w0 w0 := Gr.refl w0
  have HG0 := Lib.hid hG0
  clear hbr hG0
  cases rb with
  | false =>
    have HX := Lib.hid (HB.out rfl)
    clear HTX0 HCF0 HPU HB HK HSZ0 HRI
    go_wp2_with (go_at_call 51; refine (HRB.out _ HG0.out).mono ?_; rintro e wn ⟨rfl, hgn⟩)
    go_ret2
    rw [HX.out]
    exact ⟨none, 0, rfl, Gr.tr HG0.out hgn, .inr ⟨by decide, rfl, rfl, rfl⟩⟩
  | true =>
    have HX := Lib.hid (HK.out rfl)
    obtain ⟨q1, q2, q3, q4⟩ := HRI.out rfl
    have HCF := Lib.hid (HCF0.out q3)
    have HSZ := Lib.hid (HSZ0.out rfl)
    have HTX := Lib.hid (HTX0.out (by omega))
    clear HCF0 HSZ0 HTX0
    have HOL := Lib.hid (objB_all q1).2.1
    have HTG := Lib.hid (fun (h : l ≠ []) => specTxt_good q4 h (by omega))
    have HTL := Lib.hid (specTx_len q4 q2)
    generalize condF ⟨mt, no, am, an, si, un, (rx, rk)⟩ = CF at *
    clear HB HK HRI q1 q2 q3 q4 h1 h2
    go_upto_region 4 with (go_at_call 51; refine (HRB.out _ HG0.out).mono ?_; rintro e w1 ⟨rfl, hg1⟩)
    have hbh := Bk.new w1 53 #[(.string { data := #[71, 69, 84] } : Value), str o, .int .i64 0, .slice none 0 0] (0, 0)
    have hg2 := Gr.tr hg1 (Gr.al (Gr.refl w1) (Obj.cells #[(.string { data := #[71, 69, 84] } : Value), str o, .int .i64 0, .slice none 0 0] 53))
    have hgh : w0.heap.size ≤ w1.heap.size := hg1.size
    generalize w1.alloc (Obj.cells #[(.string { data := #[71, 69, 84] } : Value), str o, .int .i64 0, .slice none 0 0] 53) = w2 at *
    generalize w1.heap.size = gh at *
    have hlt := hbh.lt
    have HWH := Lib.hid (Nat.le_trans HG0.out.size hgh)
    clear hg1
    cases hd with
    | false =>
      go_upto_region 6 with fail
      have hG2 := hg2
      generalize hw23 : w2 = w3 at *
      clear hw23 hg2
      by_cases hn : l = []
      · have d0 : ¬ 0 < l.length := by simp [hn]
        have HB3 := Lib.hid (show w0.heap.size ≤ w3.heap.size from hG2.size)
        have HL0 := Lib.hid (show fldsS l = [] from by unfold fldsS; rw [if_pos hn])
        rw [HL0.out, List.nil_append] at HX HSZ
        clear hn HTX HTG HTL
        have c0 : w3.cell? ⟨gh, 0, none⟩ = some (.string { data := #[71, 69, 84] } : Value) := hbh.cell 0
        have c1 : w3.cell? ⟨gh, 1, none⟩ = some (str o) := hbh.cell 1
        have c2 : w3.cell? ⟨gh, 2, none⟩ = some (.int .i64 0) := hbh.cell 2
        have c3 : w3.cell? ⟨gh, 3, none⟩ = some (.slice none 0 0) := hbh.cell 3
        have z0 := hbh.free 0 (.inr (Nat.zero_le _))
        have z3 := hbh.free 3 (.inr (Nat.zero_le _))
        have HE0 := Lib.hid (show 0 + CF.length = CF.length from Nat.zero_add _)
        have HFL := Lib.hid (show ([] : List Value) ++ flat2 CF = flat2 CF from rfl)
        have HLH := Lib.hid (show gh < w3.heap.size from hlt)
        have hcl : CF.length ≤ 6 := by have := HSZ.out.1; (try simp only [List.length_append, List.length_cons, List.length_nil] at this); omega
        go_upto_region 14 with (go_at_call 53; refine (HCF.out _ (Gr.tr HG0.out hG2)).mono ?_; rintro e w10 ⟨A10, c10, rfl, hF10, hg10, hFr10⟩; have hbh10 := hbh.gr hg10; have hG10 := Gr.tr hG2 hg10; have HF10 := Lib.hid hF10; have HO10 := Lib.hid (show Own w3 w10 77 2 (.slice none 0 0) 0 _ from (Own.nil w3 _ 77 2)); clear hF10 hFr10)
        clear c0 c1 c2 c3 z0 z3 hbh hG2
        have c0 : w10.cell? ⟨gh, 0, none⟩ = some (.string { data := #[71, 69, 84] } : Value) := hbh10.cell 0
        have c1 : w10.cell? ⟨gh, 1, none⟩ = some (str o) := hbh10.cell 1
        have c2 : w10.cell? ⟨gh, 2, none⟩ = some (.int .i64 0) := hbh10.cell 2
        have c3 : w10.cell? ⟨gh, 3, none⟩ = some (.slice none 0 0) := hbh10.cell 3
        have z0 := hbh10.free 0 (.inr (Nat.zero_le _))
        have z3 := hbh10.free 3 (.inr (Nat.zero_le _))
        have HS10 := Lib.hid (show w3.heap.size ≤ w10.heap.size from hg10.size)
        have HB0 := Lib.hid (show w0.heap.size ≤ w3.heap.size from HB3.out)
        go_upto_region 15 with (at_builtin; refine wpList_appS (W0 := w3) (n := 0) (m := CF.length) (news := flat2 CF) elemFld8 rfl _ _ rfl rfl rfl HS10.out HO10.out HF10.out (flat2_len CF) (one_flat2 CF) (by omega) (by decide) ?_; intro v12 w12 hown12 happ12; have hG12 := happ12.gr hG10 (own_base45 HO10.out HB0.out); have hbh12 := hbh10.app happ12 (own_ne HO10.out HLH.out); rw [HE0.out, HFL.out] at hown12; obtain ⟨A12, c12, rfl⟩ := hown12.form; have HO12 := Lib.hid hown12; clear hown12 happ12; obtain ⟨c0, c1, c2, c3⟩ := hbh12.cells4; obtain ⟨z0, z1, z2, z3⟩ := hbh12.free4; clear z1 z2)
        have hbh13 := hbh12.set 3 (.slice A12 (CF).length c12)
        have hG13 := hG12.st (p := ⟨gh, 3, none⟩) hgh (.slice A12 (CF).length c12)
        have HO13 := Lib.hid (own_set45 (b := gh) HO12.out (own_ne HO12.out HLH.out) 3 (.slice A12 (CF).length c12))
        clear HO12 hG12 hbh12 hbh10 hG10 HO10 c0 c1 c2 c3 z0 z3
        generalize w12.setCell ⟨gh, 3, none⟩ (.slice A12 (CF).length c12) = w13 at *
        have hbh13 : Bk w13 gh 53 #[(.string { data := #[71, 69, 84] } : Value), str o, .int .i64 0, .slice A12 (CF).length c12] (0, 0) := by simpa using hbh13
        have HGW := Lib.hid (Gr.tr HG0.out hG13)
        have HPP := Lib.hid (HPU.out getB (CF) A12 c12 _ HGW.out (own_fld HO13.out rfl rfl) (by decide) (by have := HOL.out; omega) HSZ.out.1 HSZ.out.2)
        have HX := Lib.hid (show PQ = putH (getB, o, 0, CF) from HX.out)
        clear HPU HSZ HO13 HCF HF10 HRB
        generalize putH (getB, o, 0, CF) = R at *
        have c0 : w13.cell? ⟨gh, 0, none⟩ = some (.string { data := #[71, 69, 84] } : Value) := hbh13.cell 0
        have c1 : w13.cell? ⟨gh, 1, none⟩ = some (str o) := hbh13.cell 1
        have c2 : w13.cell? ⟨gh, 2, none⟩ = some (.int .i64 0) := hbh13.cell 2
        have c3 : w13.cell? ⟨gh, 3, none⟩ = some (.slice A12 (CF).length c12) := hbh13.cell 3
        have z0 := hbh13.free 0 (.inr (Nat.zero_le _))
        have z3 := hbh13.free 3 (.inr (Nat.zero_le _))
        go_wp2_with (go_at_call 54; refine HPP.out.mono ?_; rintro e w15 hp15; have HP15 := Lib.hid (hp15.base HGW.out); obtain ⟨A15, c15, rfl, _, _⟩ := hp15)
        go_ret2
        rw [HX.out]
        exact HP15.out
      · have d0 : 0 < l.length := List.length_pos_iff.2 hn
        have HL0 := Lib.hid (show fldsS l = [(rngN, specTx l)] from by unfold fldsS; rw [if_neg hn])
        have HTX := Lib.hid (fun (x : World) (g : Gr w x) => by have h := HTX.out x g; rw [HTG.out hn] at h; exact h)
        rw [HL0.out] at HX HSZ
        have htl := HTL.out
        clear hn HTG HTL HL0
        generalize specTx l = tx at *
        have c0 : w3.cell? ⟨gh, 0, none⟩ = some (.string { data := #[71, 69, 84] } : Value) := hbh.cell 0
        have c1 : w3.cell? ⟨gh, 1, none⟩ = some (str o) := hbh.cell 1
        have c2 : w3.cell? ⟨gh, 2, none⟩ = some (.int .i64 0) := hbh.cell 2
        have c3 : w3.cell? ⟨gh, 3, none⟩ = some (.slice none 0 0) := hbh.cell 3
        have z0 := hbh.free 0 (.inr (Nat.zero_le _))
        have z3 := hbh.free 3 (.inr (Nat.zero_le _))
        go_upto_region 10 with (go_at_call 52; refine (HTX.out _ (Gr.tr HG0.out hG2)).mono ?_; rintro e w4 ⟨rfl, hg4⟩)
        have hbh := hbh.gr hg4
        have hG4 := Gr.tr hG2 hg4
        have HB3 := Lib.hid (show w0.heap.size ≤ w4.heap.size from hG4.size)
        have hlt := Nat.lt_of_lt_of_le hlt hg4.size
        clear c0 c1 c2 c3 z0 z3
        have hbh5 := Bk.al hbh (Obj.cells #[(.string { data := #[82, 97, 110, 103, 101] } : Value), str tx] 77)
        have HS5 := Lib.hid (sl_lit w4 77 [(.string { data := #[82, 97, 110, 103, 101] } : Value), str tx] 1 (by decide))
        have hG5 := Gr.al hG4 (Obj.cells #[(.string { data := #[82, 97, 110, 103, 101] } : Value), str tx] 77)
        have c0 : w4.cell? ⟨gh, 0, none⟩ = some (.string { data := #[71, 69, 84] } : Value) := hbh.cell 0
        have c1 : w4.cell? ⟨gh, 1, none⟩ = some (str o) := hbh.cell 1
        have c2 : w4.cell? ⟨gh, 2, none⟩ = some (.int .i64 0) := hbh.cell 2
        have c3 : w4.cell? ⟨gh, 3, none⟩ = some (.slice none 0 0) := hbh.cell 3
        have z0 := hbh.free 0 (.inr (Nat.zero_le _))
        have z3 := hbh.free 3 (.inr (Nat.zero_le _))
        go_upto_region 11 with (at_builtin; refine wpList_appS (W0 := w4) (n := 0) (m := 1) (news := [(.string { data := #[82, 97, 110, 103, 101] } : Value), str tx]) elemFld8 rfl _ _ rfl rfl rfl (Gr.al (Gr.refl w4) _).size (Own.nil w4 _ 77 2) HS5.out rfl (one_fld8 rngN tx) (by omega) (by decide) ?_; intro v6 w6 hown6 happ6; rw [Nat.zero_add, List.nil_append] at hown6; obtain ⟨A6, c6, rfl⟩ := hown6.form; have hbh6 := hbh5.app happ6 (own_ne (Own.nil w4 w4 77 2) hlt); have HO6 := Lib.hid hown6; have hG6 := happ6.gr hG5 (Own.nil w0 _ 77 2); have hG46 := happ6.gr (Gr.al (Gr.refl w4) _) (Own.nil w4 _ 77 2); clear hown6 happ6; obtain ⟨c0, c1, c2, c3⟩ := hbh6.cells4; obtain ⟨z0, z1, z2, z3⟩ := hbh6.free4; clear z1 z2)
        have hbh7 := hbh6.set 3 (.slice A6 1 c6)
        have hG7 := hG6.st (p := ⟨gh, 3, none⟩) hgh (.slice A6 1 c6)
        have HO7 := Lib.hid (own_set45 (b := gh) HO6.out (own_ne HO6.out hlt) 3 (.slice A6 1 c6))
        have hlt7 : gh < w4.heap.size := hlt
        have HS4 := Lib.hid (show w4.heap.size ≤ (w6.setCell ⟨gh, 3, none⟩ (.slice A6 1 c6)).heap.size from Nat.le_trans hG46.size (by_st ((Gr.refl w6).by (some gh)) 3 _).size)
        clear HO6 hG6 hG46 hbh6 hbh5 hG5 HS5 c0 c1 c2 c3 z0 z3
        generalize w6.setCell ⟨gh, 3, none⟩ (.slice A6 1 c6) = w7 at *
        have hbh7 : Bk w7 gh 53 #[(.string { data := #[71, 69, 84] } : Value), str o, .int .i64 0, .slice A6 1 c6] (0, 0) := by simpa using hbh7
        have HE0 := Lib.hid (show 1 + CF.length = ((rngN, tx) :: CF).length from by rw [List.length_cons, Nat.add_comm])
        have HFL := Lib.hid (show [(.string { data := #[82, 97, 110, 103, 101] } : Value), str tx] ++ flat2 CF = flat2 ((rngN, tx) :: CF) from rfl)
        have c0 : w7.cell? ⟨gh, 0, none⟩ = some (.string { data := #[71, 69, 84] } : Value) := hbh7.cell 0
        have c1 : w7.cell? ⟨gh, 1, none⟩ = some (str o) := hbh7.cell 1
        have c2 : w7.cell? ⟨gh, 2, none⟩ = some (.int .i64 0) := hbh7.cell 2
        have c3 : w7.cell? ⟨gh, 3, none⟩ = some (.slice A6 1 c6) := hbh7.cell 3
        have z0 := hbh7.free 0 (.inr (Nat.zero_le _))
        have z3 := hbh7.free 3 (.inr (Nat.zero_le _))
        have HLH := Lib.hid (show gh < w4.heap.size from hlt7)
        have hcl : CF.length ≤ 6 := by have := HSZ.out.1; (try simp only [List.length_append, List.length_cons, List.length_nil] at this); omega
        go_upto_region 14 with (go_at_call 53; refine (HCF.out _ (Gr.tr HG0.out hG7)).mono ?_; rintro e w10 ⟨A10, c10, rfl, hF10, hg10, hFr10⟩; have hbh10 := hbh7.gr hg10; have hG10 := Gr.tr hG7 hg10; have HF10 := Lib.hid hF10; have HO10 := Lib.hid (show Own w4 w10 77 2 (.slice A6 1 c6) 1 _ from (HO7.out.gr hg10)); clear hF10 hFr10)
        clear c0 c1 c2 c3 z0 z3 hbh7 hG7
        have c0 : w10.cell? ⟨gh, 0, none⟩ = some (.string { data := #[71, 69, 84] } : Value) := hbh10.cell 0
        have c1 : w10.cell? ⟨gh, 1, none⟩ = some (str o) := hbh10.cell 1
        have c2 : w10.cell? ⟨gh, 2, none⟩ = some (.int .i64 0) := hbh10.cell 2
        have c3 : w10.cell? ⟨gh, 3, none⟩ = some (.slice A6 1 c6) := hbh10.cell 3
        have z0 := hbh10.free 0 (.inr (Nat.zero_le _))
        have z3 := hbh10.free 3 (.inr (Nat.zero_le _))
        have HS10 := Lib.hid (show w4.heap.size ≤ w10.heap.size from Nat.le_trans HS4.out hg10.size)
        have HB0 := Lib.hid (show w0.heap.size ≤ w4.heap.size from HB3.out)
        go_upto_region 15 with (at_builtin; refine wpList_appS (W0 := w4) (n := 1) (m := CF.length) (news := flat2 CF) elemFld8 rfl _ _ rfl rfl rfl HS10.out HO10.out HF10.out (flat2_len CF) (one_flat2 CF) (by omega) (by decide) ?_; intro v12 w12 hown12 happ12; have hG12 := happ12.gr hG10 (own_base45 HO10.out HB0.out); have hbh12 := hbh10.app happ12 (own_ne HO10.out HLH.out); rw [HE0.out, HFL.out] at hown12; obtain ⟨A12, c12, rfl⟩ := hown12.form; have HO12 := Lib.hid hown12; clear hown12 happ12; obtain ⟨c0, c1, c2, c3⟩ := hbh12.cells4; obtain ⟨z0, z1, z2, z3⟩ := hbh12.free4; clear z1 z2)
        have hbh13 := hbh12.set 3 (.slice A12 ((rngN, tx) :: CF).length c12)
        have hG13 := hG12.st (p := ⟨gh, 3, none⟩) hgh (.slice A12 ((rngN, tx) :: CF).length c12)
        have HO13 := Lib.hid (own_set45 (b := gh) HO12.out (own_ne HO12.out HLH.out) 3 (.slice A12 ((rngN, tx) :: CF).length c12))
        clear HO12 hG12 hbh12 hbh10 hG10 HO10 c0 c1 c2 c3 z0 z3
        generalize w12.setCell ⟨gh, 3, none⟩ (.slice A12 ((rngN, tx) :: CF).length c12) = w13 at *
        have hbh13 : Bk w13 gh 53 #[(.string { data := #[71, 69, 84] } : Value), str o, .int .i64 0, .slice A12 ((rngN, tx) :: CF).length c12] (0, 0) := by simpa using hbh13
        have HGW := Lib.hid (Gr.tr HG0.out hG13)
        have HPP := Lib.hid (HPU.out getB ((rngN, tx) :: CF) A12 c12 _ HGW.out (own_fld HO13.out rfl rfl) (by decide) (by have := HOL.out; omega) HSZ.out.1 HSZ.out.2)
        have HX := Lib.hid (show PQ = putH (getB, o, 0, (rngN, tx) :: CF) from HX.out)
        clear HPU HSZ HO13 HCF HF10 HRB
        generalize putH (getB, o, 0, (rngN, tx) :: CF) = R at *
        have c0 : w13.cell? ⟨gh, 0, none⟩ = some (.string { data := #[71, 69, 84] } : Value) := hbh13.cell 0
        have c1 : w13.cell? ⟨gh, 1, none⟩ = some (str o) := hbh13.cell 1
        have c2 : w13.cell? ⟨gh, 2, none⟩ = some (.int .i64 0) := hbh13.cell 2
        have c3 : w13.cell? ⟨gh, 3, none⟩ = some (.slice A12 ((rngN, tx) :: CF).length c12) := hbh13.cell 3
        have z0 := hbh13.free 0 (.inr (Nat.zero_le _))
        have z3 := hbh13.free 3 (.inr (Nat.zero_le _))
        go_wp2_with (go_at_call 54; refine HPP.out.mono ?_; rintro e w15 hp15; have HP15 := Lib.hid (hp15.base HGW.out); obtain ⟨A15, c15, rfl, _, _⟩ := hp15)
        go_ret2
        rw [HX.out]
        exact HP15.out
    | true =>
      have c0 : w2.cell? ⟨gh, 0, none⟩ = some (.string { data := #[71, 69, 84] } : Value) := hbh.cell 0
      have c1 : w2.cell? ⟨gh, 1, none⟩ = some (str o) := hbh.cell 1
      have c2 : w2.cell? ⟨gh, 2, none⟩ = some (.int .i64 0) := hbh.cell 2
      have c3 : w2.cell? ⟨gh, 3, none⟩ = some (.slice none 0 0) := hbh.cell 3
      have z0 := hbh.free 0 (.inr (Nat.zero_le _))
      have z3 := hbh.free 3 (.inr (Nat.zero_le _))
      go_upto_region 6 with fail
      have hbh := hbh.set 0 (.string { data := #[72, 69, 65, 68] } : Value)
      have hG2 := hg2.st (p := ⟨gh, 0, none⟩) hgh (.string { data := #[72, 69, 65, 68] } : Value)
      have hlt : gh < (w2.setCell ⟨gh, 0, none⟩ (.string { data := #[72, 69, 65, 68] } : Value)).heap.size := hbh.lt
      clear c0 c1 c2 c3 z0 z3 hg2
      generalize w2.setCell ⟨gh, 0, none⟩ (.string { data := #[72, 69, 65, 68] } : Value) = w3 at *
      have hbh : Bk w3 gh 53 #[(.string { data := #[72, 69, 65, 68] } : Value), str o, .int .i64 0, .slice none 0 0] (0, 0) := by simpa using hbh
      by_cases hn : l = []
      · have d0 : ¬ 0 < l.length := by simp [hn]
        have HB3 := Lib.hid (show w0.heap.size ≤ w3.heap.size from hG2.size)
        have HL0 := Lib.hid (show fldsS l = [] from by unfold fldsS; rw [if_pos hn])
        rw [HL0.out, List.nil_append] at HX HSZ
        clear hn HTX HTG HTL
        have c0 : w3.cell? ⟨gh, 0, none⟩ = some (.string { data := #[72, 69, 65, 68] } : Value) := hbh.cell 0
        have c1 : w3.cell? ⟨gh, 1, none⟩ = some (str o) := hbh.cell 1
        have c2 : w3.cell? ⟨gh, 2, none⟩ = some (.int .i64 0) := hbh.cell 2
        have c3 : w3.cell? ⟨gh, 3, none⟩ = some (.slice none 0 0) := hbh.cell 3
        have z0 := hbh.free 0 (.inr (Nat.zero_le _))
        have z3 := hbh.free 3 (.inr (Nat.zero_le _))
        have HE0 := Lib.hid (show 0 + CF.length = CF.length from Nat.zero_add _)
        have HFL := Lib.hid (show ([] : List Value) ++ flat2 CF = flat2 CF from rfl)
        have HLH := Lib.hid (show gh < w3.heap.size from hlt)
        have hcl : CF.length ≤ 6 := by have := HSZ.out.1; (try simp only [List.length_append, List.length_cons, List.length_nil] at this); omega
        go_upto_region 14 with (go_at_call 53; refine (HCF.out _ (Gr.tr HG0.out hG2)).mono ?_; rintro e w10 ⟨A10, c10, rfl, hF10, hg10, hFr10⟩; have hbh10 := hbh.gr hg10; have hG10 := Gr.tr hG2 hg10; have HF10 := Lib.hid hF10; have HO10 := Lib.hid (show Own w3 w10 77 2 (.slice none 0 0) 0 _ from (Own.nil w3 _ 77 2)); clear hF10 hFr10)
        clear c0 c1 c2 c3 z0 z3 hbh hG2
        have c0 : w10.cell? ⟨gh, 0, none⟩ = some (.string { data := #[72, 69, 65, 68] } : Value) := hbh10.cell 0
        have c1 : w10.cell? ⟨gh, 1, none⟩ = some (str o) := hbh10.cell 1
        have c2 : w10.cell? ⟨gh, 2, none⟩ = some (.int .i64 0) := hbh10.cell 2
        have c3 : w10.cell? ⟨gh, 3, none⟩ = some (.slice none 0 0) := hbh10.cell 3
        have z0 := hbh10.free 0 (.inr (Nat.zero_le _))
        have z3 := hbh10.free 3 (.inr (Nat.zero_le _))
        have HS10 := Lib.hid (show w3.heap.size ≤ w10.heap.size from hg10.size)
        have HB0 := Lib.hid (show w0.heap.size ≤ w3.heap.size from HB3.out)
        go_upto_region 15 with (at_builtin; refine wpList_appS (W0 := w3) (n := 0) (m := CF.length) (news := flat2 CF) elemFld8 rfl _ _ rfl rfl rfl HS10.out HO10.out HF10.out (flat2_len CF) (one_flat2 CF) (by omega) (by decide) ?_; intro v12 w12 hown12 happ12; have hG12 := happ12.gr hG10 (own_base45 HO10.out HB0.out); have hbh12 := hbh10.app happ12 (own_ne HO10.out HLH.out); rw [HE0.out, HFL.out] at hown12; obtain ⟨A12, c12, rfl⟩ := hown12.form; have HO12 := Lib.hid hown12; clear hown12 happ12; obtain ⟨c0, c1, c2, c3⟩ := hbh12.cells4; obtain ⟨z0, z1, z2, z3⟩ := hbh12.free4; clear z1 z2)
        have hbh13 := hbh12.set 3 (.slice A12 (CF).length c12)
        have hG13 := hG12.st (p := ⟨gh, 3, none⟩) hgh (.slice A12 (CF).length c12)
        have HO13 := Lib.hid (own_set45 (b := gh) HO12.out (own_ne HO12.out HLH.out) 3 (.slice A12 (CF).length c12))
        clear HO12 hG12 hbh12 hbh10 hG10 HO10 c0 c1 c2 c3 z0 z3
        generalize w12.setCell ⟨gh, 3, none⟩ (.slice A12 (CF).length c12) = w13 at *
        have hbh13 : Bk w13 gh 53 #[(.string { data := #[72, 69, 65, 68] } : Value), str o, .int .i64 0, .slice A12 (CF).length c12] (0, 0) := by simpa using hbh13
        have HGW := Lib.hid (Gr.tr HG0.out hG13)
        have HPP := Lib.hid (HPU.out headB (CF) A12 c12 _ HGW.out (own_fld HO13.out rfl rfl) (by decide) (by have := HOL.out; omega) HSZ.out.1 HSZ.out.2)
        have HX := Lib.hid (show PQ = putH (headB, o, 0, CF) from HX.out)
        clear HPU HSZ HO13 HCF HF10 HRB
        generalize putH (headB, o, 0, CF) = R at *
        have c0 : w13.cell? ⟨gh, 0, none⟩ = some (.string { data := #[72, 69, 65, 68] } : Value) := hbh13.cell 0
        have c1 : w13.cell? ⟨gh, 1, none⟩ = some (str o) := hbh13.cell 1
        have c2 : w13.cell? ⟨gh, 2, none⟩ = some (.int .i64 0) := hbh13.cell 2
        have c3 : w13.cell? ⟨gh, 3, none⟩ = some (.slice A12 (CF).length c12) := hbh13.cell 3
        have z0 := hbh13.free 0 (.inr (Nat.zero_le _))
        have z3 := hbh13.free 3 (.inr (Nat.zero_le _))
        go_wp2_with (go_at_call 54; refine HPP.out.mono ?_; rintro e w15 hp15; have HP15 := Lib.hid (hp15.base HGW.out); obtain ⟨A15, c15, rfl, _, _⟩ := hp15)
        go_ret2
        rw [HX.out]
        exact HP15.out
      · have d0 : 0 < l.length := List.length_pos_iff.2 hn
        have HL0 := Lib.hid (show fldsS l = [(rngN, specTx l)] from by unfold fldsS; rw [if_neg hn])
        have HTX := Lib.hid (fun (x : World) (g : Gr w x) => by have h := HTX.out x g; rw [HTG.out hn] at h; exact h)
        rw [HL0.out] at HX HSZ
        have htl := HTL.out
        clear hn HTG HTL HL0
        generalize specTx l = tx at *
        have c0 : w3.cell? ⟨gh, 0, none⟩ = some (.string { data := #[72, 69, 65, 68] } : Value) := hbh.cell 0
        have c1 : w3.cell? ⟨gh, 1, none⟩ = some (str o) := hbh.cell 1
        have c2 : w3.cell? ⟨gh, 2, none⟩ = some (.int .i64 0) := hbh.cell 2
        have c3 : w3.cell? ⟨gh, 3, none⟩ = some (.slice none 0 0) := hbh.cell 3
        have z0 := hbh.free 0 (.inr (Nat.zero_le _))
        have z3 := hbh.free 3 (.inr (Nat.zero_le _))
        go_upto_region 10 with (go_at_call 52; refine (HTX.out _ (Gr.tr HG0.out hG2)).mono ?_; rintro e w4 ⟨rfl, hg4⟩)
        have hbh := hbh.gr hg4
        have hG4 := Gr.tr hG2 hg4
        have HB3 := Lib.hid (show w0.heap.size ≤ w4.heap.size from hG4.size)
        have hlt := Nat.lt_of_lt_of_le hlt hg4.size
        clear c0 c1 c2 c3 z0 z3
        have hbh5 := Bk.al hbh (Obj.cells #[(.string { data := #[82, 97, 110, 103, 101] } : Value), str tx] 77)
        have HS5 := Lib.hid (sl_lit w4 77 [(.string { data := #[82, 97, 110, 103, 101] } : Value), str tx] 1 (by decide))
        have hG5 := Gr.al hG4 (Obj.cells #[(.string { data := #[82, 97, 110, 103, 101] } : Value), str tx] 77)
        have c0 : w4.cell? ⟨gh, 0, none⟩ = some (.string { data := #[72, 69, 65, 68] } : Value) := hbh.cell 0
        have c1 : w4.cell? ⟨gh, 1, none⟩ = some (str o) := hbh.cell 1
        have c2 : w4.cell? ⟨gh, 2, none⟩ = some (.int .i64 0) := hbh.cell 2
        have c3 : w4.cell? ⟨gh, 3, none⟩ = some (.slice none 0 0) := hbh.cell 3
        have z0 := hbh.free 0 (.inr (Nat.zero_le _))
        have z3 := hbh.free 3 (.inr (Nat.zero_le _))
        go_upto_region 11 with (at_builtin; refine wpList_appS (W0 := w4) (n := 0) (m := 1) (news := [(.string { data := #[82, 97, 110, 103, 101] } : Value), str tx]) elemFld8 rfl _ _ rfl rfl rfl (Gr.al (Gr.refl w4) _).size (Own.nil w4 _ 77 2) HS5.out rfl (one_fld8 rngN tx) (by omega) (by decide) ?_; intro v6 w6 hown6 happ6; rw [Nat.zero_add, List.nil_append] at hown6; obtain ⟨A6, c6, rfl⟩ := hown6.form; have hbh6 := hbh5.app happ6 (own_ne (Own.nil w4 w4 77 2) hlt); have HO6 := Lib.hid hown6; have hG6 := happ6.gr hG5 (Own.nil w0 _ 77 2); have hG46 := happ6.gr (Gr.al (Gr.refl w4) _) (Own.nil w4 _ 77 2); clear hown6 happ6; obtain ⟨c0, c1, c2, c3⟩ := hbh6.cells4; obtain ⟨z0, z1, z2, z3⟩ := hbh6.free4; clear z1 z2)
        have hbh7 := hbh6.set 3 (.slice A6 1 c6)
        have hG7 := hG6.st (p := ⟨gh, 3, none⟩) hgh (.slice A6 1 c6)
        have HO7 := Lib.hid (own_set45 (b := gh) HO6.out (own_ne HO6.out hlt) 3 (.slice A6 1 c6))
        have hlt7 : gh < w4.heap.size := hlt
        have HS4 := Lib.hid (show w4.heap.size ≤ (w6.setCell ⟨gh, 3, none⟩ (.slice A6 1 c6)).heap.size from Nat.le_trans hG46.size (by_st ((Gr.refl w6).by (some gh)) 3 _).size)
        clear HO6 hG6 hG46 hbh6 hbh5 hG5 HS5 c0 c1 c2 c3 z0 z3
        generalize w6.setCell ⟨gh, 3, none⟩ (.slice A6 1 c6) = w7 at *
        have hbh7 : Bk w7 gh 53 #[(.string { data := #[72, 69, 65, 68] } : Value), str o, .int .i64 0, .slice A6 1 c6] (0, 0) := by simpa using hbh7
        have HE0 := Lib.hid (show 1 + CF.length = ((rngN, tx) :: CF).length from by rw [List.length_cons, Nat.add_comm])
        have HFL := Lib.hid (show [(.string { data := #[82, 97, 110, 103, 101] } : Value), str tx] ++ flat2 CF = flat2 ((rngN, tx) :: CF) from rfl)
        have c0 : w7.cell? ⟨gh, 0, none⟩ = some (.string { data := #[72, 69, 65, 68] } : Value) := hbh7.cell 0
        have c1 : w7.cell? ⟨gh, 1, none⟩ = some (str o) := hbh7.cell 1
        have c2 : w7.cell? ⟨gh, 2, none⟩ = some (.int .i64 0) := hbh7.cell 2
        have c3 : w7.cell? ⟨gh, 3, none⟩ = some (.slice A6 1 c6) := hbh7.cell 3
        have z0 := hbh7.free 0 (.inr (Nat.zero_le _))
        have z3 := hbh7.free 3 (.inr (Nat.zero_le _))
        have HLH := Lib.hid (show gh < w4.heap.size from hlt7)
        have hcl : CF.length ≤ 6 := by have := HSZ.out.1; (try simp only [List.length_append, List.length_cons, List.length_nil] at this); omega
        go_upto_region 14 with (go_at_call 53; refine (HCF.out _ (Gr.tr HG0.out hG7)).mono ?_; rintro e w10 ⟨A10, c10, rfl, hF10, hg10, hFr10⟩; have hbh10 := hbh7.gr hg10; have hG10 := Gr.tr hG7 hg10; have HF10 := Lib.hid hF10; have HO10 := Lib.hid (show Own w4 w10 77 2 (.slice A6 1 c6) 1 _ from (HO7.out.gr hg10)); clear hF10 hFr10)
        clear c0 c1 c2 c3 z0 z3 hbh7 hG7
        have c0 : w10.cell? ⟨gh, 0, none⟩ = some (.string { data := #[72, 69, 65, 68] } : Value) := hbh10.cell 0
        have c1 : w10.cell? ⟨gh, 1, none⟩ = some (str o) := hbh10.cell 1
        have c2 : w10.cell? ⟨gh, 2, none⟩ = some (.int .i64 0) := hbh10.cell 2
        have c3 : w10.cell? ⟨gh, 3, none⟩ = some (.slice A6 1 c6) := hbh10.cell 3
        have z0 := hbh10.free 0 (.inr (Nat.zero_le _))
        have z3 := hbh10.free 3 (.inr (Nat.zero_le _))
        have HS10 := Lib.hid (show w4.heap.size ≤ w10.heap.size from Nat.le_trans HS4.out hg10.size)
        have HB0 := Lib.hid (show w0.heap.size ≤ w4.heap.size from HB3.out)
        go_upto_region 15 with (at_builtin; refine wpList_appS (W0 := w4) (n := 1) (m := CF.length) (news := flat2 CF) elemFld8 rfl _ _ rfl rfl rfl HS10.out HO10.out HF10.out (flat2_len CF) (one_flat2 CF) (by omega) (by decide) ?_; intro v12 w12 hown12 happ12; have hG12 := happ12.gr hG10 (own_base45 HO10.out HB0.out); have hbh12 := hbh10.app happ12 (own_ne HO10.out HLH.out); rw [HE0.out, HFL.out] at hown12; obtain ⟨A12, c12, rfl⟩ := hown12.form; have HO12 := Lib.hid hown12; clear hown12 happ12; obtain ⟨c0, c1, c2, c3⟩ := hbh12.cells4; obtain ⟨z0, z1, z2, z3⟩ := hbh12.free4; clear z1 z2)
        have hbh13 := hbh12.set 3 (.slice A12 ((rngN, tx) :: CF).length c12)
        have hG13 := hG12.st (p := ⟨gh, 3, none⟩) hgh (.slice A12 ((rngN, tx) :: CF).length c12)
        have HO13 := Lib.hid (own_set45 (b := gh) HO12.out (own_ne HO12.out HLH.out) 3 (.slice A12 ((rngN, tx) :: CF).length c12))
        clear HO12 hG12 hbh12 hbh10 hG10 HO10 c0 c1 c2 c3 z0 z3
        generalize w12.setCell ⟨gh, 3, none⟩ (.slice A12 ((rngN, tx) :: CF).length c12) = w13 at *
        have hbh13 : Bk w13 gh 53 #[(.string { data := #[72, 69, 65, 68] } : Value), str o, .int .i64 0, .slice A12 ((rngN, tx) :: CF).length c12] (0, 0) := by simpa using hbh13
        have HGW := Lib.hid (Gr.tr HG0.out hG13)
        have HPP := Lib.hid (HPU.out headB ((rngN, tx) :: CF) A12 c12 _ HGW.out (own_fld HO13.out rfl rfl) (by decide) (by have := HOL.out; omega) HSZ.out.1 HSZ.out.2)
        have HX := Lib.hid (show PQ = putH (headB, o, 0, (rngN, tx) :: CF) from HX.out)
        clear HPU HSZ HO13 HCF HF10 HRB
        generalize putH (headB, o, 0, (rngN, tx) :: CF) = R at *
        have c0 : w13.cell? ⟨gh, 0, none⟩ = some (.string { data := #[72, 69, 65, 68] } : Value) := hbh13.cell 0
        have c1 : w13.cell? ⟨gh, 1, none⟩ = some (str o) := hbh13.cell 1
        have c2 : w13.cell? ⟨gh, 2, none⟩ = some (.int .i64 0) := hbh13.cell 2
        have c3 : w13.cell? ⟨gh, 3, none⟩ = some (.slice A12 ((rngN, tx) :: CF).length c12) := hbh13.cell 3
        have z0 := hbh13.free 0 (.inr (Nat.zero_le _))
        have z3 := hbh13.free 3 (.inr (Nat.zero_le _))
        go_wp2_with (go_at_call 54; refine HPP.out.mono ?_; rintro e w15 hp15; have HP15 := Lib.hid (hp15.base HGW.out); obtain ⟨A15, c15, rfl, _, _⟩ := hp15)
        go_ret2
        rw [HX.out]
        exact HP15.out
end Go.Proofs.YtcfefflnebkjnaaGreatDoor
