/- Parts. No conditions but those that each theorem names. -/
import Derived.Test.YtflepnkpihfidaaGreatDoorJTopL
import Derived.Test.YtflepnkpihfidaaGreatDoorJTopD
import Derived.Test.YtflepnkpihfidaaGreatDoorJTopC
set_option linter.unusedVariables false
set_option linter.unusedSimpArgs false
namespace Go.Proofs.YtflepnkpihfidaaGreatDoor
/-- parts as they are made: a text's span is none -/
def Norm (l : List PartT) : Prop := ∀ p ∈ l, p.1 ≠ [] → p.2 = (0, 0)
structure PartsAll (obj : List UInt8) (seed : Int) (a : AnsT) : Prop where
  inn : PartsIn obj a.2.2.1
  norm : Norm a.2.2.1
  size : a.2.2.2 = ((fillL obj a.2.2.1).length : Int)
  fill : (fillL obj a.2.2.1).length ≤ 10000
  few : a.2.2.1.length ≤ 30
  many : 2 ≤ (spansP a.2.2.1).length → multiL (boundN seed) (fillL obj a.2.2.1) = .inr (piecesL obj.length obj (spansP a.2.2.1))
theorem partsL_in2 {obj : List UInt8} {tot : Int} {kind bnd : List UInt8} {l : List (Int × Int)} (h : ∀ s ∈ l, InS obj.length s) : ∀ (ah : List UInt8), PartsIn obj (partsB tot kind bnd l ah ++ [(endL bnd, 0, 0)]) ∧ Norm (partsB tot kind bnd l ah ++ [(endL bnd, 0, 0)]) := by
  induction l with
  | nil =>
    intro ah
    refine ⟨fun p hp h1 => ?_, fun p hp _ => ?_⟩
    · simp [partsB] at hp
      subst hp
      exact absurd h1 (endL_ne bnd)
    · simp [partsB] at hp
      subst hp; rfl
  | cons s l ih =>
    intro ah
    have ih := ih (fun x hx => h x (List.mem_cons_of_mem _ hx)) [13, 10]
    refine ⟨fun p hp h1 => ?_, fun p hp h1 => ?_⟩
    · simp only [partsB, List.cons_append, List.mem_cons] at hp
      rcases hp with rfl | rfl | hp
      · exact absurd h1 (ptext_ne tot kind bnd ah s)
      · have := h s (by simp)
        exact ⟨this.lo, this.lt, this.hi⟩
      · exact ih.1 p hp h1
    · simp only [partsB, List.cons_append, List.mem_cons] at hp
      rcases hp with rfl | rfl | hp
      · rfl
      · exact absurd rfl h1
      · exact ih.2 p hp h1
/-- whatever is asked, the parts come to as many bytes as the head says; of several spans, read again, it is these -/
theorem shape_parts {q : ReqT} {obj : List UInt8} {oc : Nat} {seed : Int} (hq : q.1 = false) (hl : q.2.2.1.length ≤ 10) (ho : obj.length ≤ 80) : PartsAll obj seed (shapeL q (mS obj.length) oc 8 seed) := by
  have hn : (0 : Int) ≤ obj.length := by omega
  have hnone : ∀ (st : Int) (F : List Fld), PartsAll obj seed (st, F, [], 0) := fun st F => ⟨(fun p hp => by cases hp), (fun p hp => by cases hp), rfl, (by simp [fillL]), (by simp), (fun h => by simp [spansP] at h)⟩
  have hone : ∀ (st : Int) (F : List Fld) (s : Int × Int), InS obj.length s → PartsAll obj seed (st, F, [([], s.1, s.2)], s.2 - s.1) := by
    intro st F s hs
    have h1 := hs.lo; have h2 := hs.lt; have h3 := hs.hi
    have hf : fillL obj [([], s.1, s.2)] = objL obj s := by simp [fillL]
    have hlen : (objL obj s).length = (s.2 - s.1).toNat := by unfold objL; rw [List.length_take, List.length_drop]; omega
    refine ⟨fun p hp _ => ?_, fun p hp h => ?_, ?_, ?_, (by simp), fun h => by simp [spansP] at h⟩
    · simp at hp; subst hp; exact ⟨h1, h2, h3⟩
    · simp at hp; subst hp; exact absurd rfl h
    · simp only; rw [hf, hlen]; omega
    · simp only; rw [hf, hlen]; omega
  unfold shapeL
  by_cases h3 : oc = 3
  · rw [if_pos h3]; exact hnone _ _
  rw [if_neg h3]
  by_cases h4 : oc = 4
  · rw [if_pos h4]; exact hnone _ _
  rw [if_neg h4]
  have hhv : (mS obj.length).hv = obj.length := rfl
  have hln : (mS obj.length).len = obj.length := rfl
  by_cases hc : oc = 1 ∧ q.1 = false ∧ q.2.2.1 ≠ [] ∧ costL q.2.2.1 (mS obj.length).hv 8 = false
  · rw [if_pos hc]
    unfold rangedL
    rw [hhv, hln]
    by_cases hr : resL q.2.2.1 obj.length = []
    · rw [if_pos hr]; exact hnone _ _
    · rw [if_neg hr]
      obtain ⟨f1, f2, f3⟩ := foldL_in (l := resL q.2.2.1 obj.length) resL_in
      have f3 := f3 hr
      have f2 : (foldL (resL q.2.2.1 obj.length)).length ≤ 10 := by have := resL_len q.2.2.1 obj.length; omega
      generalize foldL (resL q.2.2.1 obj.length) = sp at *
      have hmany : ∀ sp : List (Int × Int), (∀ s ∈ sp, InS obj.length s) → sp.length ≤ 10 → sp ≠ [] → ∀ F : List Fld, PartsAll obj seed (206, F, partsL obj.length kindO (boundN seed) sp, sizePs (partsL obj.length kindO (boundN seed) sp)) := by
        intro sp f1 f2 f3 F
        obtain ⟨hi, hno⟩ := partsL_in2 (tot := obj.length) (kind := kindO) (bnd := boundN seed) f1 []
        have hin : ∀ p ∈ partsL obj.length kindO (boundN seed) sp, p.1 = [] → 0 ≤ p.2.1 ∧ p.2.1 ≤ p.2.2 ∧ p.2.2 ≤ obj.length := partsL_in f1 []
        refine ⟨hi, hno, sizePs_fill hin, ?_, ?_, fun _ => ?_⟩
        · simp only
          rw [fill_parts]
          have := bodyL_len (tot := obj.length) (kind := kindO) (bnd := boundN seed) (obj := obj) sp []
          rw [boundN_len] at this
          have hk : kindO.length = 24 := rfl
          rw [hk] at this
          have h5 : sp.length * (obj.length + 21 + 24 + 200) ≤ 10 * (80 + 21 + 24 + 200) := Nat.mul_le_mul f2 (by omega)
          simp only [List.length_nil] at this
          omega
        · simp only
          unfold partsL; rw [List.length_append, partsB_len]; simp; omega
        · simp only
          rw [show spansP (partsL obj.length kindO (boundN seed) sp) = sp from spans_parts obj.length kindO (boundN seed) sp [], fill_parts]
          have hB : BodyOk obj.length kindO (boundN seed) obj sp := ⟨fun s hs => ⟨contB_in (f1 s hs) (by omega), (f1 s hs).hi⟩, kindO_ok.1, kindO_ok.2, boundN_ok seed⟩
          have hm := multiL_body [] hB f3
          rw [List.append_nil, if_pos rfl] at hm
          exact hm
      match sp, f1, f2, f3 with
      | [], _, _, f3 => exact absurd rfl f3
      | [s], f1, _, _ =>
        unfold partsOf
        simp only
        have hs := f1 s (by simp)
        have hszs : sizePs [([], s.1, s.2)] = s.2 - s.1 := by simp [sizePs, partLen]
        rw [hszs]
        exact hone _ _ s hs
      | s :: t :: r, f1, f2, f3 =>
        unfold partsOf
        simp only
        rw [hln]
        exact hmany (s :: t :: r) f1 f2 f3 _
  · rw [if_neg hc]
    unfold fullL
    rw [hln, hq]
    by_cases h0 : (obj.length : Int) = 0
    · rw [if_pos (.inr h0), h0]; exact hnone _ _
    · rw [if_neg (by rintro (h | h); cases h; exact h0 h), if_neg (by omega)]
      have := hone 200 (metaF (mS obj.length)) (0, (obj.length : Int)) ⟨Int.le_refl 0, (by simp only; omega), Int.le_refl _⟩
      simp only [Int.sub_zero] at this
      exact this
/-- what was told of parts, and what is left -/
structure ToldP (obj : List UInt8) (ps left : List PartT) (out : List UInt8) : Prop where
  bytes : fillL obj ps = out ++ fillL obj left
  inn : PartsIn obj left
  few : left.length ≤ ps.length
theorem ToldP.start {obj : List UInt8} {ps : List PartT} (h : PartsIn obj ps) : ToldP obj ps ps [] := ⟨rfl, h, Nat.le_refl _⟩
theorem ToldP.next {obj : List UInt8} {ps left left' : List PartT} {out : List UInt8} {S : List (Int × Int)} {most n : Int} {t : PartT} (h : ToldP obj ps left out) (hm : 1 ≤ most) (ho : obj.length ≤ 1000000) (hn : nextL left S most = some (t, left', n)) : ToldP obj ps left' (out ++ toldB obj t) ∧ ((out ++ toldB obj t).length : Int) = out.length + n ∧ (t.1 = [] → holdsL S t.2 = true ∧ 0 ≤ t.2.1 ∧ t.2.1 < t.2.2 ∧ t.2.2 ≤ obj.length) := by
  have hk := nextL_ok h.inn hm ho hn
  refine ⟨⟨?_, hk.left, Nat.le_trans hk.few h.few⟩, ?_, hk.span⟩
  · rw [h.bytes, hk.bytes, List.append_assoc]
  · have := hk.len
    rw [List.length_append]; omega
theorem ToldP.all {obj : List UInt8} {ps : List PartT} {out : List UInt8} (h : ToldP obj ps [] out) : out = fillL obj ps := by
  have := h.bytes
  rw [this]; simp [fillL]
theorem ToldP.len {obj : List UInt8} {ps left : List PartT} {out : List UInt8} (h : ToldP obj ps left out) : out.length ≤ (fillL obj ps).length := by
  rw [h.bytes, List.length_append]; omega
end Go.Proofs.YtflepnkpihfidaaGreatDoor
namespace Go.Proofs.YtflepnkpihfidaaGreatDoor
open Go.RowKit
theorem behind_step (S : List SpT) (a : Int) (l h : Nat) (hlt : l < h) : behindG S a (h - l) l h = if a < (S.getD (l + (h - l) / 2) (0, 0)).2 then behindG S a (l + (h - l) / 2 - l) l (l + (h - l) / 2) else behindG S a (h - (l + (h - l) / 2 + 1)) (l + (h - l) / 2 + 1) h := by
  obtain ⟨n, hn⟩ : ∃ n, h - l = n + 1 := ⟨h - l - 1, by omega⟩
  have e : behindG S a (h - l) l h = behindG S a (n + 1) l h := by rw [hn]
  rw [e, behindG, if_pos hlt]
  split
  · exact behindG_fuel S a _ _ _ _ (by omega) (by omega)
  · exact behindG_fuel S a _ _ _ _ (by omega) (by omega)
theorem behind_end (S : List SpT) (a : Int) (l : Nat) : behindG S a (l - l) l l = l := by rw [Nat.sub_self]; rfl
theorem getD_at (S : List SpT) (k : Nat) (h : k < S.length) : S.getD k (0, 0) = S[k] := by simp [List.getD, h]
set_option maxHeartbeats 8000000 in
set_option maxRecDepth 100000 in
theorem behind_any (v : Value) (S : List SpT) (a : Int) (w : World) (hu : Spans w v S) (hl : S.length ≤ 1000000) : Calls Tryz.prog 49 #[.agg #[v], .int .i64 a] w fun e w' => e = .returned (.int .i64 (behindL S a : Nat)) ∧ Gr w w' := by
  obtain ⟨A, c, rfl, hc, hm, hA⟩ := hu.open
  have HA := Lib.hid hA
  have HST := Lib.hid (behind_step S a)
  have HEN := Lib.hid (behind_end S a)
  have HBL := Lib.hid (show behindG S a (S.length - 0) 0 S.length = behindL S a from rfl)
  generalize behindL S a = BL at *
  have hb := Bk.new w 45 #[.slice A S.length c] (0, 0)
  have hG0 := Gr.al (Gr.refl w) (Obj.cells #[.slice A S.length c] 45)
  clear hA hu
  go_enter Tryz.func49, Tryz.ntmps49
  go_upto_region 1 with fail
  generalize w.alloc (Obj.cells #[.slice A S.length c] 45) = w0 at *
  generalize w.heap.size = g at *
  have HG0 := Lib.hid hG0
  have q0 : ∀ x, Gr w0 x → x.cell? ⟨g, 0, none⟩ = some (.slice A S.length c) := fun x h => (hb.gr h).cell 0
  have h00 := Gr.refl w0
  clear hb hG0
  go_quiet (fail)
  have hd := Gr.drN (Gr.refl w0) nq
  generalize w0.drewN nq = w1 at *
  go_wp2_with fail
  go_loopw [5, 6, 7] (fun lo hi x7 wr => ∃ l h : Nat, l ≤ h ∧ h ≤ S.length ∧ lo = .int .i64 l ∧ hi = .int .i64 h ∧ Gr w0 wr ∧ behindG S a (h - l) l h = BL) (fun lo hi _ _ => (intOf hi).toNat - (intOf lo).toNat)
  case atStart => exact ⟨0, S.length, Nat.zero_le _, Nat.le_refl _, rfl, rfl, hd, HBL.out⟩
  case round =>
    obtain ⟨l, h, hlh, hhS, rfl, rfl, hG, hB⟩ := hrel
    have HB := Lib.hid hB
    clear hB hd
    by_cases hlt : l < h
    · have hst := HST.out l h hlt
      rw [HB.out] at hst
      obtain ⟨m, hm2⟩ : ∃ m, m = l + (h - l) / 2 := ⟨_, rfl⟩
      have hml : l ≤ m ∧ m < h := by omega
      have em : (l : Int) + ((h : Int) - (l : Int)).tdiv 2 = (m : Int) := by rw [Int.tdiv_eq_ediv_of_nonneg (by omega)]; omega
      have em2 : IntKind.i64.wrap (((h : Int) - (l : Int)).tdiv 2) = ((h : Int) - (l : Int)).tdiv 2 := IntWalk.i64_in _ (by rw [Int.tdiv_eq_ediv_of_nonneg (by omega)]; omega)
      have em3 : IntKind.i64.wrap ((h : Int) - (l : Int)) = (h : Int) - (l : Int) := IntWalk.i64_in _ (by omega)
      have em4 : IntKind.i64.wrap (m : Int) = (m : Int) := IntWalk.i64_in _ (by omega)
      rw [← hm2] at hst
      have hmS : m < S.length := by omega
      obtain ⟨b1, o1, rfl, hb1, p0, p1⟩ := HA.out m hmS
      have p1 := Gr.cell (Gr.tr HG0.out hG) p1
      rw [getD_at S m hmS] at hst
      have HS2 := Lib.hid hst
      have q1 := q0 _ hG
      have hmi : (m : Int) < (S.length : Int) := by omega
      have hmi0 : (0 : Int) ≤ (m : Int) := by omega
      have hmneg : decide ((m : Int) < 0) = false := by simp
      clear hst hm2 p0 HA HST HEN HBL
      generalize S[m] = sm at *
      obtain ⟨sf, st⟩ := sm
      simp only at p1
      by_cases hat : a < st
      · have hst2 : behindG S a (m - l) l m = BL := by have := HS2.out; rw [if_pos hat] at this; exact this.symm
        have HN := Lib.hid hst2
        clear hst2 HS2
        go_wp2_with fail
        exact ⟨⟨l, m, by omega, by omega, rfl, rfl, hG, HN.out⟩, by simp [intOf]; omega⟩
      · have hst2 : behindG S a (h - (m + 1)) (m + 1) h = BL := by have := HS2.out; rw [if_neg hat] at this; exact this.symm
        have HN := Lib.hid hst2
        clear hst2 HS2
        go_wp2_with fail
        exact ⟨⟨m + 1, h, by omega, by omega, by go_num, rfl, hG, HN.out⟩, by simp [intOf]; omega⟩
    · obtain rfl : l = h := by omega
      have HL := Lib.hid (show l = BL from (HEN.out l).symm.trans HB.out)
      clear HA HST HEN HBL
      go_wp2_with fail
      go_ret
      exact ⟨by rw [HL.out]; rfl, Gr.tr HG0.out hG⟩
def firstV : Option SpT → Value
  | none => .tuple #[.agg #[.int .i64 0, .int .i64 0], .bool false]
  | some x => .tuple #[.agg #[.int .i64 x.1, .int .i64 x.2], .bool true]
set_option maxHeartbeats 8000000 in
set_option maxRecDepth 100000 in
theorem setFirst_any (v : Value) (S : List SpT) (a : Int) (w : World) (hu : Spans w v S) (hl : S.length ≤ 1000000) : Calls Tryz.prog 108 #[.agg #[v], .int .i64 a] w fun e w' => e = .returned (firstV (firstS S a)) ∧ Gr w w' := by
  have HB := Lib.hid (fun (x : World) (g : Gr w x) => behind_any v S a x (hu.gr g) hl)
  obtain ⟨hk, -⟩ := behindL_ok S a
  have HF := Lib.hid (show firstS S a = if behindL S a < S.length then some (max a (S.getD (behindL S a) (0, 0)).1, (S.getD (behindL S a) (0, 0)).2) else none from rfl)
  generalize firstS S a = FZ at *
  generalize behindL S a = BL at *
  obtain ⟨A, c, rfl, hc, hm, hA⟩ := hu.open
  have HA := Lib.hid hA
  obtain ⟨b0, b1, hG0⟩ := two_box w #[.slice A S.length c] #[.int .i64 0, .int .i64 0] 45 48
  clear hu hA
  go_enter Tryz.func108, Tryz.ntmps108
  go_upto_region 1 with fail
  refine at_world (P := Code.wp _ _ _ _) (w0 := (w.alloc (Obj.cells #[.slice A S.length c] 45)).alloc (Obj.cells #[.int .i64 0, .int .i64 0] 48)) ?_
  intro w0 hw0
  rw [← hw0] at b0 b1 hG0
  clear hw0
  generalize hgq : w.heap.size = g at *
  have HLO := Lib.hid (show w.heap.size ≤ g + 1 from by omega)
  have HG0 := Lib.hid hG0
  have HB1 := Lib.hid b1
  have q0 : w0.cell? ⟨g, 0, none⟩ = some (.slice A S.length c) := b0.cell 0
  clear b0 b1 hG0 hgq
  go_upto_region 2 with (go_at_call 49; refine (HB.out _ HG0.out).mono ?_; rintro e w1 ⟨rfl, h1⟩)
  have q1 := h1.cell q0
  have HG1 := Lib.hid (Gr.tr HG0.out h1)
  have hb1 := HB1.out.gr h1
  have HB2 := Lib.hid hb1
  have f0 := hb1.free 0 (.inr (Nat.zero_le _))
  have f1 := hb1.free 1 (.inr (Nat.zero_le _))
  obtain ⟨z0, z1⟩ := hb1.cells2
  clear q0 h1 hb1 HB1 HB
  by_cases hbl : BL < S.length
  case neg =>
    have k0 : ((BL : Int) == (S.length : Int)) = true := by rw [beq_iff_eq]; omega
    have HE := Lib.hid (show FZ = none from by rw [HF.out, if_neg hbl])
    clear hbl HF
    go_wp2_with fail
    refine at_world (P := bodyPost _ _ _ _ _) (w0 := putCs w1 (g + 1) [.int .i64 0, .int .i64 0] 0) ?_
    intro wy hwy
    have hy : Bk wy (g + 1) 48 #[.int .i64 0, .int .i64 0] (0, 0) := by rw [hwy]; exact putCs_bk HB2.out rfl
    obtain ⟨y0, y1⟩ := hy.cells2
    refine bodyPost_ret (v := .tuple #[.agg #[.int .i64 0, .int .i64 0], .bool false]) (by simp [results, Tryz.results108, go_sem, y0, y1]) rfl ⟨by rw [HE.out]; rfl, ?_⟩
    rw [hwy]; exact putCs_gr HLO.out _ _ _ HG1.out
  case pos =>
    obtain ⟨b5, o5, rfl, hb5, p0, p1⟩ := HA.out BL hbl
    have p0 := Gr.cell HG1.out p0
    have p1 := Gr.cell HG1.out p1
    have k0 : ((BL : Int) == (S.length : Int)) = false := by rw [beq_eq_false_iff_ne]; omega
    have hi1 : (0 : Int) ≤ (BL : Int) := by omega
    have hi2 : (BL : Int) < (S.length : Int) := by omega
    have HE := Lib.hid (show FZ = some (max a S[BL].1, S[BL].2) from by rw [HF.out, if_pos hbl, getD_at S BL hbl])
    generalize S[BL] = sb at *
    obtain ⟨sf, st⟩ := sb
    simp only at p0 p1 HE
    clear HF HA
    go_upto_region 4 with fail
    go_region
    refine at_world (P := Exit.then _ _ _ _) (w0 := (putCs w1 (g + 1) [.int .i64 (max a sf), .int .i64 st] 0).drew) ?_
    intro wy hwy
    have hy : Bk wy (g + 1) 48 #[.int .i64 (max a sf), .int .i64 st] (0, 0) := by rw [hwy]; exact (show Bk (putCs w1 (g + 1) [.int .i64 (max a sf), .int .i64 st] 0) (g + 1) 48 #[.int .i64 (max a sf), .int .i64 st] (0, 0) from putCs_bk HB2.out rfl).gr (Gr.dr (Gr.refl _))
    obtain ⟨y0, y1⟩ := hy.cells2
    have HGY := Lib.hid (show Gr w wy from by rw [hwy]; exact (putCs_gr HLO.out _ _ _ HG1.out).dr)
    clear hwy
    go_wp2_with fail
    refine bodyPost_ret (v := .tuple #[.agg #[.int .i64 (max a sf), .int .i64 st], .bool true]) (by simp [results, Tryz.results108, go_sem, y0, y1]) rfl ⟨by rw [HE.out]; rfl, HGY.out⟩
set_option maxHeartbeats 8000000 in
set_option maxRecDepth 100000 in
theorem setHolds_yes (v : Value) (S : List SpT) (f t : Int) (w : World) (hu : Spans w v S) (hl : S.length ≤ 1000000) (hh : holdsL S (f, t) = true) (hft : f < t) : Calls Tryz.prog 15 #[.agg #[v], .agg #[.int .i64 f, .int .i64 t]] w fun e w' => e = .returned (.bool true) ∧ Gr w w' := by
  have HB := Lib.hid (fun (x : World) (g : Gr w x) => behind_any v S f x (hu.gr g) hl)
  unfold holdsL at hh
  simp only [Bool.and_eq_true, Bool.or_eq_true, decide_eq_true_eq] at hh
  obtain ⟨hsp, hh⟩ := hh
  have hh := hh.resolve_left (by omega)
  obtain ⟨hbl, hf, ht⟩ := hh
  generalize behindL S f = BL at *
  rw [getD_at S BL hbl] at hf ht
  have HR := Lib.hid (fun (x : World) => spanRight_any f t x)
  rw [hsp] at HR
  obtain ⟨A, c, rfl, hc, hm, hA⟩ := hu.open
  obtain ⟨b5, o5, rfl, hb5, p0, p1⟩ := hA BL hbl
  obtain ⟨b0, b1, hG0⟩ := two_box w #[.slice (some ⟨b5, o5, none⟩) S.length c] #[.int .i64 f, .int .i64 t] 45 48
  generalize S[BL] = sb at *
  obtain ⟨sf, st⟩ := sb
  simp only at p0 p1 hf ht
  have P0 := Lib.hid p0
  have P1 := Lib.hid p1
  have k0 : (f == t) = false := by rw [beq_eq_false_iff_ne]; omega
  have k1 : decide ((BL : Int) < (S.length : Int)) = true := decide_eq_true (by omega)
  have k2 : decide (sf ≤ f) = true := decide_eq_true hf
  have k3 : decide (t ≤ st) = true := decide_eq_true ht
  have hi1 : (0 : Int) ≤ (BL : Int) := by omega
  have hi2 : (BL : Int) < (S.length : Int) := by omega
  clear hu hA p0 p1 hsp
  go_enter Tryz.func15, Tryz.ntmps15
  go_upto_region 1 with fail
  generalize (w.alloc (Obj.cells #[.slice (some ⟨b5, o5, none⟩) S.length c] 45)).alloc (Obj.cells #[.int .i64 f, .int .i64 t] 48) = w0 at *
  generalize w.heap.size = g at *
  have HG0 := Lib.hid hG0
  have q0 : w0.cell? ⟨g, 0, none⟩ = some (.slice (some ⟨b5, o5, none⟩) S.length c) := b0.cell 0
  obtain ⟨y0, y1⟩ := b1.cells2
  clear b0 b1 hG0
  go_upto_region 3 with (go_at_call 41; refine (HR.out _).mono ?_; rintro e w1 ⟨rfl, h1⟩)
  have q1 := h1.cell q0
  have y2 := h1.cell y0
  have y3 := h1.cell y1
  have HG1 := Lib.hid (Gr.tr HG0.out h1)
  clear q0 y0 y1 h1
  go_upto_region 6 with (go_at_call 49; refine (HB.out _ HG1.out).mono ?_; rintro e w2 ⟨rfl, h2⟩)
  have q0 := h2.cell q1
  have y0 := h2.cell y2
  have y1 := h2.cell y3
  have HG2 := Lib.hid (Gr.tr HG1.out h2)
  have p0 := Gr.cell HG2.out P0.out
  have p1 := Gr.cell HG2.out P1.out
  clear q1 y2 y3 h2
  go_quiet (fail)
  have hd := Gr.drN (Gr.refl w2) nq
  generalize w2.drewN nq = w3 at *
  go_wp2_with fail
  go_ret
  exact ⟨rfl, Gr.tr HG2.out hd⟩
end Go.Proofs.YtflepnkpihfidaaGreatDoor
namespace Go.Proofs.YtflepnkpihfidaaGreatDoor
open Go.RowKit
/-- some set of so many spans at most -/
def SetAny (n : Nat) (w : World) (e : Ending) (w' : World) : Prop := ∃ (L : List SpT) (A : Option Addr) (c : Nat), L.length ≤ n ∧ e = .returned (.agg #[.slice A L.length c]) ∧ Own w w' 48 2 (.slice A L.length c) L.length (spansV L) ∧ Gr w w'
theorem box3g (w : World) (c1 c2 c3 : Array Value) (t1 t2 t3 : TypeId) : let w3 := ((w.alloc (Obj.cells c1 t1)).alloc (Obj.cells c2 t2)).alloc (Obj.cells c3 t3)
    Bk w3 w.heap.size t1 c1 (0, 0) ∧ Bk w3 (w.heap.size + 1) t2 c2 (0, 0) ∧ Bk w3 (w.heap.size + 1 + 1) t3 c3 (0, 0) ∧ Gr w w3 := by
  obtain ⟨b0, b1, hg⟩ := two_box w c1 c2 t1 t2
  have hgx := Gr.al (Gr.refl ((w.alloc (Obj.cells c1 t1)).alloc (Obj.cells c2 t2))) (Obj.cells c3 t3)
  refine ⟨b0.gr hgx, b1.gr hgx, ?_, Gr.tr hg hgx⟩
  have hs : ((w.alloc (Obj.cells c1 t1)).alloc (Obj.cells c2 t2)).heap.size = w.heap.size + 1 + 1 := by simp only [al_size]
  have := Bk.new ((w.alloc (Obj.cells c1 t1)).alloc (Obj.cells c2 t2)) t3 c3 (0, 0)
  rw [hs] at this
  exact this
theorem own_bz {W0 W1 w : World} {e : TypeId} {size n : Nat} {v : Value} {xs : List Value} (h : Own W1 w e size v n xs) (hb : W0.heap.size ≤ W1.heap.size) : Own W0 w e size v n xs := by
  refine ⟨h.1, ?_⟩
  rcases h.2 with h0 | ⟨b, cap, cur, hv, hl, r⟩
  · exact .inl h0
  · exact .inr ⟨b, cap, cur, hv, Nat.le_trans hb hl, r⟩
/-- a set stored into the result's box -/
theorem set_put {w1 w3 w4 : World} {g c : Nat} {A : Option Addr} {L : List SpT} (hw : w4 = w3.setCell ⟨g, 0, none⟩ (.slice A L.length c)) {cs : Array Value} (hb : Bk w3 g 45 cs (0, 0)) (hcs : cs.size = 1) (hlo : w1.heap.size ≤ g) (hG : Gr w1 w3) {W0 : World} (hW : w1.heap.size ≤ W0.heap.size) (ho : Own W0 w3 48 2 (.slice A L.length c) L.length (spansV L)) :
    w4.cell? ⟨g, 0, none⟩ = some (.slice A L.length c) ∧ Own w1 w4 48 2 (.slice A L.length c) L.length (spansV L) ∧ Gr w1 w4 := by
  subst hw
  refine ⟨?_, ?_, hG.st (p := ⟨g, 0, none⟩) hlo _⟩
  · rw [(hb.set 0 _).cell 0]; simp [hcs]
  · exact own_bz (Own.set ho (own_ne_ty ho hb (by decide)) 0 _) hW
def meetS (x y : SpT) : Option SpT := if spanB x.1 x.2 && spanB y.1 y.2 then (if min x.2 y.2 ≤ max x.1 y.1 then none else some (max x.1 y.1, min x.2 y.2)) else none
set_option maxHeartbeats 8000000 in
set_option maxRecDepth 100000 in
theorem spanMeet_any (a b c d : Int) (w : World) : Calls Tryz.prog 47 #[.agg #[.int .i64 a, .int .i64 b], .agg #[.int .i64 c, .int .i64 d]] w fun e w' => e = .returned (firstV (meetS (a, b) (c, d))) ∧ Gr w w' := by
  have HX := Lib.hid (fun (v : World) => spanRight_any a b v)
  have HY := Lib.hid (fun (v : World) => spanRight_any c d v)
  have HM := Lib.hid (show meetS (a, b) (c, d) = if spanB a b && spanB c d then (if min b d ≤ max a c then none else some (max a c, min b d)) else none from rfl)
  generalize meetS (a, b) (c, d) = MS at *
  generalize hs1 : spanB a b = s1 at *
  generalize hs2 : spanB c d = s2 at *
  obtain ⟨b0, b1, b2, hg3⟩ := box3g w #[.int .i64 a, .int .i64 b] #[.int .i64 c, .int .i64 d] #[.int .i64 0, .int .i64 0] 48 48 48
  clear hs1 hs2
  go_enter Tryz.func47, Tryz.ntmps47
  go_upto_region 1 with fail
  refine at_world (P := Code.wp _ _ _ _) (w0 := ((w.alloc (Obj.cells #[.int .i64 a, .int .i64 b] 48)).alloc (Obj.cells #[.int .i64 c, .int .i64 d] 48)).alloc (Obj.cells #[.int .i64 0, .int .i64 0] 48)) ?_
  intro w3 hw3
  rw [← hw3] at b0 b1 b2 hg3
  clear hw3
  generalize hgq : w.heap.size = g at *
  have HLO := Lib.hid (show w.heap.size ≤ g + 1 + 1 from by omega)
  have HG3 := Lib.hid hg3
  have HB2 := Lib.hid b2
  have r0 : ∀ x, Gr w3 x → x.cell? ⟨g, 0, none⟩ = some (.int .i64 a) := fun x h => (b0.gr h).cell 0
  have r1 : ∀ x, Gr w3 x → x.cell? ⟨g, 1, none⟩ = some (.int .i64 b) := fun x h => (b0.gr h).cell 1
  have r2 : ∀ x, Gr w3 x → x.cell? ⟨g + 1, 0, none⟩ = some (.int .i64 c) := fun x h => (b1.gr h).cell 0
  have r3 : ∀ x, Gr w3 x → x.cell? ⟨g + 1, 1, none⟩ = some (.int .i64 d) := fun x h => (b1.gr h).cell 1
  have f0 : ∀ x, Gr w3 x → x.frozen? ⟨g + 1 + 1, 0, none⟩ = false := fun x h => (b2.gr h).free 0 (.inr (Nat.zero_le _))
  have f1 : ∀ x, Gr w3 x → x.frozen? ⟨g + 1 + 1, 1, none⟩ = false := fun x h => (b2.gr h).free 1 (.inr (Nat.zero_le _))
  have z0 : ∀ x, Gr w3 x → x.cell? ⟨g + 1 + 1, 0, none⟩ = some (.int .i64 0) := fun x h => (b2.gr h).cell 0
  have z1 : ∀ x, Gr w3 x → x.cell? ⟨g + 1 + 1, 1, none⟩ = some (.int .i64 0) := fun x h => (b2.gr h).cell 1
  have h33 := Gr.refl w3
  have hlt := b2.lt
  clear b0 b1 b2 hg3 hgq
  cases s1 with
  | false =>
    have HE := Lib.hid (show MS = none from by rw [HM.out]; rfl)
    clear HM
    go_upto_region 2 with (go_at_call 41; (with_reducible refine (HX.out _).mono ?_); rintro e wn ⟨rfl, hgn⟩)
    have HG4 := Lib.hid (Gr.tr HG3.out hgn)
    have HB4 := Lib.hid (HB2.out.gr hgn)
    have y0 := f0 _ hgn
    have y1 := f1 _ hgn
    have x0 := z0 _ hgn
    have x1 := z1 _ hgn
    clear r0 r1 r2 r3 f0 f1 z0 z1
    go_wp2_with fail
    refine at_world (P := bodyPost _ _ _ _ _) (w0 := putCs wn (g + 1 + 1) [.int .i64 0, .int .i64 0] 0) ?_
    intro wy hwy
    have hy : Bk wy (g + 1 + 1) 48 #[.int .i64 0, .int .i64 0] (0, 0) := by rw [hwy]; exact putCs_bk HB4.out rfl
    obtain ⟨u0, u1⟩ := hy.cells2
    refine bodyPost_ret (v := .tuple #[.agg #[.int .i64 0, .int .i64 0], .bool false]) (by simp [results, Tryz.results47, go_sem, u0, u1]) rfl ⟨by rw [HE.out]; rfl, ?_⟩
    rw [hwy]; exact putCs_gr HLO.out _ _ _ HG4.out
  | true =>
  cases s2 with
  | false =>
    have HE := Lib.hid (show MS = none from by rw [HM.out]; rfl)
    clear HM
    go_upto_region 2 with (go_at_call 41; first
      | ((with_reducible refine (HX.out _).mono ?_); rintro e wm ⟨rfl, hgm⟩)
      | ((with_reducible refine (HY.out _).mono ?_); rintro e wn ⟨rfl, hgn'⟩; have hgn : Gr w3 wn := Gr.tr hgm hgn'))
    have HG4 := Lib.hid (Gr.tr HG3.out hgn)
    have HB4 := Lib.hid (HB2.out.gr hgn)
    have y0 := f0 _ hgn
    have y1 := f1 _ hgn
    have x0 := z0 _ hgn
    have x1 := z1 _ hgn
    clear r0 r1 r2 r3 f0 f1 z0 z1
    go_wp2_with fail
    refine at_world (P := bodyPost _ _ _ _ _) (w0 := putCs wn (g + 1 + 1) [.int .i64 0, .int .i64 0] 0) ?_
    intro wy hwy
    have hy : Bk wy (g + 1 + 1) 48 #[.int .i64 0, .int .i64 0] (0, 0) := by rw [hwy]; exact putCs_bk HB4.out rfl
    obtain ⟨u0, u1⟩ := hy.cells2
    refine bodyPost_ret (v := .tuple #[.agg #[.int .i64 0, .int .i64 0], .bool false]) (by simp [results, Tryz.results47, go_sem, u0, u1]) rfl ⟨by rw [HE.out]; rfl, ?_⟩
    rw [hwy]; exact putCs_gr HLO.out _ _ _ HG4.out
  | true =>
    have HE := Lib.hid (show MS = if min b d ≤ max a c then none else some (max a c, min b d) from by rw [HM.out]; rfl)
    clear HM
    go_upto_region 3 with (go_at_call 41; first
      | ((with_reducible refine (HX.out _).mono ?_); rintro e wm ⟨rfl, hgm⟩)
      | ((with_reducible refine (HY.out _).mono ?_); rintro e wn ⟨rfl, hgn'⟩; have hgn : Gr w3 wn := Gr.tr hgm hgn'))
    go_upto_region 4 with fail
    obtain ⟨hgb, p0, p1⟩ := box2 wn (.int .i64 (max a c)) (.int .i64 (min b d)) 48
    refine at_world (P := Code.wp _ _ _ _) (w0 := wn.alloc (Obj.cells #[.int .i64 (max a c), .int .i64 (min b d)] 48)) ?_
    intro w4 hw4
    rw [← hw4] at hgb p0 p1
    clear hw4
    have h4 := Gr.tr hgn hgb
    have HG4 := Lib.hid (Gr.tr HG3.out h4)
    have HB4 := Lib.hid (HB2.out.gr h4)
    have y0 := f0 _ h4
    have y1 := f1 _ h4
    have x0 := z0 _ h4
    have x1 := z1 _ h4
    generalize wn.heap.size = gm at *
    clear r0 r1 r2 r3 f0 f1 z0 z1 h33 hgn hgb h4 hlt
    by_cases hle : min b d ≤ max a c
    · have HE2 := Lib.hid (show MS = none from by rw [HE.out, if_pos hle])
      clear HE
      go_wp2_with fail
      refine at_world (P := bodyPost _ _ _ _ _) (w0 := putCs w4 (g + 1 + 1) [.int .i64 0, .int .i64 0] 0) ?_
      intro wy hwy
      have hy : Bk wy (g + 1 + 1) 48 #[.int .i64 0, .int .i64 0] (0, 0) := by rw [hwy]; exact putCs_bk HB4.out rfl
      obtain ⟨u0, u1⟩ := hy.cells2
      refine bodyPost_ret (v := .tuple #[.agg #[.int .i64 0, .int .i64 0], .bool false]) (by simp [results, Tryz.results47, go_sem, u0, u1]) rfl ⟨by rw [HE2.out]; rfl, ?_⟩
      rw [hwy]; exact putCs_gr HLO.out _ _ _ HG4.out
    · have HE2 := Lib.hid (show MS = some (max a c, min b d) from by rw [HE.out, if_neg hle])
      clear HE
      go_wp2_with fail
      refine at_world (P := bodyPost _ _ _ _ _) (w0 := putCs w4 (g + 1 + 1) [.int .i64 (max a c), .int .i64 (min b d)] 0) ?_
      intro wy hwy
      have hy : Bk wy (g + 1 + 1) 48 #[.int .i64 (max a c), .int .i64 (min b d)] (0, 0) := by rw [hwy]; exact putCs_bk HB4.out rfl
      obtain ⟨u0, u1⟩ := hy.cells2
      refine bodyPost_ret (v := .tuple #[.agg #[.int .i64 (max a c), .int .i64 (min b d)], .bool true]) (by simp [results, Tryz.results47, go_sem, u0, u1]) rfl ⟨by rw [HE2.out]; rfl, ?_⟩
      rw [hwy]; exact putCs_gr HLO.out _ _ _ HG4.out
set_option maxHeartbeats 16000000 in
set_option maxRecDepth 100000 in
theorem setOr_any (v1 v2 : Value) (S T : List SpT) (w : World) (h1 : Spans w v1 S) (h2 : Spans w v2 T) (hl : S.length + T.length ≤ 900) : Calls Tryz.prog 12 #[.agg #[v1], .agg #[v2]] w (SetAny (S.length + T.length) w) := by
  obtain ⟨A1, c1, rfl, hc1, _, hA1⟩ := h1.open
  obtain ⟨A2, c2, rfl, hc2, _, hA2⟩ := h2.open
  have HA1 := Lib.hid hA1
  have HA2 := Lib.hid hA2
  clear hA1 hA2 h1 h2
  go_enter Tryz.func12, Tryz.ntmps12
  go_upto_region 1 with fail
  obtain ⟨b0, b1, b2, hg3⟩ := box3g w #[.slice A1 S.length c1] #[.slice A2 T.length c2] #[.slice none 0 0] 45 45 45
  refine at_world (P := Code.wp _ _ _ _) (w0 := ((w.alloc (Obj.cells #[.slice A1 S.length c1] 45)).alloc (Obj.cells #[.slice A2 T.length c2] 45)).alloc (Obj.cells #[.slice none 0 0] 45)) ?_
  intro w3 hw3
  rw [← hw3] at b0 b1 b2 hg3
  clear hw3
  generalize hgq : w.heap.size = g at *
  have HLO := Lib.hid (show w.heap.size ≤ g + 1 + 1 from by omega)
  have HG3 := Lib.hid hg3
  have HB2 := Lib.hid b2
  have r0 : ∀ x, Gr w3 x → x.cell? ⟨g, 0, none⟩ = some (.slice A1 S.length c1) := fun x h => (b0.gr h).cell 0
  have r1 : ∀ x, Gr w3 x → x.cell? ⟨g + 1, 0, none⟩ = some (.slice A2 T.length c2) := fun x h => (b1.gr h).cell 0
  have h33 := Gr.refl w3
  have q0 := r0 _ h33
  have q1 := r1 _ h33
  clear b0 b1 b2 hg3 hgq
  go_upto_region 2 with (at_make; refine wpList_mk0 (W0 := w3) (S.length + T.length) elemSpanT rfl _ _ rfl rfl rfl ?_ ?_ ?_ ?_ ?_; omega; omega; omega; exact Nat.le_refl _; intro w4 hown4 hg4)
  have HO4 := Lib.hid hown4
  have HG4 := Lib.hid hg4
  clear hown4 hg4 q0 q1 h33
  go_wp2_with fail
  go_loopw [5, 6, 7] (fun out iv jv wr => ∃ (i j : Nat) (L : List SpT), i ≤ S.length ∧ j ≤ T.length ∧ L.length ≤ i + j ∧ iv = .int .i64 i ∧ jv = .int .i64 j ∧ Gr w3 wr ∧ Own w3 wr 48 2 out L.length (spansV L)) (fun _ iv jv _ => S.length + T.length - (intOf iv).toNat - (intOf jv).toNat)
  case atStart => exact ⟨0, 0, [], Nat.zero_le _, Nat.zero_le _, Nat.le_refl _, rfl, rfl, HG4.out, HO4.out⟩
  case round =>
    obtain ⟨i, j, L, hi, hj, hL, rfl, rfl, hG, hO⟩ := hrel
    have q0 := r0 _ hG
    have q1 := r1 _ hG
    obtain ⟨A8, c8, rfl⟩ := hO.form
    have HO := Lib.hid hO
    have HLL := Lib.hid hL
    have HGG := Lib.hid (Gr.tr HG3.out hG)
    have HGr := Lib.hid hG
    clear hO hG hL HG4 HO4
    by_cases hi2 : i < S.length
    · obtain ⟨b1, o1, rfl, hb1, p0, p1⟩ := HA1.out i hi2
      have p0 := Gr.cell HGG.out p0
      have p1 := Gr.cell HGG.out p1
      generalize S[i] = s at *
      obtain ⟨sf, st⟩ := s
      simp only at p0 p1
      have di : decide ((i : Int) < (S.length : Int)) = true := decide_eq_true (by omega)
      by_cases hj2 : j < T.length
      · obtain ⟨b2, o2, rfl, hb2, p2, p3⟩ := HA2.out j hj2
        have p2 := Gr.cell HGG.out p2
        have p3 := Gr.cell HGG.out p3
        generalize T[j] = t at *
        obtain ⟨tf, tt⟩ := t
        simp only at p2 p3
        have dj : ((j : Int) == (T.length : Int)) = false := by rw [beq_eq_false_iff_ne]; omega
        by_cases hle : sf ≤ tf
        · have dl : decide (sf ≤ tf) = true := decide_eq_true hle
          go_upto_region 4 with fail
          go_quiet (fail)
          clear p2 p3
          have hd := Gr.drN (Gr.refl wr) nq
          have p0d := hd.cell p0
          have p1d := hd.cell p1
          have q0d := hd.cell q0
          have q1d := hd.cell q1
          have HOD := Lib.hid (HO.out.gr hd)
          have HGD := Lib.hid (Gr.tr HGr.out hd)
          have hLn : L.length ≤ 900 := by have := HLL.out; omega
          generalize wr.drewN nq = wd at *
          clear hd p0 p1 q0 q1 r0 r1 HO
          go_wp2_with (at_builtin; refine wpList_app1 (W0 := w3) (W := wd) (n := L.length) (xs := spansV L) (news := [.int .i64 sf, .int .i64 st]) elemSpanT rfl _ _ rfl rfl rfl HGD.out HOD.out rfl (one_span _ _) (by omega) (by omega) ?_; intro v' w4 hown4 hg4; have HO4 := Lib.hid hown4; clear hown4)
          exact ⟨⟨i + 1, j, L ++ [(sf, st)], by omega, by omega, by have := HLL.out; rw [List.length_append, List.length_singleton]; omega, by go_num, rfl, hg4, by rw [List.length_append, List.length_singleton, spansV_app]; exact HO4.out⟩, by simp [intOf]; omega⟩
        · have dl : decide (sf ≤ tf) = false := decide_eq_false hle
          go_upto_region 4 with fail
          go_quiet (fail)
          clear p0 p1
          have p0 := p2
          have p1 := p3
          clear p2 p3
          have hd := Gr.drN (Gr.refl wr) nq
          have p0d := hd.cell p0
          have p1d := hd.cell p1
          have q0d := hd.cell q0
          have q1d := hd.cell q1
          have HOD := Lib.hid (HO.out.gr hd)
          have HGD := Lib.hid (Gr.tr HGr.out hd)
          have hLn : L.length ≤ 900 := by have := HLL.out; omega
          generalize wr.drewN nq = wd at *
          clear hd p0 p1 q0 q1 r0 r1 HO
          go_wp2_with (at_builtin; refine wpList_app1 (W0 := w3) (W := wd) (n := L.length) (xs := spansV L) (news := [.int .i64 tf, .int .i64 tt]) elemSpanT rfl _ _ rfl rfl rfl HGD.out HOD.out rfl (one_span _ _) (by omega) (by omega) ?_; intro v' w4 hown4 hg4; have HO4 := Lib.hid hown4; clear hown4)
          exact ⟨⟨i, j + 1, L ++ [(tf, tt)], by omega, by omega, by have := HLL.out; rw [List.length_append, List.length_singleton]; omega, rfl, by go_num, hg4, by rw [List.length_append, List.length_singleton, spansV_app]; exact HO4.out⟩, by simp [intOf]; omega⟩
      · have hje : j = T.length := by omega
        have dj : ((j : Int) == (T.length : Int)) = true := by rw [beq_iff_eq]; omega
        clear hje
        go_upto_region 4 with fail
        go_quiet (fail)
        have hd := Gr.drN (Gr.refl wr) nq
        have p0d := hd.cell p0
        have p1d := hd.cell p1
        have q0d := hd.cell q0
        have q1d := hd.cell q1
        have HOD := Lib.hid (HO.out.gr hd)
        have HGD := Lib.hid (Gr.tr HGr.out hd)
        have hLn : L.length ≤ 900 := by have := HLL.out; omega
        generalize wr.drewN nq = wd at *
        clear hd p0 p1 q0 q1 r0 r1 HO
        go_wp2_with (at_builtin; refine wpList_app1 (W0 := w3) (W := wd) (n := L.length) (xs := spansV L) (news := [.int .i64 sf, .int .i64 st]) elemSpanT rfl _ _ rfl rfl rfl HGD.out HOD.out rfl (one_span _ _) (by omega) (by omega) ?_; intro v' w4 hown4 hg4; have HO4 := Lib.hid hown4; clear hown4)
        exact ⟨⟨i + 1, j, L ++ [(sf, st)], by omega, by omega, by have := HLL.out; rw [List.length_append, List.length_singleton]; omega, by go_num, rfl, hg4, by rw [List.length_append, List.length_singleton, spansV_app]; exact HO4.out⟩, by simp [intOf]; omega⟩
    · have di : decide ((i : Int) < (S.length : Int)) = false := decide_eq_false (by omega)
      by_cases hj2 : j < T.length
      · obtain ⟨b2, o2, rfl, hb2, p0, p1⟩ := HA2.out j hj2
        have p0 := Gr.cell HGG.out p0
        have p1 := Gr.cell HGG.out p1
        generalize T[j] = t at *
        obtain ⟨tf, tt⟩ := t
        simp only at p0 p1
        have dj : ((j : Int) == (T.length : Int)) = false := by rw [beq_eq_false_iff_ne]; omega
        have dj2 : decide ((j : Int) < (T.length : Int)) = true := decide_eq_true (by omega)
        go_upto_region 4 with fail
        go_quiet (fail)
        have hd := Gr.drN (Gr.refl wr) nq
        have p0d := hd.cell p0
        have p1d := hd.cell p1
        have q0d := hd.cell q0
        have q1d := hd.cell q1
        have HOD := Lib.hid (HO.out.gr hd)
        have HGD := Lib.hid (Gr.tr HGr.out hd)
        have hLn : L.length ≤ 900 := by have := HLL.out; omega
        generalize wr.drewN nq = wd at *
        clear hd p0 p1 q0 q1 r0 r1 HO
        go_wp2_with (at_builtin; refine wpList_app1 (W0 := w3) (W := wd) (n := L.length) (xs := spansV L) (news := [.int .i64 tf, .int .i64 tt]) elemSpanT rfl _ _ rfl rfl rfl HGD.out HOD.out rfl (one_span _ _) (by omega) (by omega) ?_; intro v' w4 hown4 hg4; have HO4 := Lib.hid hown4; clear hown4)
        exact ⟨⟨i, j + 1, L ++ [(tf, tt)], by omega, by omega, by have := HLL.out; rw [List.length_append, List.length_singleton]; omega, rfl, by go_num, hg4, by rw [List.length_append, List.length_singleton, spansV_app]; exact HO4.out⟩, by simp [intOf]; omega⟩
      · have dj2 : decide ((j : Int) < (T.length : Int)) = false := decide_eq_false (by omega)
        have HGA := Lib.hid (gather_any _ L wr (HO.out.sl (by decide)) (by have := HLL.out; omega))
        have hgl := gather_len L []
        have HGN := Lib.hid (show (gatherL L).length ≤ S.length + T.length from by have h1 := HLL.out; unfold gatherL; simp only [List.length_nil] at hgl; omega)
        clear hgl
        generalize gatherL L = GL at *
        go_wp2_with (go_at_call 46; refine HGA.out.mono ?_; rintro e w5 ⟨A5, c5, rfl, hO5, hg5⟩; have HO5 := Lib.hid hO5; clear hO5; have HB5 := Lib.hid (HB2.out.gr (Gr.tr HGr.out hg5)); have HG5 := Lib.hid (Gr.tr HGG.out hg5); have z0 : w5.cell? ⟨g + 1 + 1, 0, none⟩ = some (.slice none 0 0) := HB5.out.cell 0; have f0 := HB5.out.free 0 (.inr (Nat.zero_le _)))
        refine at_world (P := bodyPost _ _ _ _ _) (w0 := w5.setCell ⟨g + 1 + 1, 0, none⟩ (.slice A5 GL.length c5)) ?_
        intro wy hwy
        obtain ⟨y0, hs, hg⟩ := set_put hwy HB5.out rfl HLO.out HG5.out (HGG.out.size) HO5.out
        refine bodyPost_ret (v := .agg #[.slice A5 GL.length c5]) (by simp [results, Tryz.results12, go_sem, y0]) rfl ?_
        exact ⟨GL, A5, c5, HGN.out, rfl, hs, hg⟩
set_option maxHeartbeats 16000000 in
set_option maxRecDepth 100000 in
theorem setAnd_any (v1 v2 : Value) (S T : List SpT) (w : World) (h1 : Spans w v1 S) (h2 : Spans w v2 T) (hl : S.length + T.length ≤ 900) : Calls Tryz.prog 13 #[.agg #[v1], .agg #[v2]] w (SetAny (S.length + T.length) w) := by
  obtain ⟨A1, c1, rfl, hc1, _, hA1⟩ := h1.open
  obtain ⟨A2, c2, rfl, hc2, _, hA2⟩ := h2.open
  have HA1 := Lib.hid hA1
  have HA2 := Lib.hid hA2
  clear hA1 hA2 h1 h2
  go_enter Tryz.func13, Tryz.ntmps13
  go_upto_region 1 with fail
  obtain ⟨b0, b1, b2, hg3⟩ := box3g w #[.slice A1 S.length c1] #[.slice A2 T.length c2] #[.slice none 0 0] 45 45 45
  refine at_world (P := Code.wp _ _ _ _) (w0 := ((w.alloc (Obj.cells #[.slice A1 S.length c1] 45)).alloc (Obj.cells #[.slice A2 T.length c2] 45)).alloc (Obj.cells #[.slice none 0 0] 45)) ?_
  intro w3 hw3
  rw [← hw3] at b0 b1 b2 hg3
  clear hw3
  generalize hgq : w.heap.size = g at *
  have HLO := Lib.hid (show w.heap.size ≤ g + 1 + 1 from by omega)
  have HG3 := Lib.hid hg3
  have HB2 := Lib.hid b2
  have r0 : ∀ x, Gr w3 x → x.cell? ⟨g, 0, none⟩ = some (.slice A1 S.length c1) := fun x h => (b0.gr h).cell 0
  have r1 : ∀ x, Gr w3 x → x.cell? ⟨g + 1, 0, none⟩ = some (.slice A2 T.length c2) := fun x h => (b1.gr h).cell 0
  have HR3 := Lib.hid (Gr.refl w3)
  clear b0 b1 b2 hg3 hgq
  go_wp2_with fail
  go_loopw [5, 6, 7, 8, 9] (fun out iv jv x8 x9 wr => ∃ (i j : Nat) (L : List SpT), i ≤ S.length ∧ j ≤ T.length ∧ L.length ≤ i + j ∧ iv = .int .i64 i ∧ jv = .int .i64 j ∧ Gr w3 wr ∧ Own w3 wr 48 2 out L.length (spansV L)) (fun _ iv jv _ _ _ => S.length + T.length - (intOf iv).toNat - (intOf jv).toNat)
  case atStart => exact ⟨0, 0, [], Nat.zero_le _, Nat.zero_le _, Nat.le_refl _, rfl, rfl, HR3.out, Own.nil _ _ _ _⟩
  case round =>
    obtain ⟨i, j, L, hi, hj, hL, rfl, rfl, hG, hO⟩ := hrel
    have q0 := r0 _ hG
    have q1 := r1 _ hG
    obtain ⟨A8, c8, rfl⟩ := hO.form
    have HO := Lib.hid hO
    have HLL := Lib.hid hL
    have HGG := Lib.hid (Gr.tr HG3.out hG)
    have HGr := Lib.hid hG
    clear hO hG hL
    by_cases hij : i < S.length ∧ j < T.length
    · obtain ⟨hi2, hj2⟩ := hij
      obtain ⟨b1, o1, rfl, hb1, p0, p1⟩ := HA1.out i hi2
      obtain ⟨b2, o2, rfl, hb2, p2, p3⟩ := HA2.out j hj2
      generalize S[i] = s at *
      generalize T[j] = t at *
      obtain ⟨sf, st⟩ := s
      obtain ⟨tf, tt⟩ := t
      simp only at p0 p1 p2 p3
      have HP1 := Lib.hid p1
      have HP3 := Lib.hid p3
      have HR0 := Lib.hid r0
      have HR1 := Lib.hid r1
      have p0 := Gr.cell HGG.out p0
      have p1 := Gr.cell HGG.out p1
      have p2 := Gr.cell HGG.out p2
      have p3 := Gr.cell HGG.out p3
      have di : decide ((i : Int) < (S.length : Int)) = true := decide_eq_true (by omega)
      have dj : decide ((j : Int) < (T.length : Int)) = true := decide_eq_true (by omega)
      have HMT := Lib.hid (fun (x : World) => spanMeet_any sf st tf tt x)
      generalize meetS (sf, st) (tf, tt) = MS at *
      have hLn : L.length ≤ 900 := by have := HLL.out; omega
      go_upto_region 4 with fail
      have g0 := gx_cell (r := none) p0 (by simp)
      have g1 := gx_cell (r := none) p1 (by simp)
      have g2 := gx_cell (r := none) p2 (by simp)
      have g3 := gx_cell (r := none) p3 (by simp)
      have g4 := gx_cell (r := none) q0 (by simp)
      have g5 := gx_cell (r := none) q1 (by simp)
      cases MS with
      | none =>
        have HMX := Lib.hid (fun (x : World) => show Calls Tryz.prog 47 #[.agg #[.int .i64 sf, .int .i64 st], .agg #[.int .i64 tf, .int .i64 tt]] x (fun e w' => e = .returned (.tuple #[.agg #[.int .i64 0, .int .i64 0], .bool false]) ∧ Gr x w') from HMT.out x)
        refine wp_region_mix [0, 1, 2, 3, 4, 5, 6, 7, 8, 9, 10, 11, 12, 13] none 3 (by kernel_rfl) rfl (by kernel_rfl) (fun o _ _ _ _ h => by cases o <;> exact h) ?_
        simp only [pickOps, List.filterMap_cons, List.filterMap_nil, List.getElem?_cons_zero, List.getElem?_cons_succ]
        repeat (first | (refine wpGq_step (fun K hK => ?_); go_simp; refine hK _ ?_; clear hK K) | (refine wpGq_step (fun K hK => ?_); go_simp; simp only [↓IntWalk.iteOmega]; go_simp; refine hK _ ?_; clear hK K) | (refine wpGq_step (fun K hK => ?_); go_simp; apply Exists.intro; refine ⟨fun _ => ?_, hK _ ?_⟩; (go_at_call 47; exact HMX.out _); clear hK K))
        refine wpGq_nil ?_
        refine wpG_one 14 (by kernel_rfl) rfl rfl (fun K hK wa hga => ?_)
        go_simp
        refine hK _ _ ?_ ?_
        · exact (Gr.al hga _).by _
        clear hK K
        refine wpG_one 15 (by kernel_rfl) rfl rfl (fun K hK wb hgb => ?_)
        have hbk := (Bk.new wa 48 #[.int .i64 0, .int .i64 0] (0, 0)).gr hgb
        have z0 := hbk.cell 0; have z1 := hbk.cell 1
        have f0 := hbk.free 0 (.inr (Nat.le_refl _)); have f1 := hbk.free 1 (.inr (by simp))
        simp only [List.getElem?_toArray, List.getElem?_cons_zero, List.getElem?_cons_succ] at z0 z1
        go_simp
        refine hK _ _ ?_ ?_
        · exact (Gr.st (Gr.st (Gr.tr (Gr.al hga _) hgb) hga.size _) hga.size _).by _
        clear hK K
        refine wpG_one 16 (by kernel_rfl) rfl rfl (fun K hK wc hgc => ?_)
        go_simp
        refine hK _ _ ?_ ?_
        · exact (Gr.tr (Gr.st (Gr.st (Gr.tr (Gr.al hga _) hgb) hga.size _) hga.size _) hgc).by _
        clear hK K
        refine wpG_done (by kernel_rfl) (fun wd hgd' => ?_)
        have hgd := Gr.tr hgc hgd'
        clear hgc hgd'
        have hbk2 := ((hbk.set 0 (.int .i64 0)).set 1 (.int .i64 0)).gr hgd
        have y0 : wd.cell? ⟨wa.heap.size, 0, none⟩ = some (.int .i64 0) := hbk2.cell 0
        have y1 : wd.cell? ⟨wa.heap.size, 1, none⟩ = some (.int .i64 0) := hbk2.cell 1
        have hd : Gr wr wd := Gr.tr (Gr.st (Gr.st (Gr.tr (Gr.al hga _) hgb) hga.size _) hga.size _) hgd
        clear z0 z1 f0 f1 hbk hbk2 hga hgb hgd
        generalize wa.heap.size = gm at *
        clear wa wb wc
        have p1d := hd.cell p1
        have p3d := hd.cell p3
        have q0d := hd.cell q0
        have q1d := hd.cell q1
        have HOD := Lib.hid (HO.out.gr hd)
        have HGD := Lib.hid (Gr.tr HGr.out hd)
        clear p0 p1 p2 p3 q0 q1 hd HO r0 r1
        clear g0 g1 g2 g3 g4 g5
        go_upto_region 7 with fail
        by_cases hle : st ≤ tt
        · have dl : decide (st ≤ tt) = true := decide_eq_true hle
          go_quiet (fail)
          have hd2 := Gr.drN (Gr.refl wd) nq
          have HO6 := Lib.hid (HOD.out.gr hd2)
          have HG6 := Lib.hid (Gr.tr HGD.out hd2)
          generalize wd.drewN nq = w6 at *
          clear hd2
          go_wp2_with fail
          exact ⟨⟨i + 1, j, L, by omega, by omega, by have := HLL.out; omega, by go_num, rfl, HG6.out, by exact HO6.out⟩, by simp [intOf]; omega⟩
        · have dl : decide (st ≤ tt) = false := decide_eq_false hle
          go_quiet (fail)
          have hd2 := Gr.drN (Gr.refl wd) nq
          have HO6 := Lib.hid (HOD.out.gr hd2)
          have HG6 := Lib.hid (Gr.tr HGD.out hd2)
          generalize wd.drewN nq = w6 at *
          clear hd2
          go_wp2_with fail
          exact ⟨⟨i, j + 1, L, by omega, by omega, by have := HLL.out; omega, rfl, by go_num, HG6.out, by exact HO6.out⟩, by simp [intOf]; omega⟩
      | some m =>
        obtain ⟨mf, mt⟩ := m
        have HMX := Lib.hid (fun (x : World) => show Calls Tryz.prog 47 #[.agg #[.int .i64 sf, .int .i64 st], .agg #[.int .i64 tf, .int .i64 tt]] x (fun e w' => e = .returned (.tuple #[.agg #[.int .i64 mf, .int .i64 mt], .bool true]) ∧ Gr x w') from HMT.out x)
        refine wp_region_mix [0, 1, 2, 3, 4, 5, 6, 7, 8, 9, 10, 11, 12, 13] none 3 (by kernel_rfl) rfl (by kernel_rfl) (fun o _ _ _ _ h => by cases o <;> exact h) ?_
        simp only [pickOps, List.filterMap_cons, List.filterMap_nil, List.getElem?_cons_zero, List.getElem?_cons_succ]
        repeat (first | (refine wpGq_step (fun K hK => ?_); go_simp; refine hK _ ?_; clear hK K) | (refine wpGq_step (fun K hK => ?_); go_simp; simp only [↓IntWalk.iteOmega]; go_simp; refine hK _ ?_; clear hK K) | (refine wpGq_step (fun K hK => ?_); go_simp; apply Exists.intro; refine ⟨fun _ => ?_, hK _ ?_⟩; (go_at_call 47; exact HMX.out _); clear hK K))
        refine wpGq_nil ?_
        refine wpG_one 14 (by kernel_rfl) rfl rfl (fun K hK wa hga => ?_)
        go_simp
        refine hK _ _ ?_ ?_
        · exact (Gr.al hga _).by _
        clear hK K
        refine wpG_one 15 (by kernel_rfl) rfl rfl (fun K hK wb hgb => ?_)
        have hbk := (Bk.new wa 48 #[.int .i64 0, .int .i64 0] (0, 0)).gr hgb
        have z0 := hbk.cell 0; have z1 := hbk.cell 1
        have f0 := hbk.free 0 (.inr (Nat.le_refl _)); have f1 := hbk.free 1 (.inr (by simp))
        simp only [List.getElem?_toArray, List.getElem?_cons_zero, List.getElem?_cons_succ] at z0 z1
        go_simp
        refine hK _ _ ?_ ?_
        · exact (Gr.st (Gr.st (Gr.tr (Gr.al hga _) hgb) hga.size _) hga.size _).by _
        clear hK K
        refine wpG_one 16 (by kernel_rfl) rfl rfl (fun K hK wc hgc => ?_)
        go_simp
        refine hK _ _ ?_ ?_
        · exact (Gr.tr (Gr.st (Gr.st (Gr.tr (Gr.al hga _) hgb) hga.size _) hga.size _) hgc).by _
        clear hK K
        refine wpG_done (by kernel_rfl) (fun wd hgd' => ?_)
        have hgd := Gr.tr hgc hgd'
        clear hgc hgd'
        have hbk2 := ((hbk.set 0 (.int .i64 mf)).set 1 (.int .i64 mt)).gr hgd
        have y0 : wd.cell? ⟨wa.heap.size, 0, none⟩ = some (.int .i64 mf) := hbk2.cell 0
        have y1 : wd.cell? ⟨wa.heap.size, 1, none⟩ = some (.int .i64 mt) := hbk2.cell 1
        have hd : Gr wr wd := Gr.tr (Gr.st (Gr.st (Gr.tr (Gr.al hga _) hgb) hga.size _) hga.size _) hgd
        clear z0 z1 f0 f1 hbk hbk2 hga hgb hgd
        generalize wa.heap.size = gm at *
        clear wa wb wc
        have p1d := hd.cell p1
        have p3d := hd.cell p3
        have q0d := hd.cell q0
        have q1d := hd.cell q1
        have HOD := Lib.hid (HO.out.gr hd)
        have HGD := Lib.hid (Gr.tr HGr.out hd)
        clear p0 p1 p2 p3 q0 q1 hd HO r0 r1
        clear g0 g1 g2 g3 g4 g5
        go_upto_region 7 with (at_builtin; refine wpList_app1 (W0 := w3) (W := wd) (n := L.length) (xs := spansV L) (news := [.int .i64 mf, .int .i64 mt]) elemSpanT rfl _ _ rfl rfl rfl HGD.out HOD.out rfl (one_span _ _) (by omega) (by omega) ?_; intro v' w4 hown4 hg4; have HO4 := Lib.hid hown4; clear hown4)
        have hgw := Gr.tr HG3.out hg4
        have p1e := Gr.cell hgw HP1.out
        have p3e := Gr.cell hgw HP3.out
        have q0e := HR0.out _ hg4
        have q1e := HR1.out _ hg4
        clear p1d p3d q0d q1d hgw
        by_cases hle : st ≤ tt
        · have dl : decide (st ≤ tt) = true := decide_eq_true hle
          go_quiet (fail)
          have hd2 := Gr.drN (Gr.refl w4) nq
          have HO6 := Lib.hid (HO4.out.gr hd2)
          have HG6 := Lib.hid (Gr.tr hg4 hd2)
          generalize w4.drewN nq = w6 at *
          clear hd2
          go_wp2_with fail
          exact ⟨⟨i + 1, j, L ++ [(mf, mt)], by omega, by omega, by have := HLL.out; rw [List.length_append, List.length_singleton]; omega, by go_num, rfl, HG6.out, by rw [List.length_append, List.length_singleton, spansV_app]; exact HO6.out⟩, by simp [intOf]; omega⟩
        · have dl : decide (st ≤ tt) = false := decide_eq_false hle
          go_quiet (fail)
          have hd2 := Gr.drN (Gr.refl w4) nq
          have HO6 := Lib.hid (HO4.out.gr hd2)
          have HG6 := Lib.hid (Gr.tr hg4 hd2)
          generalize w4.drewN nq = w6 at *
          clear hd2
          go_wp2_with fail
          exact ⟨⟨i, j + 1, L ++ [(mf, mt)], by omega, by omega, by have := HLL.out; rw [List.length_append, List.length_singleton]; omega, rfl, by go_num, HG6.out, by rw [List.length_append, List.length_singleton, spansV_app]; exact HO6.out⟩, by simp [intOf]; omega⟩
    · have HIJ := Lib.hid hij
      have HNL := Lib.hid (show L.length ≤ S.length + T.length from by have := HLL.out; omega)
      have HBr := Lib.hid (HB2.out.gr HGr.out)
      have z0 : wr.cell? ⟨g + 1 + 1, 0, none⟩ = some (.slice none 0 0) := HBr.out.cell 0
      have f0 := HBr.out.free 0 (.inr (Nat.zero_le _))
      clear hij
      by_cases hi3 : i < S.length
      · have hj3 : ¬ j < T.length := by have := HIJ.out; omega
        go_wp2_with fail
        refine at_world (P := bodyPost _ _ _ _ _) (w0 := wr.setCell ⟨g + 1 + 1, 0, none⟩ (.slice A8 L.length c8)) ?_
        intro wy hwy
        obtain ⟨y0, hs, hg⟩ := set_put hwy HBr.out rfl HLO.out HGG.out (HG3.out.size) HO.out
        refine bodyPost_ret (v := .agg #[.slice A8 L.length c8]) (by simp [results, Tryz.results13, go_sem, y0]) rfl ?_
        exact ⟨L, A8, c8, HNL.out, rfl, hs, hg⟩
      · go_wp2_with fail
        refine at_world (P := bodyPost _ _ _ _ _) (w0 := wr.setCell ⟨g + 1 + 1, 0, none⟩ (.slice A8 L.length c8)) ?_
        intro wy hwy
        obtain ⟨y0, hs, hg⟩ := set_put hwy HBr.out rfl HLO.out HGG.out (HG3.out.size) HO.out
        refine bodyPost_ret (v := .agg #[.slice A8 L.length c8]) (by simp [results, Tryz.results13, go_sem, y0]) rfl ?_
        exact ⟨L, A8, c8, HNL.out, rfl, hs, hg⟩
end Go.Proofs.YtflepnkpihfidaaGreatDoor
namespace Go.Proofs.YtflepnkpihfidaaGreatDoor
open Go.RowKit
def readyV : Option PartT → Value
  | none => .tuple #[.agg #[str [], .int .i64 0, .int .i64 0], .bool false]
  | some p => .tuple #[.agg #[str p.1, .int .i64 p.2.1, .int .i64 p.2.2], .bool true]
theorem Bk.cells3 {w : World} {g : Nat} {t : TypeId} {a b c : Value} {fr : Nat × Nat} (h : Bk w g t #[a, b, c] fr) : w.cell? ⟨g, 0, none⟩ = some a ∧ w.cell? ⟨g, 1, none⟩ = some b ∧ w.cell? ⟨g, 2, none⟩ = some c := ⟨h.cell 0, h.cell 1, h.cell 2⟩
theorem Bk.free3 {w : World} {g : Nat} {t : TypeId} {a b c : Value} (h : Bk w g t #[a, b, c] (0, 0)) : w.frozen? ⟨g, 0, none⟩ = false ∧ w.frozen? ⟨g, 1, none⟩ = false ∧ w.frozen? ⟨g, 2, none⟩ = false := ⟨h.free 0 (.inr (Nat.zero_le _)), h.free 1 (.inr (Nat.zero_le _)), h.free 2 (.inr (Nat.zero_le _))⟩
theorem box3t (w : World) (c1 c2 c3 : Array Value) (t1 t2 t3 : TypeId) : let w3 := ((w.alloc (Obj.cells c1 t1)).alloc (Obj.cells c2 t2)).alloc (Obj.cells c3 t3)
    Bk w3 w.heap.size t1 c1 (0, 0) ∧ Bk w3 (w.heap.size + 1) t2 c2 (0, 0) ∧ Bk w3 (w.heap.size + 1 + 1) t3 c3 (0, 0) ∧ Gr w w3 := by
  obtain ⟨b0, b1, hg⟩ := two_box w c1 c2 t1 t2
  have hgx := Gr.al (Gr.refl ((w.alloc (Obj.cells c1 t1)).alloc (Obj.cells c2 t2))) (Obj.cells c3 t3)
  refine ⟨b0.gr hgx, b1.gr hgx, ?_, Gr.tr hg hgx⟩
  have hs : ((w.alloc (Obj.cells c1 t1)).alloc (Obj.cells c2 t2)).heap.size = w.heap.size + 1 + 1 := by simp only [al_size]
  have := Bk.new ((w.alloc (Obj.cells c1 t1)).alloc (Obj.cells c2 t2)) t3 c3 (0, 0)
  rw [hs] at this
  exact this
set_option maxHeartbeats 4000000 in
theorem asOpen_no (f t : Int) (w : World) (h : t ≠ 4611686018427387904) : Calls Tryz.prog 42 #[.agg #[str [], .int .i64 f, .int .i64 t]] w fun e w' => e = .returned (.bool false) ∧ Gr w w' := by
  have k4 : (t == 4611686018427387904) = false := by simpa using h
  have hb := Bk.new w 51 #[str [], .int .i64 f, .int .i64 t] (0, 0)
  have hG := Gr.al (Gr.refl w) (Obj.cells #[str [], .int .i64 f, .int .i64 t] 51)
  clear h
  go_enter Tryz.func42, Tryz.ntmps42
  go_upto_region 1 with fail
  generalize w.alloc (Obj.cells #[str [], .int .i64 f, .int .i64 t] 51) = w0 at *
  generalize w.heap.size = g at *
  have y0 : w0.cell? ⟨g, 0, none⟩ = some (str []) := hb.cell 0
  have y2 : w0.cell? ⟨g, 2, none⟩ = some (.int .i64 t) := hb.cell 2
  clear hb
  go_wp2_with fail
  go_ret
  exact ⟨rfl, hG⟩
set_option maxHeartbeats 16000000 in
set_option maxRecDepth 100000 in
theorem asReady_any (p : PartT) (v : Value) (S : List SpT) (w : World) (hu : Spans w v S) (hl : S.length ≤ 1000000) : Calls Tryz.prog 48 #[.agg #[str p.1, .int .i64 p.2.1, .int .i64 p.2.2], .agg #[v]] w fun e w' => e = .returned (readyV (readyL S p)) ∧ Gr w w' := by
  obtain ⟨tx, pf, pt⟩ := p
  have HF := Lib.hid (fun (x : World) (g : Gr w x) => setFirst_any v S pf x (hu.gr g) hl)
  have HR := Lib.hid (show readyL S (tx, pf, pt) = if tx ≠ [] then some (tx, pf, pt) else match firstS S pf with | none => none | some run => if run.1 ≠ pf then none else some ([], pf, min pt run.2) from rfl)
  generalize readyL S (tx, pf, pt) = RL at *
  generalize firstS S pf = FZ at *
  obtain ⟨A, c, rfl, _, _, _⟩ := id hu.open
  simp only
  obtain ⟨b0, b1, b2, hg3⟩ := box3t w #[str tx, .int .i64 pf, .int .i64 pt] #[.slice A S.length c] #[str [], .int .i64 0, .int .i64 0] 51 45 51
  clear hu
  go_enter Tryz.func48, Tryz.ntmps48
  go_upto_region 1 with fail
  refine at_world (P := Code.wp _ _ _ _) (w0 := ((w.alloc (Obj.cells #[str tx, .int .i64 pf, .int .i64 pt] 51)).alloc (Obj.cells #[.slice A S.length c] 45)).alloc (Obj.cells #[str [], .int .i64 0, .int .i64 0] 51)) ?_
  intro w3 hw3
  rw [← hw3] at b0 b1 b2 hg3
  clear hw3
  generalize hgq : w.heap.size = g at *
  have HLO := Lib.hid (show w.heap.size ≤ g from by omega)
  have HLO2 := Lib.hid (show w.heap.size ≤ g + 1 + 1 from by omega)
  have HG3 := Lib.hid hg3
  have HB0 := Lib.hid b0
  have HB2 := Lib.hid b2
  obtain ⟨x0, x1, x2⟩ := b0.cells3
  obtain ⟨e0, e1, e2⟩ := b0.free3
  obtain ⟨z0, z1, z2⟩ := b2.cells3
  obtain ⟨f0, f1, f2⟩ := b2.free3
  have q0 : w3.cell? ⟨g + 1, 0, none⟩ = some (.slice A S.length c) := b1.cell 0
  clear b0 b1 b2 hg3 hgq
  cases kt : tx.isEmpty with
  | false =>
    have htx : tx ≠ [] := by intro h; rw [h] at kt; cases kt
    have HE := Lib.hid (show RL = some (tx, pf, pt) from by rw [HR.out, if_pos htx])
    clear HR htx HF
    go_wp2_with fail
    refine at_world (P := bodyPost _ _ _ _ _) (w0 := putCs w3 (g + 1 + 1) [str tx, .int .i64 pf, .int .i64 pt] 0) ?_
    intro wy hwy
    have hy : Bk wy (g + 1 + 1) 51 #[str tx, .int .i64 pf, .int .i64 pt] (0, 0) := by rw [hwy]; exact putCs_bk (HB2.out) rfl
    obtain ⟨u0, u1, u2⟩ := hy.cells3
    refine bodyPost_ret (v := .tuple #[.agg #[str tx, .int .i64 pf, .int .i64 pt], .bool true]) (by simp [results, Tryz.results48, go_sem, u0, u1, u2]) rfl ⟨by rw [HE.out]; rfl, ?_⟩
    rw [hwy]; exact putCs_gr HLO2.out _ _ _ (HG3.out)
  | true =>
    obtain rfl : tx = [] := List.isEmpty_iff.1 kt
    clear kt
    cases FZ with
    | none =>
      have HE := Lib.hid (show RL = none from by rw [HR.out, if_neg (by simp)])
      have HF := Lib.hid (fun (x : World) (g : Gr w x) => show Calls Tryz.prog 108 #[.agg #[.slice A S.length c], .int .i64 pf] x (fun e w' => e = .returned (.tuple #[.agg #[.int .i64 0, .int .i64 0], .bool false]) ∧ Gr x w') from HF.out x g)
      clear HR
      go_upto_region 4 with (go_at_call 108; refine (HF.out _ HG3.out).mono ?_; rintro e w4 ⟨rfl, h4⟩)
      obtain ⟨hgb, y0, y1⟩ := box2 w4 (.int .i64 0) (.int .i64 0) 48
      refine at_world (P := Code.wp _ _ _ _) (w0 := w4.alloc (Obj.cells #[.int .i64 0, .int .i64 0] 48)) ?_
      intro w5 hw5
      rw [← hw5] at hgb y0 y1
      clear hw5
      generalize w4.heap.size = gm at *
      have h5 := Gr.tr h4 hgb
      have HB5 := Lib.hid (HB2.out.gr h5)
      have HG5 := Lib.hid (Gr.tr HG3.out h5)
      have x0 := h5.cell x0
      have x1 := h5.cell x1
      have x2 := h5.cell x2
      have e2 := (HB0.out.gr h5).free3.2.2
      obtain ⟨f0, f1, f2⟩ := HB5.out.free3
      obtain ⟨z0, z1, z2⟩ := HB5.out.cells3
      clear h4 hgb q0
      go_wp2_with fail
      refine at_world (P := bodyPost _ _ _ _ _) (w0 := putCs w5 (g + 1 + 1) [str [], .int .i64 0, .int .i64 0] 0) ?_
      intro wy hwy
      have hy : Bk wy (g + 1 + 1) 51 #[str [], .int .i64 0, .int .i64 0] (0, 0) := by rw [hwy]; exact putCs_bk (HB5.out) rfl
      obtain ⟨u0, u1, u2⟩ := hy.cells3
      refine bodyPost_ret (v := .tuple #[.agg #[str [], .int .i64 0, .int .i64 0], .bool false]) (by simp [results, Tryz.results48, go_sem, u0, u1, u2]) rfl ⟨by rw [HE.out]; rfl, ?_⟩
      rw [hwy]; exact putCs_gr HLO2.out _ _ _ (HG5.out)
    | some run =>
      obtain ⟨rf, rt⟩ := run
      have HF := Lib.hid (fun (x : World) (g : Gr w x) => show Calls Tryz.prog 108 #[.agg #[.slice A S.length c], .int .i64 pf] x (fun e w' => e = .returned (.tuple #[.agg #[.int .i64 rf, .int .i64 rt], .bool true]) ∧ Gr x w') from HF.out x g)
      by_cases hrf : rf = pf
      · have HE := Lib.hid (show RL = some ([], pf, min pt rt) from by rw [HR.out, if_neg (by simp)]; simp only; rw [if_neg (by simp [hrf])])
        have kr : (rf != pf) = false := by simp [hrf]
        clear HR hrf
        go_upto_region 4 with (go_at_call 108; refine (HF.out _ HG3.out).mono ?_; rintro e w4 ⟨rfl, h4⟩)
        obtain ⟨hgb, y0, y1⟩ := box2 w4 (.int .i64 rf) (.int .i64 rt) 48
        refine at_world (P := Code.wp _ _ _ _) (w0 := w4.alloc (Obj.cells #[.int .i64 rf, .int .i64 rt] 48)) ?_
        intro w5 hw5
        rw [← hw5] at hgb y0 y1
        clear hw5
        generalize w4.heap.size = gm at *
        have h5 := Gr.tr h4 hgb
        have HB5 := Lib.hid (HB2.out.gr h5)
        have HG5 := Lib.hid (Gr.tr HG3.out h5)
        have x0 := h5.cell x0
        have x1 := h5.cell x1
        have x2 := h5.cell x2
        have e2 := (HB0.out.gr h5).free3.2.2
        obtain ⟨f0, f1, f2⟩ := HB5.out.free3
        obtain ⟨z0, z1, z2⟩ := HB5.out.cells3
        clear h4 hgb q0
        go_upto_region 7 with fail
        refine at_world (P := Code.wp _ _ _ _) (w0 := w5.setCell ⟨g, 2, none⟩ (.int .i64 (min pt rt))) ?_
        intro w6 hw6
        have hb6 : Bk w6 g 51 #[str [], .int .i64 pf, .int .i64 (min pt rt)] (0, 0) := by rw [hw6]; exact (HB0.out.gr h5).set 2 _
        have HB6 := Lib.hid (show Bk w6 (g + 1 + 1) 51 #[str [], .int .i64 0, .int .i64 0] (0, 0) from by rw [hw6]; exact HB5.out.far (p := ⟨g, 2, none⟩) (by simp only; omega) _)
        have HG6 := Lib.hid (show Gr w w6 from by rw [hw6]; exact HG5.out.st (p := ⟨g, 2, none⟩) HLO.out _)
        obtain ⟨x3, x4, x5⟩ := hb6.cells3
        obtain ⟨z3, z4, z5⟩ := HB6.out.cells3
        obtain ⟨f3, f4, f5⟩ := HB6.out.free3
        clear hw6 hb6 x0 x1 x2 e0 e1 e2 z0 z1 z2 f0 f1 f2 y0 y1 h5
        go_wp2_with fail
        refine at_world (P := bodyPost _ _ _ _ _) (w0 := putCs w6 (g + 1 + 1) [str [], .int .i64 pf, .int .i64 (min pt rt)] 0) ?_
        intro wy hwy
        have hy : Bk wy (g + 1 + 1) 51 #[str [], .int .i64 pf, .int .i64 (min pt rt)] (0, 0) := by rw [hwy]; exact putCs_bk (HB6.out) rfl
        obtain ⟨u0, u1, u2⟩ := hy.cells3
        refine bodyPost_ret (v := .tuple #[.agg #[str [], .int .i64 pf, .int .i64 (min pt rt)], .bool true]) (by simp [results, Tryz.results48, go_sem, u0, u1, u2]) rfl ⟨by rw [HE.out]; rfl, ?_⟩
        rw [hwy]; exact putCs_gr HLO2.out _ _ _ (HG6.out)
      · have HE := Lib.hid (show RL = none from by rw [HR.out, if_neg (by simp)]; simp only; rw [if_pos hrf])
        have kr : (rf != pf) = true := by simp [hrf]
        clear HR hrf
        go_upto_region 4 with (go_at_call 108; refine (HF.out _ HG3.out).mono ?_; rintro e w4 ⟨rfl, h4⟩)
        obtain ⟨hgb, y0, y1⟩ := box2 w4 (.int .i64 rf) (.int .i64 rt) 48
        refine at_world (P := Code.wp _ _ _ _) (w0 := w4.alloc (Obj.cells #[.int .i64 rf, .int .i64 rt] 48)) ?_
        intro w5 hw5
        rw [← hw5] at hgb y0 y1
        clear hw5
        generalize w4.heap.size = gm at *
        have h5 := Gr.tr h4 hgb
        have HB5 := Lib.hid (HB2.out.gr h5)
        have HG5 := Lib.hid (Gr.tr HG3.out h5)
        have x0 := h5.cell x0
        have x1 := h5.cell x1
        have x2 := h5.cell x2
        have e2 := (HB0.out.gr h5).free3.2.2
        obtain ⟨f0, f1, f2⟩ := HB5.out.free3
        obtain ⟨z0, z1, z2⟩ := HB5.out.cells3
        clear h4 hgb q0
        go_wp2_with fail
        refine at_world (P := bodyPost _ _ _ _ _) (w0 := putCs w5 (g + 1 + 1) [str [], .int .i64 0, .int .i64 0] 0) ?_
        intro wy hwy
        have hy : Bk wy (g + 1 + 1) 51 #[str [], .int .i64 0, .int .i64 0] (0, 0) := by rw [hwy]; exact putCs_bk (HB5.out) rfl
        obtain ⟨u0, u1, u2⟩ := hy.cells3
        refine bodyPost_ret (v := .tuple #[.agg #[str [], .int .i64 0, .int .i64 0], .bool false]) (by simp [results, Tryz.results48, go_sem, u0, u1, u2]) rfl ⟨by rw [HE.out]; rfl, ?_⟩
        rw [hwy]; exact putCs_gr HLO2.out _ _ _ (HG5.out)
/-! ### a body is made -/
theorem elemPart3 : ElemOk Tryz.prog 35 51 (.agg #[str [], .int .i64 0, .int .i64 0]) 3 32 := elemPart
/-- a body that is made: its box, and the row of its parts -/
structure NewG (W : World) (gb : Nat) (L : List PartT) (x : World) : Prop where
  gr : Gr W x
  lo : W.heap.size ≤ gb
  row : ∃ v, Bk x gb 101 #[v, .int .i64 0] (0, 0) ∧ Own W x 51 3 v L.length (partsV L)
theorem NewG.to {W : World} {gb : Nat} {L : List PartT} {x x' : World} (h : NewG W gb L x) (g : Gr x x') : NewG W gb L x' := by
  obtain ⟨v, h1, h2⟩ := h.row
  exact ⟨Gr.tr h.gr g, h.lo, v, h1.gr g, h2.gr g⟩
theorem partNeB : (101 : Nat) ≠ 51 := by decide
theorem newG_app {W x : World} {gb : Nat} {L : List PartT} (h : NewG W gb L x) {v : Value} (hb : Bk x gb 101 #[v, .int .i64 0] (0, 0)) (hown : Own W x 51 3 v L.length (partsV L)) {v' : Value} {x' : World} {p : PartT} (hown' : Own W x' 51 3 v' (L.length + 1) (partsV L ++ [str p.1, .int .i64 p.2.1, .int .i64 p.2.2])) (happ : App v v' x x') :
    Bk x' gb 101 #[v, .int .i64 0] (0, 0) ∧ NewG W gb (L ++ [p]) (x'.setCell ⟨gb, 0, none⟩ v') := by
  have hb' : Bk x' gb 101 #[v, .int .i64 0] (0, 0) := (happ.grown.block gb hb.lt (Ne.symm (own_ne_ty hown hb partNeB))).trans hb
  refine ⟨hb', ⟨Gr.st (happ.gr h.gr hown) h.lo _, h.lo, _, by simpa using hb'.set 0 v', ?_⟩⟩
  have hst := Own.set hown' (own_ne_ty hown' hb' partNeB) 0 v'
  rw [partsV_app, List.length_append]
  exact hst
def NewEndA (l : List PartT) (w : World) (e : Ending) (w' : World) : Prop := ∃ gb, e = .returned (.tuple #[.pointer (some ⟨gb, 0, none⟩), .int .i64 0]) ∧ NewG w gb l w'
set_option maxHeartbeats 16000000 in
set_option maxRecDepth 100000 in
theorem asNew_any (u : Value) (l : List PartT) (obj : List UInt8) (w : World) (hu : Parts w u l) (hin : PartsIn obj l) (hz : Norm l) (ho : obj.length ≤ 1000000) (hl : l.length ≤ 1000) : Calls Tryz.prog 10 #[u] w (NewEndA l w) := by
  obtain ⟨A, c, rfl, hc, hm, hA⟩ := hu.open
  have HA := Lib.hid hA
  have HIN := Lib.hid (fun (k : Nat) (h : k < l.length) => hin _ (List.getElem_mem h))
  have HZ := Lib.hid (fun (k : Nat) (h : k < l.length) => hz _ (List.getElem_mem h))
  have HTS := Lib.hid (fun (k : Nat) (h : k < l.length) => take_snoc l k h)
  have HSR := Lib.hid (fun (f t : Int) (x : World) => spanRight_any f t x)
  have hb := Bk.new w 101 #[.slice none 0 0, .int .i64 0] (0, 0)
  have hG := Gr.al (Gr.refl w) (Obj.cells #[.slice none 0 0, .int .i64 0] 101)
  clear hA hu hin hz
  go_enter Tryz.func10, Tryz.ntmps10
  go_upto_region 2 with fail
  refine at_world (P := Code.wp _ _ _ _) (w0 := w.alloc (Obj.cells #[.slice none 0 0, .int .i64 0] 101)) ?_
  intro w0 hw0
  rw [← hw0] at hb hG
  clear hw0
  generalize hgq : w.heap.size = gb at *
  have HN0 := Lib.hid (show NewG w gb [] w0 from ⟨hG, Nat.le_of_eq hgq, _, hb, Own.nil _ _ _ _⟩)
  clear hb hG hgq
  go_wp2_with fail
  go_loopw [5, 6, 11] (fun x5 x6 i wr => ∃ k : Nat, k ≤ l.length ∧ i = .int .i64 k ∧ NewG w gb (l.take k) wr) (fun _ _ i _ => l.length - (intOf i).toNat)
  case atStart => exact ⟨0, Nat.zero_le _, rfl, HN0.out⟩
  case round =>
    obtain ⟨k, hk, rfl, hN⟩ := hrel
    have HN := Lib.hid hN
    clear hN HN0
    by_cases hlt : k < l.length
    · obtain ⟨b1, o1, rfl, hb1, p0, p1, p2⟩ := HA.out k hlt
      have p0 := Gr.cell HN.out.gr p0; have p1 := Gr.cell HN.out.gr p1; have p2 := Gr.cell HN.out.gr p2
      have hi := HIN.out k hlt
      have hzz := HZ.out k hlt
      have HT := Lib.hid (HTS.out k hlt)
      have HLK := Lib.hid (show (l.take k).length = k from by rw [List.length_take]; omega)
      generalize l[k] = p at *
      obtain ⟨tx, pf, pt⟩ := p
      simp only at p0 p1 p2 hi hzz
      have HI := Lib.hid hi; have HZZ := Lib.hid hzz
      clear hi hzz
      go_upto_region 5 with fail
      have hbp := Bk.new wr 51 #[str tx, .int .i64 pf, .int .i64 pt] (0, 0)
      have hGb := Gr.al (Gr.refl wr) (Obj.cells #[str tx, .int .i64 pf, .int .i64 pt] 51)
      refine at_world (P := Code.wp _ _ _ _) (w0 := wr.alloc (Obj.cells #[str tx, .int .i64 pf, .int .i64 pt] 51)) ?_
      intro wb hwb
      rw [← hwb] at hbp hGb
      have HNB := Lib.hid (HN.out.to hGb)
      have HGB := Lib.hid hGb
      have HLB := Lib.hid (show w.heap.size ≤ wr.heap.size from HN.out.gr.size)
      clear hwb hGb p0 p1 p2
      generalize hgp : wr.heap.size = gp at *
      have HGP := Lib.hid hgp
      clear hgp
      obtain ⟨y0, y1, y2⟩ := hbp.cells3
      obtain ⟨e0, e1, e2⟩ := hbp.free3
      have HBP := Lib.hid hbp
      clear hbp
      go_upto_if 18 with fail
      go_cut [] (fun wx => NewG w gb (l.take k) wx ∧ Bk wx gp 51 #[str tx, .int .i64 pf, .int .i64 pt] (0, 0))
      case first =>
        cases kt : tx.isEmpty with
        | false =>
          have htx : tx ≠ [] := by intro h; rw [h] at kt; cases kt
          have hz2 := HZZ.out htx
          simp only [Prod.mk.injEq] at hz2
          obtain ⟨rfl, rfl⟩ := hz2
          clear htx
          go_wp2_with fail
          go_meet
          exact ⟨HN.out.to (Gr.st (Gr.st HGB.out (Nat.le_of_eq HGP.out) _) (Nat.le_of_eq HGP.out) _), by simpa using (HBP.out.set 1 (.int .i64 0)).set 2 (.int .i64 0)⟩
        | true =>
          obtain rfl : tx = [] := List.isEmpty_iff.1 kt
          obtain ⟨i0, i1, i2⟩ := HI.out rfl
          have hsp : spanB pf pt = true := by unfold spanB; simp; omega
          have HS1 := Lib.hid (fun (x : World) => show Calls Tryz.prog 41 #[.agg #[.int .i64 pf, .int .i64 pt]] x (fun e w' => e = .returned (.bool true) ∧ Gr x w') from by have := HSR.out pf pt x; rwa [hsp] at this)
          have HO1 := Lib.hid (fun (x : World) => asOpen_no pf pt x (by omega))
          have kn : (pf == pt) = false := by rw [beq_eq_false_iff_ne]; omega
          clear kt hsp
          go_wp2_with (first
            | (go_at_call 41; refine (HS1.out _).mono ?_; rintro e w1 ⟨rfl, h1⟩; have y0 := h1.cell y0; have y1 := h1.cell y1; have y2 := h1.cell y2)
            | (go_at_call 42; refine (HO1.out _).mono ?_; rintro e w2 ⟨rfl, h2⟩; have HG2 := Lib.hid (Gr.tr h1 h2)))
          go_meet
          exact ⟨HNB.out.to HG2.out, HBP.out.gr HG2.out⟩
      case rest =>
      obtain ⟨hN2, hbp⟩ := hcut
      have HN2 := Lib.hid hN2
      have HBP := Lib.hid hbp
      obtain ⟨v, hb, hown⟩ := hN2.row
      obtain ⟨A9, c9, rfl⟩ := hown.form
      have HB := Lib.hid hb
      have HO := Lib.hid hown
      obtain ⟨L, hL⟩ : ∃ L, L = l.take k := ⟨_, rfl⟩
      rw [← hL] at HB HO HN2 HT HLK
      have hLk : L.length ≤ 1000 := by have := HLK.out; omega
      clear hN2 hbp hb hown hL HN HNB HGB HGP y0 y1 y2 e0 e1 e2 HI HZZ
      have HTAIL := Lib.hid (show ∀ (wa : World), Gr wc wa → ∀ v' x', Own w x' 51 3 v' (L.length + 1) (partsV L ++ [str tx, .int .i64 pf, .int .i64 pt]) → App (.slice A9 L.length c9) v' wa x' →
          Bk x' gb 101 #[.slice A9 L.length c9, .int .i64 0] (0, 0) ∧ Gr w x' ∧ ∀ we, Gr x' we → NewG w gb (L ++ [(tx, pf, pt)]) (we.setCell ⟨gb, 0, none⟩ v') from by
        intro wa hga v' x' hown' happ
        obtain ⟨hb', -⟩ := newG_app (p := (tx, pf, pt)) (HN2.out.to hga) (HB.out.gr hga) (HO.out.gr hga) hown' happ
        refine ⟨hb', happ.gr (HN2.out.to hga).gr (HO.out.gr hga), fun we hge => ?_⟩
        obtain ⟨-, hP⟩ := newG_app (p := (tx, pf, pt)) (HN2.out.to hga) (HB.out.gr hga) (HO.out.gr hga) (hown'.gr hge) ⟨by_tr happ.grown hge, happ.at_⟩
        exact hP)
      go_upto_region 9 with fail
      refine wp_region_mix0 [0, 1, 2, 3] none 7 (HN2.out.gr.by none) (by kernel_rfl) rfl (by kernel_rfl) (fun o _ _ _ _ h => by cases o <;> exact h) ?_
      simp only [pickOps, List.filterMap_cons, List.filterMap_nil, List.getElem?_cons_zero, List.getElem?_cons_succ]
      repeat (first | (refine wpGq_step (fun K hK => ?_); go_simp; refine hK _ ?_; clear hK K) | (refine wpGq_step (fun K hK => ?_); go_simp; simp only [↓IntWalk.iteOmega]; go_simp; refine hK _ ?_; clear hK K))
      refine wpGq_nil ?_
      refine wpG_two 4 5 (by kernel_rfl) rfl rfl rfl rfl (fun K hK wa hgwa => ?_) (fun K hK wa hgwa => ?_)
      · have g1 := hgwa
        have q : wa.cell? ⟨gb, 0, none⟩ = some (.slice A9 L.length c9) := (HB.out.gr g1).cell 0
        go_simp
        refine hK _ _ ((Gr.tr HN2.out.gr g1).by _) ?_
        clear hK K q
        refine wpG_one 5 (by kernel_rfl) rfl rfl (fun K hK w5q hgw5q => ?_)
        have g2 := Gr.tr g1 hgw5q
        obtain ⟨y0, y1, y2⟩ := (HBP.out.gr g2).cells3
        go_simp
        refine hK _ _ ((Gr.tr HN2.out.gr g2).by _) ?_
        clear hK K y0 y1 y2
        refine wpG_one 6 (by kernel_rfl) rfl rfl (fun K hK w6q hgw6q => ?_)
        have g3 := Gr.tr g2 hgw6q
        go_simp
        refine hK _ _ ((Gr.al (Gr.tr HN2.out.gr g3) _).by _) ?_
        clear hK K
        have hs := sl_lit w6q 51 [str tx, .int .i64 pf, .int .i64 pt] 1 (by decide)
        have gl4 := Gr.al g3 (Obj.cells [str tx, .int .i64 pf, .int .i64 pt].toArray 51)
        generalize w6q.heap.size = B at *
        refine wpG_one 7 (by kernel_rfl) rfl rfl (fun K hK wd hgd => ?_)
        have hgw := Gr.tr gl4 hgd
        refine op_appS (W0 := w) (n := L.length) (m := 1) (xs := partsV L) (news := [str tx, .int .i64 pf, .int .i64 pt]) (u := .slice (some ⟨B, 0, none⟩) 1 1) elemPart3 _ _ rfl rfl rfl (HN2.out.to hgw).gr.size (HO.out.gr hgw) (Sl.gr hs hgd) rfl (by intro u hu; simp only [List.mem_cons, List.not_mem_nil, or_false] at hu; rcases hu with rfl | rfl | rfl <;> rfl) (by omega) (by omega) ?_
        intro v' x' hown' happ
        obtain ⟨hb', hgx, hT⟩ := HTAIL.out wd hgw v' x' hown' happ
        obtain ⟨A', c', rfl⟩ := hown'.form
        refine hK _ _ (hgx.by _) ?_
        clear hK K
        refine wpG_one 8 (by kernel_rfl) rfl rfl (fun K hK w8 hg8 => ?_)
        go_simp
        refine hK _ _ ((Gr.tr hgx hg8).by _) ?_
        clear hK K
        refine wpG_one 9 (by kernel_rfl) rfl rfl (fun K hK w9 hg9 => ?_)
        go_simp
        refine hK _ _ ((Gr.tr hgx (Gr.tr hg8 hg9)).by _) ?_
        clear hK K
        refine wpG_one 10 (by kernel_rfl) rfl rfl (fun K hK we hge' => ?_)
        have hge := Gr.tr hg8 (Gr.tr hg9 hge')
        have q' : we.cell? ⟨gb, 0, none⟩ = some (.slice A9 L.length c9) := (hb'.gr hge).cell 0
        have f' := (hb'.gr hge).free 0 (.inr (Nat.le_refl _))
        have hP := hT we hge
        go_simp
        refine hK _ _ (hP.gr.by _) ?_
        clear hK K
        refine wpG_done (by kernel_rfl) (fun wz hgz => ?_)
        have HFIN := Lib.hid (hP.to hgz)
        clear hP hT hb' hgx happ hown' q' f'
        go_wp2_with fail
        exact ⟨⟨k + 1, by omega, by go_num, by rw [HT.out]; exact HFIN.out⟩, by simp [intOf]; omega⟩
      · have g6 := hgwa
        obtain ⟨y0, y1, y2⟩ := (HBP.out.gr g6).cells3
        go_simp
        refine hK _ _ ((Gr.tr HN2.out.gr g6).by _) ?_
        clear hK K y0 y1 y2
        refine wpG_two 4 6 (by kernel_rfl) rfl rfl rfl rfl (fun K hK wb hgwb => ?_) (fun K hK wb hgwb => ?_)
        · have g7 := Gr.tr g6 hgwb
          have q : wb.cell? ⟨gb, 0, none⟩ = some (.slice A9 L.length c9) := (HB.out.gr g7).cell 0
          go_simp
          refine hK _ _ ((Gr.tr HN2.out.gr g7).by _) ?_
          clear hK K q
          refine wpG_one 6 (by kernel_rfl) rfl rfl (fun K hK w6q hgw6q => ?_)
          have g8 := Gr.tr g7 hgw6q
          go_simp
          refine hK _ _ ((Gr.al (Gr.tr HN2.out.gr g8) _).by _) ?_
          clear hK K
          have hs := sl_lit w6q 51 [str tx, .int .i64 pf, .int .i64 pt] 1 (by decide)
          have gl9 := Gr.al g8 (Obj.cells [str tx, .int .i64 pf, .int .i64 pt].toArray 51)
          generalize w6q.heap.size = B at *
          refine wpG_one 7 (by kernel_rfl) rfl rfl (fun K hK wd hgd => ?_)
          have hgw := Gr.tr gl9 hgd
          refine op_appS (W0 := w) (n := L.length) (m := 1) (xs := partsV L) (news := [str tx, .int .i64 pf, .int .i64 pt]) (u := .slice (some ⟨B, 0, none⟩) 1 1) elemPart3 _ _ rfl rfl rfl (HN2.out.to hgw).gr.size (HO.out.gr hgw) (Sl.gr hs hgd) rfl (by intro u hu; simp only [List.mem_cons, List.not_mem_nil, or_false] at hu; rcases hu with rfl | rfl | rfl <;> rfl) (by omega) (by omega) ?_
          intro v' x' hown' happ
          obtain ⟨hb', hgx, hT⟩ := HTAIL.out wd hgw v' x' hown' happ
          obtain ⟨A', c', rfl⟩ := hown'.form
          refine hK _ _ (hgx.by _) ?_
          clear hK K
          refine wpG_one 8 (by kernel_rfl) rfl rfl (fun K hK w8 hg8 => ?_)
          go_simp
          refine hK _ _ ((Gr.tr hgx hg8).by _) ?_
          clear hK K
          refine wpG_one 9 (by kernel_rfl) rfl rfl (fun K hK w9 hg9 => ?_)
          go_simp
          refine hK _ _ ((Gr.tr hgx (Gr.tr hg8 hg9)).by _) ?_
          clear hK K
          refine wpG_one 10 (by kernel_rfl) rfl rfl (fun K hK we hge' => ?_)
          have hge := Gr.tr hg8 (Gr.tr hg9 hge')
          have q' : we.cell? ⟨gb, 0, none⟩ = some (.slice A9 L.length c9) := (hb'.gr hge).cell 0
          have f' := (hb'.gr hge).free 0 (.inr (Nat.le_refl _))
          have hP := hT we hge
          go_simp
          refine hK _ _ (hP.gr.by _) ?_
          clear hK K
          refine wpG_done (by kernel_rfl) (fun wz hgz => ?_)
          have HFIN := Lib.hid (hP.to hgz)
          clear hP hT hb' hgx happ hown' q' f'
          go_wp2_with fail
          exact ⟨⟨k + 1, by omega, by go_num, by rw [HT.out]; exact HFIN.out⟩, by simp [intOf]; omega⟩
        · have g11 := Gr.tr g6 hgwb
          go_simp
          refine hK _ _ ((Gr.al (Gr.tr HN2.out.gr g11) _).by _) ?_
          clear hK K
          have hs := sl_lit wb 51 [str tx, .int .i64 pf, .int .i64 pt] 1 (by decide)
          have gl12 := Gr.al g11 (Obj.cells [str tx, .int .i64 pf, .int .i64 pt].toArray 51)
          generalize wb.heap.size = B at *
          refine wpG_one 4 (by kernel_rfl) rfl rfl (fun K hK w4q hgw4q => ?_)
          have g13 := Gr.tr gl12 hgw4q
          have hs := Sl.gr hs hgw4q
          have q : w4q.cell? ⟨gb, 0, none⟩ = some (.slice A9 L.length c9) := (HB.out.gr g13).cell 0
          go_simp
          refine hK _ _ ((Gr.tr HN2.out.gr g13).by _) ?_
          clear hK K q
          refine wpG_one 7 (by kernel_rfl) rfl rfl (fun K hK wd hgd => ?_)
          have hgw := Gr.tr g13 hgd
          refine op_appS (W0 := w) (n := L.length) (m := 1) (xs := partsV L) (news := [str tx, .int .i64 pf, .int .i64 pt]) (u := .slice (some ⟨B, 0, none⟩) 1 1) elemPart3 _ _ rfl rfl rfl (HN2.out.to hgw).gr.size (HO.out.gr hgw) (Sl.gr hs hgd) rfl (by intro u hu; simp only [List.mem_cons, List.not_mem_nil, or_false] at hu; rcases hu with rfl | rfl | rfl <;> rfl) (by omega) (by omega) ?_
          intro v' x' hown' happ
          obtain ⟨hb', hgx, hT⟩ := HTAIL.out wd hgw v' x' hown' happ
          obtain ⟨A', c', rfl⟩ := hown'.form
          refine hK _ _ (hgx.by _) ?_
          clear hK K
          refine wpG_one 8 (by kernel_rfl) rfl rfl (fun K hK w8 hg8 => ?_)
          go_simp
          refine hK _ _ ((Gr.tr hgx hg8).by _) ?_
          clear hK K
          refine wpG_one 9 (by kernel_rfl) rfl rfl (fun K hK w9 hg9 => ?_)
          go_simp
          refine hK _ _ ((Gr.tr hgx (Gr.tr hg8 hg9)).by _) ?_
          clear hK K
          refine wpG_one 10 (by kernel_rfl) rfl rfl (fun K hK we hge' => ?_)
          have hge := Gr.tr hg8 (Gr.tr hg9 hge')
          have q' : we.cell? ⟨gb, 0, none⟩ = some (.slice A9 L.length c9) := (hb'.gr hge).cell 0
          have f' := (hb'.gr hge).free 0 (.inr (Nat.le_refl _))
          have hP := hT we hge
          go_simp
          refine hK _ _ (hP.gr.by _) ?_
          clear hK K
          refine wpG_done (by kernel_rfl) (fun wz hgz => ?_)
          have HFIN := Lib.hid (hP.to hgz)
          clear hP hT hb' hgx happ hown' q' f'
          go_wp2_with fail
          exact ⟨⟨k + 1, by omega, by go_num, by rw [HT.out]; exact HFIN.out⟩, by simp [intOf]; omega⟩
    · have he : l.take k = l := List.take_of_length_le (by omega)
      rw [he] at HN
      clear he
      go_wp2_with fail
      go_ret2
      exact ⟨gb, rfl, HN.out⟩
end Go.Proofs.YtflepnkpihfidaaGreatDoor
namespace Go.Proofs.YtflepnkpihfidaaGreatDoor
open Go.RowKit
/-- a body that has parts left: its box, the row in which they lie -/
structure BdyR (W : World) (gb bl o c : Nat) (L : List PartT) (sent : Int) (x : World) : Prop where
  gr : Gr W x
  lo : W.heap.size ≤ gb
  ne : bl ≠ gb
  blo : W.heap.size ≤ bl
  body : Bk x gb 101 #[.slice (some ⟨bl, o, none⟩) L.length c, .int .i64 sent] (0, 0)
  cap : L.length ≤ c ∧ c ≤ 9223372036854775807
  row : ∃ cur, Bk x bl 51 cur (0, 0) ∧ ∀ (j : Nat) (u : Value), (partsV L)[j]? = some u → cur[o + j]? = some u
/-- a body without parts left -/
structure BdyE (W : World) (gb : Nat) (sent : Int) (x : World) : Prop where
  gr : Gr W x
  lo : W.heap.size ≤ gb
  body : ∃ A c, Bk x gb 101 #[.slice A 0 c, .int .i64 sent] (0, 0)
def BdyAt (W : World) (gb bl : Nat) (L : List PartT) (sent : Int) (x : World) : Prop := (L = [] ∧ BdyE W gb sent x) ∨ (L ≠ [] ∧ ∃ o c, BdyR W gb bl o c L sent x)
theorem BdyAt.to {W : World} {gb bl : Nat} {L : List PartT} {sent : Int} {x x' : World} (h : BdyAt W gb bl L sent x) (g : Gr x x') : BdyAt W gb bl L sent x' := by
  rcases h with ⟨h1, h2⟩ | ⟨h1, o, c, h2⟩
  · obtain ⟨A, c, hb⟩ := h2.body
    exact .inl ⟨h1, Gr.tr h2.gr g, h2.lo, A, c, hb.gr g⟩
  · obtain ⟨cur, hb, hr⟩ := h2.row
    exact .inr ⟨h1, o, c, Gr.tr h2.gr g, h2.lo, h2.ne, h2.blo, h2.body.gr g, h2.cap, cur, hb.gr g, hr⟩
/-- a body that was just made -/
theorem bdy_new {W : World} {gb : Nat} {L : List PartT} {x : World} (h : NewG W gb L x) : ∃ bl, BdyAt W gb bl L 0 x ∧ gb < x.heap.size ∧ (bl = gb ∨ bl < x.heap.size) ∧ W.heap.size ≤ bl := by
  obtain ⟨v, hb, ho⟩ := h.row
  by_cases hl : L = []
  · subst hl
    obtain ⟨A, c, rfl⟩ := ho.form
    exact ⟨gb, .inl ⟨rfl, h.gr, h.lo, A, c, hb⟩, hb.lt, .inl rfl, h.lo⟩
  · have hpos : 0 < L.length := List.length_pos_iff.2 hl
    have hne := own_ne_ty ho hb partNeB
    rcases ho.2 with ⟨hv, hn⟩ | ⟨bl, cap, cur, hv, hbl, hh, hc, hm, hz, ht⟩
    · omega
    · subst hv
      have hbk : Bk x bl 51 cur (0, 0) := hh
      refine ⟨bl, .inr ⟨hl, 0, cap, h.gr, h.lo, ?_, hbl, hb, ⟨hc, by unfold maxLen at hm; omega⟩, cur, hbk, fun j u hj => ?_⟩, hb.lt, .inr hbk.lt, hbl⟩
      · intro e; exact hne (by simp [Value.ownBlock, e])
      · rw [← ht, List.getElem?_take] at hj
        split at hj
        · rw [Nat.zero_add, ← Array.getElem?_toList]; exact hj
        · cases hj
theorem partsV_cons (p : PartT) (r : List PartT) : partsV (p :: r) = str p.1 :: .int .i64 p.2.1 :: .int .i64 p.2.2 :: partsV r := rfl
theorem row_head {cur : Array Value} {o : Nat} {p : PartT} {r : List PartT} (h : ∀ (j : Nat) (u : Value), (partsV (p :: r))[j]? = some u → cur[o + j]? = some u) (tx : List UInt8) : ∀ (j : Nat) (u : Value), (partsV ((tx, p.2) :: r))[j]? = some u → (cur.setIfInBounds o (str tx))[o + j]? = some u := by
  intro j u hj
  have h0 := h 0 (str p.1) (by rw [partsV_cons]; rfl)
  have hlt : o < cur.size := by
    rcases Nat.lt_or_ge o cur.size with hh | hh
    · exact hh
    · rw [Nat.add_zero, Array.getElem?_eq_none hh] at h0; cases h0
  cases j with
  | zero =>
    rw [partsV_cons] at hj
    simp only [List.getElem?_cons_zero, Option.some.injEq] at hj
    rw [Nat.add_zero, Array.getElem?_setIfInBounds_self_of_lt hlt, hj]
  | succ j =>
    rw [Array.getElem?_setIfInBounds_ne (by omega)]
    refine h (j + 1) u ?_
    rw [partsV_cons] at hj ⊢
    simpa using hj
theorem row_from {cur : Array Value} {o : Nat} {p : PartT} {r : List PartT} (h : ∀ (j : Nat) (u : Value), (partsV (p :: r))[j]? = some u → cur[o + j]? = some u) (f : Int) : ∀ (j : Nat) (u : Value), (partsV ((p.1, f, p.2.2) :: r))[j]? = some u → (cur.setIfInBounds (o + 1) (.int .i64 f))[o + j]? = some u := by
  intro j u hj
  have h0 := h 1 (.int .i64 p.2.1) (by rw [partsV_cons]; rfl)
  have hlt : o + 1 < cur.size := by
    rcases Nat.lt_or_ge (o + 1) cur.size with hh | hh
    · exact hh
    · rw [Array.getElem?_eq_none hh] at h0; cases h0
  rcases j with _ | _ | j
  · rw [Array.getElem?_setIfInBounds_ne (by omega)]
    refine h 0 u ?_
    rw [partsV_cons] at hj ⊢
    simpa using hj
  · rw [partsV_cons] at hj
    simp only [Nat.zero_add, List.getElem?_cons_succ, List.getElem?_cons_zero, Option.some.injEq] at hj
    rw [Nat.zero_add, Array.getElem?_setIfInBounds_self_of_lt hlt, hj]
  · rw [Array.getElem?_setIfInBounds_ne (by omega)]
    refine h (j + 1 + 1) u ?_
    rw [partsV_cons] at hj ⊢
    simpa using hj
theorem row_tail {cur : Array Value} {o : Nat} {p : PartT} {r : List PartT} (h : ∀ (j : Nat) (u : Value), (partsV (p :: r))[j]? = some u → cur[o + j]? = some u) : ∀ (j : Nat) (u : Value), (partsV r)[j]? = some u → cur[o + 3 + j]? = some u := by
  intro j u hj
  have := h (j + 3) u (by rw [partsV_cons]; simpa using hj)
  rw [show o + 3 + j = o + (j + 3) from by omega]; exact this
theorem sizePart (w : World) : (sizeOf (Tryz.prog.elem 35)).run Tryz.prog w = .ok 3 w := by
  simp [sizeOf, typeInfo]; kernel_rfl
theorem elemTPart : Tryz.prog.underlying 35 = some (.slice (Tryz.prog.elem 35)) := by kernel_rfl
/-- l[1:] of parts -/
theorem slPartLo {ops : Array Oper} {rest : List Oper} {o : Oper} {a : Act} {Q : Exit → Act → World → Prop} {w : World} {b f n c : Nat} (x y : Operand) (hgd : o.guard = none) (ho : o.op = .slice 35 x (some y) none none) (hx : a.eval x = .slice (some ⟨b, f, none⟩) (n + 1) c) (hy : a.eval y = .int .i64 1) (hc : n + 1 ≤ c)
    (h : ∀ f2, (1 ≤ n → f2 = f + 3) → wpList Tryz.prog ops Q rest (a.put o.dst (.slice (some ⟨b, f2, none⟩) n (c - 1))) w) : wpList Tryz.prog ops Q (o :: rest) a w := by
  have e : sliced (some ⟨b, f, none⟩) 1 (n + 1) c 3 = .slice (some ⟨b, if c = 1 then f else f + 3, none⟩) n (c - 1) := by
    unfold sliced
    by_cases h1 : c = 1
    · simp [h1]
    · simp [h1, Addr.add]
  refine wpList_run hgd ?_ (h (if c = 1 then f else f + 3) (fun hn => if_neg (by omega)))
  unfold execOp
  simp only [ho, hx, hy, Option.map_some, Option.map_none, Sem.run_bind, run_sliceAt_slice w _ _ _ _ _ elemTPart, run_slice_l w _ _ _ _ elemTPart .i64 1 (by omega) (show (1 : Int) ≤ ((n + 1 : Nat) : Int) by omega), sizePart, Result.andThen_ok, Sem.run_pure, Int.toNat_one, e]
/-- how a telling ends -/
def NextC (W : World) (gb bl : Nat) (R : Option (PartT × List PartT × Int)) (L : List PartT) (sent : Int) (x : World) (e : Ending) (x' : World) : Prop :=
  Kr [gb, bl] x.heap.size x x' ∧ match R with
  | none => e = .returned (.tuple #[.agg #[str [], .int .i64 0, .int .i64 0], .bool false]) ∧ BdyAt W gb bl L sent x'
  | some r => e = .returned (.tuple #[.agg #[str r.1.1, .int .i64 r.1.2.1, .int .i64 r.1.2.2], .bool true]) ∧ BdyAt W gb bl r.2.1 (sent + r.2.2) x'
theorem bk_bz {w w' : World} {g : Nat} {t : TypeId} {cs : Array Value} {fr : Nat × Nat} {r : Option Nat} (h : Bk w g t cs fr) (k : w.grownBy w' r) (hne : some g ≠ r) : Bk w' g t cs fr := (k.block g h.lt hne).trans h
theorem kr_start {S : List Nat} {x x' : World} (g : Gr x x') : Kr S x.heap.size x x' := (Kr.refl (Nat.le_refl _)).gr g
set_option maxHeartbeats 16000000 in
set_option maxRecDepth 100000 in
theorem asNext_none (W x : World) (gb bl : Nat) (sent most : Int) (v : Value) (S : List SpT) (hB : BdyAt W gb bl [] sent x) (hu : Spans x v S) : Calls Tryz.prog 14 #[.pointer (some ⟨gb, 0, none⟩), .agg #[v], .int .i64 most] x (NextC W gb bl none [] sent x) := by
  rcases hB with ⟨-, hE⟩ | ⟨h, -⟩
  case inr => exact absurd rfl h
  obtain ⟨A, c, hb⟩ := hE.body
  obtain ⟨A2, c2, rfl, _, _, _⟩ := id hu.open
  have HE := Lib.hid hE
  obtain ⟨b0, b1, hG0⟩ := two_box x #[.slice A2 S.length c2] #[str [], .int .i64 0, .int .i64 0] 45 51
  clear hu hE
  go_enter Tryz.func14, Tryz.ntmps14
  go_upto_region 1 with fail
  refine at_world (P := Code.wp _ _ _ _) (w0 := (x.alloc (Obj.cells #[.slice A2 S.length c2] 45)).alloc (Obj.cells #[str [], .int .i64 0, .int .i64 0] 51)) ?_
  intro w0 hw0
  rw [← hw0] at b0 b1 hG0
  clear hw0
  generalize hgq : x.heap.size = g at *
  have HLO := Lib.hid (show x.heap.size ≤ g + 1 from by omega)
  have HG0 := Lib.hid hG0
  have HB1 := Lib.hid b1
  have hb0 := hb.gr hG0
  have y0 : w0.cell? ⟨gb, 0, none⟩ = some (.slice A 0 c) := hb0.cell 0
  obtain ⟨z0, z1, z2⟩ := b1.cells3
  obtain ⟨f0, f1, f2⟩ := b1.free3
  clear b0 b1 hG0 hb hb0 hgq
  go_wp2_with fail
  refine at_world (P := bodyPost _ _ _ _ _) (w0 := putCs w0 (g + 1) [str [], .int .i64 0, .int .i64 0] 0) ?_
  intro wy hwy
  have hy : Bk wy (g + 1) 51 #[str [], .int .i64 0, .int .i64 0] (0, 0) := by rw [hwy]; exact putCs_bk HB1.out rfl
  have hg : Gr x wy := by rw [hwy]; exact putCs_gr HLO.out _ _ _ HG0.out
  obtain ⟨u0, u1, u2⟩ := hy.cells3
  refine bodyPost_ret (v := .tuple #[.agg #[str [], .int .i64 0, .int .i64 0], .bool false]) (by simp [results, Tryz.results14, go_sem, u0, u1, u2]) rfl ?_
  exact ⟨kr_start hg, rfl, BdyAt.to (.inl ⟨rfl, HE.out⟩) hg⟩
set_option maxHeartbeats 32000000 in
set_option maxRecDepth 100000 in
theorem asNext_some (W x : World) (gb bl : Nat) (p : PartT) (r : List PartT) (sent most : Int) (v : Value) (S : List SpT) (hB : BdyAt W gb bl (p :: r) sent x) (hu : Spans x v S) (hl : S.length ≤ 1000000) (hm : 1 ≤ most ∧ most ≤ 1000) (hse : 0 ≤ sent ∧ sent ≤ 1000000) (htx : p.1.length ≤ 1000000) (hsp : p.1 = [] → 0 ≤ p.2.1 ∧ p.2.1 < p.2.2 ∧ p.2.2 ≤ 1000000) :
    Calls Tryz.prog 14 #[.pointer (some ⟨gb, 0, none⟩), .agg #[v], .int .i64 most] x (NextC W gb bl (nextL (p :: r) S most) (p :: r) sent x) := by
  rcases hB with ⟨h, -⟩ | ⟨-, o, c, hB⟩
  case inl => cases h
  have HRD := Lib.hid (fun (y : World) (g : Gr x y) => asReady_any p v S y (hu.gr g) hl)
  have HNX := Lib.hid (show nextL (p :: r) S most = match readyL S p with
    | none => none
    | some t => if p.1 ≠ [] then some ((p.1.take (min (p.1.length : Int) most).toNat, p.2), (if p.1.drop (min (p.1.length : Int) most).toNat = [] then r else (p.1.drop (min (p.1.length : Int) most).toNat, p.2) :: r), min (p.1.length : Int) most)
      else some (([], t.2.1, t.2.1 + min (t.2.2 - t.2.1) most), (if t.2.1 + min (t.2.2 - t.2.1) most = p.2.2 then r else ([], t.2.1 + min (t.2.2 - t.2.1) most, p.2.2) :: r), min (t.2.2 - t.2.1) most) from rfl)
  have HRT := Lib.hid (fun (t : PartT) (h : readyL S p = some t) (hp : p.1 = []) => readyL_span h hp)
  have HRX := Lib.hid (show p.1 ≠ [] → readyL S p = some p from fun h => by unfold readyL; rw [if_pos h])
  generalize nextL (p :: r) S most = NX at *
  generalize readyL S p = RL at *
  obtain ⟨A2, c2, rfl, _, _, _⟩ := id hu.open
  obtain ⟨cur, hrow, hcur⟩ := hB.row
  have hbody := hB.body
  have HB := Lib.hid hB
  obtain ⟨tx, pf, pt⟩ := p
  simp only at HRD HNX HRT HRX htx hsp ⊢
  have k0 := hcur 0 (str tx) rfl
  have k1 := hcur 1 (.int .i64 pf) rfl
  have k2 := hcur 2 (.int .i64 pt) rfl
  have hlc : r.length + 1 ≤ c := hB.cap.1
  rw [List.length_cons] at hbody
  have hne := hB.ne
  have HCUR := Lib.hid hcur
  have HSP := Lib.hid hsp
  obtain ⟨b0, b1, hG0⟩ := two_box x #[.slice A2 S.length c2] #[str [], .int .i64 0, .int .i64 0] 45 51
  clear hu hB hcur hsp
  go_enter Tryz.func14, Tryz.ntmps14
  go_upto_region 1 with fail
  refine at_world (P := Code.wp _ _ _ _) (w0 := (x.alloc (Obj.cells #[.slice A2 S.length c2] 45)).alloc (Obj.cells #[str [], .int .i64 0, .int .i64 0] 51)) ?_
  intro w0 hw0
  rw [← hw0] at b0 b1 hG0
  clear hw0
  have HLB := Lib.hid (show gb < x.heap.size from hbody.lt)
  have HLR := Lib.hid (show bl < x.heap.size from hrow.lt)
  generalize hgq : x.heap.size = g at *
  have HXG := Lib.hid hgq
  have HG0 := Lib.hid hG0
  have hbody := hbody.gr hG0
  have hrow := hrow.gr hG0
  have HZ := Lib.hid b1
  have HBO := Lib.hid hbody
  have HRO := Lib.hid hrow
  have hgi : ∀ i, Gr x (gx w0 none i) := fun i => Gr.tr hG0 (gr_none (gx_by w0 none i))
  have y0 : w0.cell? ⟨gb, 0, none⟩ = some (.slice (some ⟨bl, o, none⟩) (r.length + 1) c) := hbody.cell 0
  have q0 : w0.cell? ⟨g, 0, none⟩ = some (.slice A2 S.length c2) := b0.cell 0
  have p0 : w0.cell? ⟨bl, o, none⟩ = some (str tx) := by rw [hrow.cell]; exact k0
  have p1 : w0.cell? ⟨bl, o + 1, none⟩ = some (.int .i64 pf) := by rw [hrow.cell]; exact k1
  have p2 : w0.cell? ⟨bl, o + 2, none⟩ = some (.int .i64 pt) := by rw [hrow.cell]; exact k2
  have kl : ((r.length : Int) + 1 == 0) = false := by rw [beq_eq_false_iff_ne]; omega
  have km : decide (most < 1) = false := decide_eq_false (by omega)
  clear b0 b1 hG0 hbody hrow k0 k1 k2 hgq
  go_upto_region 3 with fail
  clear kl km
  have x0 := gx_cell (r := none) y0 (by simp)
  have x1 := gx_cell (r := none) q0 (by simp)
  have x2 := gx_cell (r := none) p0 (by simp)
  have x3 := gx_cell (r := none) p1 (by simp)
  have x4 := gx_cell (r := none) p2 (by simp)
  clear y0 q0 p0 p1 p2
  cases RL with
  | none =>
    have HE := Lib.hid (show NX = none from HNX.out)
    have HRY := Lib.hid (fun (y : World) (g : Gr x y) => show Calls Tryz.prog 48 #[.agg #[str tx, .int .i64 pf, .int .i64 pt], .agg #[.slice A2 S.length c2]] y (fun e w' => e = .returned (.tuple #[.agg #[str [], .int .i64 0, .int .i64 0], .bool false]) ∧ Gr y w') from HRD.out y g)
    clear HNX HRT HRX
    refine wp_region_mix [0, 1, 2, 3, 4, 5, 6, 7, 8, 9, 10] none 3 (by kernel_rfl) rfl (by kernel_rfl) (fun o _ _ _ _ h => by cases o <;> exact h) ?_
    simp only [pickOps, List.filterMap_cons, List.filterMap_nil, List.getElem?_cons_zero, List.getElem?_cons_succ]
    repeat (first | (refine wpGq_step (fun K hK => ?_); go_simp; refine hK _ ?_; clear hK K) | (refine wpGq_step (fun K hK => ?_); go_simp; simp only [↓IntWalk.iteOmega]; go_simp; refine hK _ ?_; clear hK K) | (refine wpGq_step (fun K hK => ?_); go_simp; apply Exists.intro; refine ⟨fun _ => ?_, hK _ ?_⟩; (go_at_call 48; exact HRY.out _ (hgi _)); clear hK K))
    refine wpGq_nil ?_
    refine wpG_one 11 (by kernel_rfl) rfl rfl (fun K hK wa hga => ?_)
    go_simp
    refine hK _ _ ?_ ?_
    · exact (Gr.al hga _).by _
    clear hK K
    refine wpG_one 12 (by kernel_rfl) rfl rfl (fun K hK wb hgb => ?_)
    have hbk := (Bk.new wa 51 #[str [], .int .i64 0, .int .i64 0] (0, 0)).gr hgb
    obtain ⟨z0, z1, z2⟩ := hbk.cells3
    obtain ⟨f0, f1, f2⟩ := hbk.free3
    go_simp
    refine hK _ _ ?_ ?_
    · exact (Gr.st (Gr.st (Gr.st (Gr.tr (Gr.al hga _) hgb) hga.size _) hga.size _) hga.size _).by _
    clear hK K
    refine wpG_one 13 (by kernel_rfl) rfl rfl (fun K hK wc hgc => ?_)
    go_simp
    refine hK _ _ ?_ ?_
    · exact (Gr.tr (Gr.st (Gr.st (Gr.st (Gr.tr (Gr.al hga _) hgb) hga.size _) hga.size _) hga.size _) hgc).by _
    clear hK K
    refine wpG_done (by kernel_rfl) (fun wd hgd' => ?_)
    have hgd := Gr.tr hgc hgd'
    clear hgc hgd'
    have HMD := Lib.hid (show Bk wd wa.heap.size 51 #[str [], .int .i64 0, .int .i64 0] (0, 0) from (((hbk.set 0 (str [])).set 1 (.int .i64 0)).set 2 (.int .i64 0)).gr hgd)
    have hd : Gr w0 wd := Gr.tr (Gr.st (Gr.st (Gr.st (Gr.tr (Gr.al hga _) hgb) hga.size _) hga.size _) hga.size _) hgd
    have hgm : w0.heap.size ≤ wa.heap.size := hga.size
    have HGM := Lib.hid (show g + 1 < wa.heap.size from Nat.lt_of_lt_of_le HZ.out.lt hgm)
    clear z0 z1 z2 f0 f1 f2 hbk hga hgb hgd hgm x0 x1 x2 x3 x4 hgi
    generalize wa.heap.size = gm at *
    clear wa wb wc
    have HZD := Lib.hid (HZ.out.gr hd)
    have HBD := Lib.hid (HBO.out.gr hd)
    have HRW := Lib.hid (HRO.out.gr hd)
    have HGD := Lib.hid (Gr.tr HG0.out hd)
    clear hd HZ HBO HRO
    obtain ⟨z0, z1, z2⟩ := HZD.out.cells3
    obtain ⟨f0, f1, f2⟩ := HZD.out.free3
    go_wp2_with fail
    refine at_world (P := bodyPost _ _ _ _ _) (w0 := putCs wd (g + 1) [str [], .int .i64 0, .int .i64 0] 0) ?_
    intro wy hwy
    have hy : Bk wy (g + 1) 51 #[str [], .int .i64 0, .int .i64 0] (0, 0) := by rw [hwy]; exact putCs_bk HZD.out rfl
    have hg : Gr x wy := by rw [hwy]; exact putCs_gr (by have := HXG.out; omega) _ _ _ HGD.out
    obtain ⟨u0, u1, u2⟩ := hy.cells3
    refine bodyPost_ret (v := .tuple #[.agg #[str [], .int .i64 0, .int .i64 0], .bool false]) (by simp [results, Tryz.results14, go_sem, u0, u1, u2]) rfl ?_
    rw [HE.out]
    exact ⟨kr_start hg, rfl, BdyAt.to (.inr ⟨by simp, o, c, HB.out⟩) hg⟩
  | some t =>
  cases kt : tx.isEmpty with
  | false =>
    have htn : tx ≠ [] := by intro h; rw [h] at kt; cases kt
    have het : (some t : Option PartT) = some (tx, pf, pt) := HRX.out htn
    obtain rfl : t = (tx, pf, pt) := by injection het
    clear het
    have HRY := Lib.hid (fun (y : World) (g : Gr x y) => show Calls Tryz.prog 48 #[.agg #[str tx, .int .i64 pf, .int .i64 pt], .agg #[.slice A2 S.length c2]] y (fun e w' => e = .returned (.tuple #[.agg #[str tx, .int .i64 pf, .int .i64 pt], .bool true]) ∧ Gr y w') from HRD.out y g)
    obtain ⟨K, hK⟩ : ∃ K : Nat, min (tx.length : Int) most = (K : Int) := ⟨(min (tx.length : Int) most).toNat, by have := hm.1; omega⟩
    have hnx := HNX.out
    simp only at hnx
    rw [if_pos htn, hK, Int.toNat_natCast] at hnx
    have HE := Lib.hid hnx
    have hpos : 0 < tx.length := List.length_pos_iff.2 htn
    have hk1 : 1 ≤ K ∧ K ≤ tx.length := by have := hm.1; omega
    have HTN := Lib.hid htn
    clear HNX HRT HRX hnx htn
    refine wp_region_mix [0, 1, 2, 3, 4, 5, 6, 7, 8, 9, 10] none 3 (by kernel_rfl) rfl (by kernel_rfl) (fun o _ _ _ _ h => by cases o <;> exact h) ?_
    simp only [pickOps, List.filterMap_cons, List.filterMap_nil, List.getElem?_cons_zero, List.getElem?_cons_succ]
    repeat (first | (refine wpGq_step (fun K hK => ?_); go_simp; refine hK _ ?_; clear hK K) | (refine wpGq_step (fun K hK => ?_); go_simp; simp only [↓IntWalk.iteOmega]; go_simp; refine hK _ ?_; clear hK K) | (refine wpGq_step (fun K hK => ?_); go_simp; apply Exists.intro; refine ⟨fun _ => ?_, hK _ ?_⟩; (go_at_call 48; exact HRY.out _ (hgi _)); clear hK K))
    refine wpGq_nil ?_
    refine wpG_one 11 (by kernel_rfl) rfl rfl (fun K hK wa hga => ?_)
    go_simp
    refine hK _ _ ?_ ?_
    · exact (Gr.al hga _).by _
    clear hK K
    refine wpG_one 12 (by kernel_rfl) rfl rfl (fun K hK wb hgb => ?_)
    have hbk := (Bk.new wa 51 #[str [], .int .i64 0, .int .i64 0] (0, 0)).gr hgb
    obtain ⟨z0, z1, z2⟩ := hbk.cells3
    obtain ⟨f0, f1, f2⟩ := hbk.free3
    go_simp
    refine hK _ _ ?_ ?_
    · exact (Gr.st (Gr.st (Gr.st (Gr.tr (Gr.al hga _) hgb) hga.size _) hga.size _) hga.size _).by _
    clear hK K
    refine wpG_one 13 (by kernel_rfl) rfl rfl (fun K hK wc hgc => ?_)
    go_simp
    refine hK _ _ ?_ ?_
    · exact (Gr.tr (Gr.st (Gr.st (Gr.st (Gr.tr (Gr.al hga _) hgb) hga.size _) hga.size _) hga.size _) hgc).by _
    clear hK K
    refine wpG_done (by kernel_rfl) (fun wd hgd' => ?_)
    have hgd := Gr.tr hgc hgd'
    clear hgc hgd'
    have HMD := Lib.hid (show Bk wd wa.heap.size 51 #[str tx, .int .i64 pf, .int .i64 pt] (0, 0) from (((hbk.set 0 (str tx)).set 1 (.int .i64 pf)).set 2 (.int .i64 pt)).gr hgd)
    have hd : Gr w0 wd := Gr.tr (Gr.st (Gr.st (Gr.st (Gr.tr (Gr.al hga _) hgb) hga.size _) hga.size _) hga.size _) hgd
    have hgm : w0.heap.size ≤ wa.heap.size := hga.size
    have HGM := Lib.hid (show g + 1 < wa.heap.size from Nat.lt_of_lt_of_le HZ.out.lt hgm)
    clear z0 z1 z2 f0 f1 f2 hbk hga hgb hgd hgm x0 x1 x2 x3 x4 hgi
    generalize wa.heap.size = gm at *
    clear wa wb wc
    have HZD := Lib.hid (HZ.out.gr hd)
    have HBD := Lib.hid (HBO.out.gr hd)
    have HRW := Lib.hid (HRO.out.gr hd)
    have HGD := Lib.hid (Gr.tr HG0.out hd)
    clear hd HZ HBO HRO
    obtain ⟨m0, m1, m2⟩ := HMD.out.cells3
    have y0 : wd.cell? ⟨gb, 0, none⟩ = some (.slice (some ⟨bl, o, none⟩) (r.length + 1) c) := HBD.out.cell 0
    go_upto_region 9 with fail
    have d0 : wd.cell? ⟨bl, o, none⟩ = some (str tx) := by rw [HRW.out.cell]; exact HCUR.out 0 _ rfl
    have e0 := HRW.out.free o (.inr (Nat.zero_le _))
    have e1 := HMD.out.free 0 (.inr (Nat.zero_le _))
    have hk3 : (K : Int) ≤ (tx.length : Int) := by omega
    have hk4 : (0 : Int) ≤ (K : Int) := by omega
    have hbm : bl ≠ gm := by have h1 := HXG.out; have h3 := HLR.out; have h4 := HGM.out; omega
    have hmb : gm ≠ bl := Ne.symm hbm
    go_region
    clear hbm hmb
    have HKwd := Lib.hid (kr_start (S := [gb, bl]) HGD.out)
    refine at_world (P := Exit.then _ _ _ _) (w0 := ((wd.setCell ⟨gm, 0, none⟩ (str (tx.take K))).setCell ⟨bl, o, none⟩ (str (tx.drop K))).drew) ?_
    intro we hwe
    have by1 : wd.grownBy (wd.setCell ⟨gm, 0, none⟩ (str (tx.take K))) (some gm) := by_st ((Gr.refl _).by _) _ _
    have by2 : (wd.setCell ⟨gm, 0, none⟩ (str (tx.take K))).grownBy we (some bl) := by rw [hwe]; exact by_tr (by_st ((Gr.refl _).by _) _ _) (Gr.dr (Gr.refl _))
    have HZwe := Lib.hid (bk_bz (bk_bz HZD.out by1 (by have h1 := HXG.out; have h2 := HLB.out; have h3 := HLR.out; have h4 := HGM.out; have h5 := HB.out.ne; simp only [ne_eq, Option.some.injEq]; omega)) by2 (by have h1 := HXG.out; have h2 := HLB.out; have h3 := HLR.out; have h4 := HGM.out; have h5 := HB.out.ne; simp only [ne_eq, Option.some.injEq]; omega))
    have HBwe := Lib.hid (bk_bz (bk_bz HBD.out by1 (by have h1 := HXG.out; have h2 := HLB.out; have h3 := HLR.out; have h4 := HGM.out; have h5 := HB.out.ne; simp only [ne_eq, Option.some.injEq]; omega)) by2 (by have h1 := HXG.out; have h2 := HLB.out; have h3 := HLR.out; have h4 := HGM.out; have h5 := HB.out.ne; simp only [ne_eq, Option.some.injEq]; omega))
    have HMwe := Lib.hid (show Bk we gm 51 #[str (tx.take K), .int .i64 pf, .int .i64 pt] (0, 0) from bk_bz (HMD.out.set 0 (str (tx.take K))) by2 (by have h1 := HXG.out; have h2 := HLB.out; have h3 := HLR.out; have h4 := HGM.out; have h5 := HB.out.ne; simp only [ne_eq, Option.some.injEq]; omega))
    have HRwe := Lib.hid (show Bk we bl 51 (cur.setIfInBounds o (str (tx.drop K))) (0, 0) from by rw [hwe]; exact ((bk_bz HRW.out by1 (by have h1 := HXG.out; have h2 := HLB.out; have h3 := HLR.out; have h4 := HGM.out; have h5 := HB.out.ne; simp only [ne_eq, Option.some.injEq]; omega)).set o (str (tx.drop K))).gr (Gr.dr (Gr.refl _)))
    have HKwe := Lib.hid ((HKwd.out.by by1 (fun k e => by cases e; exact .inr (by have h1 := HXG.out; have h4 := HGM.out; omega))).by by2 (fun k e => by cases e; exact .inl (by simp)))
    clear hwe by1 by2 m0 m1 m2 y0 d0 e0 e1
    have y1 : we.cell? ⟨gb, 1, none⟩ = some (.int .i64 sent) := HBwe.out.cell 1
    have e3 := HBwe.out.free 1 (.inr (Nat.zero_le _))
    go_upto_region 11 with fail
    refine at_world (P := Code.wp _ _ _ _) (w0 := we.setCell ⟨gb, 1, none⟩ (.int .i64 (sent + K))) ?_
    intro wf hwf
    have bywf : we.grownBy wf (some gb) := by rw [hwf]; exact by_st ((Gr.refl _).by _) _ _
    have HZwf := Lib.hid (bk_bz HZwe.out bywf (by have h1 := HXG.out; have h2 := HLB.out; have h3 := HLR.out; have h4 := HGM.out; have h5 := HB.out.ne; simp only [ne_eq, Option.some.injEq]; omega))
    have HRwf := Lib.hid (bk_bz HRwe.out bywf (by have h1 := HXG.out; have h2 := HLB.out; have h3 := HLR.out; have h4 := HGM.out; have h5 := HB.out.ne; simp only [ne_eq, Option.some.injEq]; omega))
    have HMwf := Lib.hid (bk_bz HMwe.out bywf (by have h1 := HXG.out; have h2 := HLB.out; have h3 := HLR.out; have h4 := HGM.out; have h5 := HB.out.ne; simp only [ne_eq, Option.some.injEq]; omega))
    have HBwf := Lib.hid (show Bk wf gb 101 #[.slice (some ⟨bl, o, none⟩) (r.length + 1) c, .int .i64 (sent + K)] (0, 0) from by rw [hwf]; exact HBwe.out.set 1 _)
    have HKwf := Lib.hid (HKwe.out.by bywf (fun k e => by cases e; exact .inl (by simp)))
    clear hwf bywf
    clear y1 e3
    by_cases hdr : K < tx.length
    · have hdn : tx.drop K ≠ [] := by intro h; have := congrArg List.length h; rw [List.length_drop, List.length_nil] at this; omega
      have kd : (tx.drop K).isEmpty = false := by cases h : tx.drop K with | nil => exact absurd h hdn | cons _ _ => rfl
      have HE2 := Lib.hid (show NX = some ((tx.take K, pf, pt), (tx.drop K, pf, pt) :: r, (K : Int)) from by rw [HE.out, if_neg hdn])
      clear HE hdn
      have d2 : wf.cell? ⟨bl, o, none⟩ = some (str (tx.drop K)) := by have h := row_head (p := (tx, pf, pt)) HCUR.out (tx.drop K) 0 _ rfl; rw [HRwf.out.cell]; exact h
      have HRR := Lib.hid (row_head (p := (tx, pf, pt)) (r := r) HCUR.out (tx.drop K))
      go_upto_region 13 with fail
      obtain ⟨m0, m1, m2⟩ := HMwf.out.cells3
      obtain ⟨z0, z1, z2⟩ := HZwf.out.cells3
      obtain ⟨f0, f1, f2⟩ := HZwf.out.free3
      go_wp2_with fail
      refine at_world (P := bodyPost _ _ _ _ _) (w0 := putCs wf (g + 1) [str (tx.take K), .int .i64 pf, .int .i64 pt] 0) ?_
      intro wy hwy
      have bywy : wf.grownBy wy (some (g + 1)) := by rw [hwy]; exact putCs_by _ _ _ _ ((Gr.refl _).by _)
      have hy : Bk wy (g + 1) 51 #[str (tx.take K), .int .i64 pf, .int .i64 pt] (0, 0) := by rw [hwy]; exact putCs_bk HZwf.out rfl
      have HBwy := Lib.hid (bk_bz HBwf.out bywy (by have h1 := HXG.out; have h2 := HLB.out; have h3 := HLR.out; have h4 := HGM.out; have h5 := HB.out.ne; simp only [ne_eq, Option.some.injEq]; omega))
      have HRwy := Lib.hid (bk_bz HRwf.out bywy (by have h1 := HXG.out; have h2 := HLB.out; have h3 := HLR.out; have h4 := HGM.out; have h5 := HB.out.ne; simp only [ne_eq, Option.some.injEq]; omega))
      have HKwy := Lib.hid (HKwf.out.by bywy (fun k e => by cases e; exact .inr (by have h1 := HXG.out; omega)))
      obtain ⟨u0, u1, u2⟩ := hy.cells3
      clear hwy bywy
      refine bodyPost_ret (v := .tuple #[.agg #[str (tx.take K), .int .i64 pf, .int .i64 pt], .bool true]) (by simp [results, Tryz.results14, go_sem, u0, u1, u2]) rfl ?_
      rw [HE2.out]
      exact ⟨HKwy.out, rfl, .inr ⟨by simp, o, c, HKwy.out.old HB.out.gr (fun k hk => by have h1 := HB.out.lo; have h2 := HB.out.blo; simp only [List.mem_cons, List.not_mem_nil, or_false] at hk; rcases hk with rfl | rfl <;> assumption) HB.out.gr.size, HB.out.lo, HB.out.ne, HB.out.blo, HBwy.out, HB.out.cap, _, HRwy.out, HRR.out⟩⟩
    · have hdn : tx.drop K = [] := List.drop_eq_nil_of_le (by omega)
      have kd : (tx.drop K).isEmpty = true := by rw [hdn]; rfl
      have HE2 := Lib.hid (show NX = some ((tx.take K, pf, pt), r, (K : Int)) from by rw [HE.out, if_pos hdn])
      clear HE hdn
      have d2 : wf.cell? ⟨bl, o, none⟩ = some (str (tx.drop K)) := by have h := row_head (p := (tx, pf, pt)) HCUR.out (tx.drop K) 0 _ rfl; rw [HRwf.out.cell]; exact h
      have HRR := Lib.hid (row_tail (row_head (p := (tx, pf, pt)) (r := r) HCUR.out (tx.drop K)))
      have y0 : wf.cell? ⟨gb, 0, none⟩ = some (.slice (some ⟨bl, o, none⟩) (r.length + 1) c) := HBwf.out.cell 0
      have e4 := HBwf.out.free 0 (.inr (Nat.zero_le _))
      go_upto_region 13 with (refine slPartLo _ _ rfl rfl rfl rfl hlc ?_; intro f2 hf2; have HF2 := Lib.hid hf2; clear hf2)
      refine at_world (P := Code.wp _ _ _ _) (w0 := wf.setCell ⟨gb, 0, none⟩ (.slice (some ⟨bl, f2, none⟩) r.length (c - 1))) ?_
      intro wh hwh
      have bywh : wf.grownBy wh (some gb) := by rw [hwh]; exact by_st ((Gr.refl _).by _) _ _
      have HZwh := Lib.hid (bk_bz HZwf.out bywh (by have h1 := HXG.out; have h2 := HLB.out; have h3 := HLR.out; have h4 := HGM.out; have h5 := HB.out.ne; simp only [ne_eq, Option.some.injEq]; omega))
      have HRwh := Lib.hid (bk_bz HRwf.out bywh (by have h1 := HXG.out; have h2 := HLB.out; have h3 := HLR.out; have h4 := HGM.out; have h5 := HB.out.ne; simp only [ne_eq, Option.some.injEq]; omega))
      have HMwh := Lib.hid (bk_bz HMwf.out bywh (by have h1 := HXG.out; have h2 := HLB.out; have h3 := HLR.out; have h4 := HGM.out; have h5 := HB.out.ne; simp only [ne_eq, Option.some.injEq]; omega))
      have HBwh := Lib.hid (show Bk wh gb 101 #[.slice (some ⟨bl, f2, none⟩) r.length (c - 1), .int .i64 (sent + K)] (0, 0) from by rw [hwh]; exact HBwf.out.set 0 _)
      have HKwh := Lib.hid (HKwf.out.by bywh (fun k e => by cases e; exact .inl (by simp)))
      clear hwh bywh
      clear y0 e4
      obtain ⟨m0, m1, m2⟩ := HMwh.out.cells3
      obtain ⟨z0, z1, z2⟩ := HZwh.out.cells3
      obtain ⟨f0, f1, f2⟩ := HZwh.out.free3
      go_wp2_with fail
      refine at_world (P := bodyPost _ _ _ _ _) (w0 := putCs wh (g + 1) [str (tx.take K), .int .i64 pf, .int .i64 pt] 0) ?_
      intro wy hwy
      have bywy : wh.grownBy wy (some (g + 1)) := by rw [hwy]; exact putCs_by _ _ _ _ ((Gr.refl _).by _)
      have hy : Bk wy (g + 1) 51 #[str (tx.take K), .int .i64 pf, .int .i64 pt] (0, 0) := by rw [hwy]; exact putCs_bk HZwh.out rfl
      have HBwy := Lib.hid (bk_bz HBwh.out bywy (by have h1 := HXG.out; have h2 := HLB.out; have h3 := HLR.out; have h4 := HGM.out; have h5 := HB.out.ne; simp only [ne_eq, Option.some.injEq]; omega))
      have HRwy := Lib.hid (bk_bz HRwh.out bywy (by have h1 := HXG.out; have h2 := HLB.out; have h3 := HLR.out; have h4 := HGM.out; have h5 := HB.out.ne; simp only [ne_eq, Option.some.injEq]; omega))
      have HKwy := Lib.hid (HKwh.out.by bywy (fun k e => by cases e; exact .inr (by have h1 := HXG.out; omega)))
      obtain ⟨u0, u1, u2⟩ := hy.cells3
      clear hwy bywy
      refine bodyPost_ret (v := .tuple #[.agg #[str (tx.take K), .int .i64 pf, .int .i64 pt], .bool true]) (by simp [results, Tryz.results14, go_sem, u0, u1, u2]) rfl ?_
      rw [HE2.out]
      have hWy : Gr W wy := HKwy.out.old HB.out.gr (fun k hk => by have h1 := HB.out.lo; have h2 := HB.out.blo; simp only [List.mem_cons, List.not_mem_nil, or_false] at hk; rcases hk with rfl | rfl <;> assumption) HB.out.gr.size
      refine ⟨HKwy.out, rfl, ?_⟩
      show BdyAt W gb bl r _ wy
      cases hr0 : r with
      | nil =>
        have h0 := HBwy.out
        rw [hr0] at h0
        exact .inl ⟨rfl, hWy, HB.out.lo, _, _, h0⟩
      | cons q r2 =>
        rw [← hr0]
        have hr1 : 1 ≤ r.length := by rw [hr0]; simp
        have h0 := HBwy.out
        rw [HF2.out hr1] at h0
        exact .inr ⟨by rw [hr0]; simp, o + 3, c - 1, hWy, HB.out.lo, HB.out.ne, HB.out.blo, h0, ⟨by have := HB.out.cap.1; rw [List.length_cons] at this; omega, by have := HB.out.cap.2; omega⟩, _, HRwy.out, HRR.out⟩
  | true =>
    obtain rfl : tx = [] := List.isEmpty_iff.1 kt
    clear kt
    obtain ⟨t1, tf, t2⟩ := t
    obtain ⟨g1, g2, g3, -, -, -, g7⟩ := HRT.out _ rfl rfl
    simp only at g1 g2 g3 g7
    subst g1 g2
    obtain ⟨i0, i1, i2⟩ := HSP.out rfl
    have g7 := g7 i1
    have HRY := Lib.hid (fun (y : World) (g : Gr x y) => show Calls Tryz.prog 48 #[.agg #[str [], .int .i64 tf, .int .i64 pt], .agg #[.slice A2 S.length c2]] y (fun e w' => e = .returned (.tuple #[.agg #[str [], .int .i64 tf, .int .i64 t2], .bool true]) ∧ Gr y w') from HRD.out y g)
    have hnx := HNX.out
    simp only at hnx
    rw [if_neg (by simp)] at hnx
    obtain ⟨n, hn⟩ : ∃ n, min (t2 - tf) most = n := ⟨_, rfl⟩
    rw [hn] at hnx
    have hn1 : 1 ≤ n ∧ n ≤ t2 - tf := by have := hm.1; omega
    have HE := Lib.hid hnx
    clear HNX HRT HRX hnx
    refine wp_region_mix [0, 1, 2, 3, 4, 5, 6, 7, 8, 9, 10] none 3 (by kernel_rfl) rfl (by kernel_rfl) (fun o _ _ _ _ h => by cases o <;> exact h) ?_
    simp only [pickOps, List.filterMap_cons, List.filterMap_nil, List.getElem?_cons_zero, List.getElem?_cons_succ]
    repeat (first | (refine wpGq_step (fun K hK => ?_); go_simp; refine hK _ ?_; clear hK K) | (refine wpGq_step (fun K hK => ?_); go_simp; simp only [↓IntWalk.iteOmega]; go_simp; refine hK _ ?_; clear hK K) | (refine wpGq_step (fun K hK => ?_); go_simp; apply Exists.intro; refine ⟨fun _ => ?_, hK _ ?_⟩; (go_at_call 48; exact HRY.out _ (hgi _)); clear hK K))
    refine wpGq_nil ?_
    refine wpG_one 11 (by kernel_rfl) rfl rfl (fun K hK wa hga => ?_)
    go_simp
    refine hK _ _ ?_ ?_
    · exact (Gr.al hga _).by _
    clear hK K
    refine wpG_one 12 (by kernel_rfl) rfl rfl (fun K hK wb hgb => ?_)
    have hbk := (Bk.new wa 51 #[str [], .int .i64 0, .int .i64 0] (0, 0)).gr hgb
    obtain ⟨z0, z1, z2⟩ := hbk.cells3
    obtain ⟨f0, f1, f2⟩ := hbk.free3
    go_simp
    refine hK _ _ ?_ ?_
    · exact (Gr.st (Gr.st (Gr.st (Gr.tr (Gr.al hga _) hgb) hga.size _) hga.size _) hga.size _).by _
    clear hK K
    refine wpG_one 13 (by kernel_rfl) rfl rfl (fun K hK wc hgc => ?_)
    go_simp
    refine hK _ _ ?_ ?_
    · exact (Gr.tr (Gr.st (Gr.st (Gr.st (Gr.tr (Gr.al hga _) hgb) hga.size _) hga.size _) hga.size _) hgc).by _
    clear hK K
    refine wpG_done (by kernel_rfl) (fun wd hgd' => ?_)
    have hgd := Gr.tr hgc hgd'
    clear hgc hgd'
    have HMD := Lib.hid (show Bk wd wa.heap.size 51 #[str [], .int .i64 tf, .int .i64 t2] (0, 0) from (((hbk.set 0 (str [])).set 1 (.int .i64 tf)).set 2 (.int .i64 t2)).gr hgd)
    have hd : Gr w0 wd := Gr.tr (Gr.st (Gr.st (Gr.st (Gr.tr (Gr.al hga _) hgb) hga.size _) hga.size _) hga.size _) hgd
    have hgm : w0.heap.size ≤ wa.heap.size := hga.size
    have HGM := Lib.hid (show g + 1 < wa.heap.size from Nat.lt_of_lt_of_le HZ.out.lt hgm)
    clear z0 z1 z2 f0 f1 f2 hbk hga hgb hgd hgm x0 x1 x2 x3 x4 hgi
    generalize wa.heap.size = gm at *
    clear wa wb wc
    have HZD := Lib.hid (HZ.out.gr hd)
    have HBD := Lib.hid (HBO.out.gr hd)
    have HRW := Lib.hid (HRO.out.gr hd)
    have HGD := Lib.hid (Gr.tr HG0.out hd)
    clear hd HZ HBO HRO
    obtain ⟨m0, m1, m2⟩ := HMD.out.cells3
    have y0 : wd.cell? ⟨gb, 0, none⟩ = some (.slice (some ⟨bl, o, none⟩) (r.length + 1) c) := HBD.out.cell 0
    go_upto_region 15 with fail
    clear hn y0
    have e2 := HMD.out.free 2 (.inr (Nat.zero_le _))
    go_upto_region 16 with fail
    have HKwd := Lib.hid (kr_start (S := [gb, bl]) HGD.out)
    refine at_world (P := Code.wp _ _ _ _) (w0 := wd.setCell ⟨gm, 2, none⟩ (.int .i64 (tf + n))) ?_
    intro wp hwp
    have bywp : wd.grownBy wp (some gm) := by rw [hwp]; exact by_st ((Gr.refl _).by _) _ _
    have HZwp := Lib.hid (bk_bz HZD.out bywp (by have h1 := HXG.out; have h2 := HLB.out; have h3 := HLR.out; have h4 := HGM.out; have h5 := HB.out.ne; simp only [ne_eq, Option.some.injEq]; omega))
    have HBwp := Lib.hid (bk_bz HBD.out bywp (by have h1 := HXG.out; have h2 := HLB.out; have h3 := HLR.out; have h4 := HGM.out; have h5 := HB.out.ne; simp only [ne_eq, Option.some.injEq]; omega))
    have HRwp := Lib.hid (bk_bz HRW.out bywp (by have h1 := HXG.out; have h2 := HLB.out; have h3 := HLR.out; have h4 := HGM.out; have h5 := HB.out.ne; simp only [ne_eq, Option.some.injEq]; omega))
    have HMwp := Lib.hid (show Bk wp gm 51 #[str [], .int .i64 tf, .int .i64 (tf + n)] (0, 0) from by rw [hwp]; exact HMD.out.set 2 _)
    have HKwp := Lib.hid (HKwd.out.by bywp (fun k e => by cases e; exact .inr (by have h1 := HXG.out; have h4 := HGM.out; omega)))
    clear hwp bywp
    have m2 : wp.cell? ⟨gm, 2, none⟩ = some (.int .i64 (tf + n)) := HMwp.out.cell 2
    have d1 : wp.cell? ⟨bl, o + 1, none⟩ = some (.int .i64 tf) := by rw [HRwp.out.cell]; exact HCUR.out 1 _ rfl
    have e1 := HRwp.out.free (o + 1) (.inr (Nat.zero_le _))
    go_upto_region 17 with fail
    refine at_world (P := Code.wp _ _ _ _) (w0 := wp.setCell ⟨bl, o + 1, none⟩ (.int .i64 (tf + n))) ?_
    intro we hwe
    have bywe : wp.grownBy we (some bl) := by rw [hwe]; exact by_st ((Gr.refl _).by _) _ _
    have HZwe := Lib.hid (bk_bz HZwp.out bywe (by have h1 := HXG.out; have h2 := HLB.out; have h3 := HLR.out; have h4 := HGM.out; have h5 := HB.out.ne; simp only [ne_eq, Option.some.injEq]; omega))
    have HBwe := Lib.hid (bk_bz HBwp.out bywe (by have h1 := HXG.out; have h2 := HLB.out; have h3 := HLR.out; have h4 := HGM.out; have h5 := HB.out.ne; simp only [ne_eq, Option.some.injEq]; omega))
    have HMwe := Lib.hid (bk_bz HMwp.out bywe (by have h1 := HXG.out; have h2 := HLB.out; have h3 := HLR.out; have h4 := HGM.out; have h5 := HB.out.ne; simp only [ne_eq, Option.some.injEq]; omega))
    have HRwe := Lib.hid (show Bk we bl 51 (cur.setIfInBounds (o + 1) (.int .i64 (tf + n))) (0, 0) from by rw [hwe]; exact HRwp.out.set (o + 1) _)
    have HKwe := Lib.hid (HKwp.out.by bywe (fun k e => by cases e; exact .inl (by simp)))
    clear hwe bywe
    clear m0 m1 m2 d1 e1 e2
    have y1 : we.cell? ⟨gb, 1, none⟩ = some (.int .i64 sent) := HBwe.out.cell 1
    have e3 := HBwe.out.free 1 (.inr (Nat.zero_le _))
    go_upto_region 18 with fail
    refine at_world (P := Code.wp _ _ _ _) (w0 := we.setCell ⟨gb, 1, none⟩ (.int .i64 (sent + n))) ?_
    intro wf hwf
    have bywf : we.grownBy wf (some gb) := by rw [hwf]; exact by_st ((Gr.refl _).by _) _ _
    have HZwf := Lib.hid (bk_bz HZwe.out bywf (by have h1 := HXG.out; have h2 := HLB.out; have h3 := HLR.out; have h4 := HGM.out; have h5 := HB.out.ne; simp only [ne_eq, Option.some.injEq]; omega))
    have HRwf := Lib.hid (bk_bz HRwe.out bywf (by have h1 := HXG.out; have h2 := HLB.out; have h3 := HLR.out; have h4 := HGM.out; have h5 := HB.out.ne; simp only [ne_eq, Option.some.injEq]; omega))
    have HMwf := Lib.hid (bk_bz HMwe.out bywf (by have h1 := HXG.out; have h2 := HLB.out; have h3 := HLR.out; have h4 := HGM.out; have h5 := HB.out.ne; simp only [ne_eq, Option.some.injEq]; omega))
    have HBwf := Lib.hid (show Bk wf gb 101 #[.slice (some ⟨bl, o, none⟩) (r.length + 1) c, .int .i64 (sent + n)] (0, 0) from by rw [hwf]; exact HBwe.out.set 1 _)
    have HKwf := Lib.hid (HKwe.out.by bywf (fun k e => by cases e; exact .inl (by simp)))
    clear hwf bywf
    clear y1 e3
    have d1 : wf.cell? ⟨bl, o + 1, none⟩ = some (.int .i64 (tf + n)) := by have h := row_from (p := ([], tf, pt)) HCUR.out (tf + n) 1 _ rfl; rw [HRwf.out.cell]; exact h
    have d2 : wf.cell? ⟨bl, o + 2, none⟩ = some (.int .i64 pt) := by have h := row_from (p := ([], tf, pt)) HCUR.out (tf + n) 2 _ rfl; rw [HRwf.out.cell]; exact h
    by_cases hend : tf + n = pt
    · have kd : (tf + n == pt) = true := by rw [beq_iff_eq]; exact hend
      have HE2 := Lib.hid (show NX = some (([], tf, tf + n), r, n) from by rw [HE.out, if_pos hend])
      have HRR := Lib.hid (row_tail (row_from (p := ([], tf, pt)) (r := r) HCUR.out (tf + n)))
      clear HE hend
      go_quiet (fail)
      have hqq := Gr.drN (Gr.refl wf) nq
      have HZwq := Lib.hid (HZwf.out.gr hqq)
      have HBwq := Lib.hid (HBwf.out.gr hqq)
      have HRwq := Lib.hid (HRwf.out.gr hqq)
      have HMwq := Lib.hid (HMwf.out.gr hqq)
      have HKwq := Lib.hid (HKwf.out.gr hqq)
      generalize wf.drewN nq = wq at *
      clear hqq d1 d2
      have y0 : wq.cell? ⟨gb, 0, none⟩ = some (.slice (some ⟨bl, o, none⟩) (r.length + 1) c) := HBwq.out.cell 0
      have e4 := HBwq.out.free 0 (.inr (Nat.zero_le _))
      go_upto_region 20 with (refine slPartLo _ _ rfl rfl rfl rfl hlc ?_; intro f2 hf2; have HF2 := Lib.hid hf2; clear hf2)
      refine at_world (P := Code.wp _ _ _ _) (w0 := wq.setCell ⟨gb, 0, none⟩ (.slice (some ⟨bl, f2, none⟩) r.length (c - 1))) ?_
      intro wh hwh
      have bywh : wq.grownBy wh (some gb) := by rw [hwh]; exact by_st ((Gr.refl _).by _) _ _
      have HZwh := Lib.hid (bk_bz HZwq.out bywh (by have h1 := HXG.out; have h2 := HLB.out; have h3 := HLR.out; have h4 := HGM.out; have h5 := HB.out.ne; simp only [ne_eq, Option.some.injEq]; omega))
      have HRwh := Lib.hid (bk_bz HRwq.out bywh (by have h1 := HXG.out; have h2 := HLB.out; have h3 := HLR.out; have h4 := HGM.out; have h5 := HB.out.ne; simp only [ne_eq, Option.some.injEq]; omega))
      have HMwh := Lib.hid (bk_bz HMwq.out bywh (by have h1 := HXG.out; have h2 := HLB.out; have h3 := HLR.out; have h4 := HGM.out; have h5 := HB.out.ne; simp only [ne_eq, Option.some.injEq]; omega))
      have HBwh := Lib.hid (show Bk wh gb 101 #[.slice (some ⟨bl, f2, none⟩) r.length (c - 1), .int .i64 (sent + n)] (0, 0) from by rw [hwh]; exact HBwq.out.set 0 _)
      have HKwh := Lib.hid (HKwq.out.by bywh (fun k e => by cases e; exact .inl (by simp)))
      clear hwh bywh
      clear y0 e4
      obtain ⟨m0, m1, m2⟩ := HMwh.out.cells3
      obtain ⟨z0, z1, z2⟩ := HZwh.out.cells3
      obtain ⟨f0, f1, f2⟩ := HZwh.out.free3
      go_wp2_with fail
      refine at_world (P := bodyPost _ _ _ _ _) (w0 := putCs wh (g + 1) [str [], .int .i64 tf, .int .i64 (tf + n)] 0) ?_
      intro wy hwy
      have bywy : wh.grownBy wy (some (g + 1)) := by rw [hwy]; exact putCs_by _ _ _ _ ((Gr.refl _).by _)
      have hy : Bk wy (g + 1) 51 #[str [], .int .i64 tf, .int .i64 (tf + n)] (0, 0) := by rw [hwy]; exact putCs_bk HZwh.out rfl
      have HBwy := Lib.hid (bk_bz HBwh.out bywy (by have h1 := HXG.out; have h2 := HLB.out; have h3 := HLR.out; have h4 := HGM.out; have h5 := HB.out.ne; simp only [ne_eq, Option.some.injEq]; omega))
      have HRwy := Lib.hid (bk_bz HRwh.out bywy (by have h1 := HXG.out; have h2 := HLB.out; have h3 := HLR.out; have h4 := HGM.out; have h5 := HB.out.ne; simp only [ne_eq, Option.some.injEq]; omega))
      have HKwy := Lib.hid (HKwh.out.by bywy (fun k e => by cases e; exact .inr (by have h1 := HXG.out; omega)))
      obtain ⟨u0, u1, u2⟩ := hy.cells3
      clear hwy bywy
      refine bodyPost_ret (v := .tuple #[.agg #[str [], .int .i64 tf, .int .i64 (tf + n)], .bool true]) (by simp [results, Tryz.results14, go_sem, u0, u1, u2]) rfl ?_
      rw [HE2.out]
      have hWy : Gr W wy := HKwy.out.old HB.out.gr (fun k hk => by have h1 := HB.out.lo; have h2 := HB.out.blo; simp only [List.mem_cons, List.not_mem_nil, or_false] at hk; rcases hk with rfl | rfl <;> assumption) HB.out.gr.size
      refine ⟨HKwy.out, rfl, ?_⟩
      show BdyAt W gb bl r _ wy
      cases hr0 : r with
      | nil =>
        have h0 := HBwy.out
        rw [hr0] at h0
        exact .inl ⟨rfl, hWy, HB.out.lo, _, _, h0⟩
      | cons q r2 =>
        rw [← hr0]
        have hr1 : 1 ≤ r.length := by rw [hr0]; simp
        have h0 := HBwy.out
        rw [HF2.out hr1] at h0
        exact .inr ⟨by rw [hr0]; simp, o + 3, c - 1, hWy, HB.out.lo, HB.out.ne, HB.out.blo, h0, ⟨by have := HB.out.cap.1; rw [List.length_cons] at this; omega, by have := HB.out.cap.2; omega⟩, _, HRwy.out, HRR.out⟩
    · have kd : (tf + n == pt) = false := by rw [beq_eq_false_iff_ne]; exact hend
      have HE2 := Lib.hid (show NX = some (([], tf, tf + n), ([], tf + n, pt) :: r, n) from by rw [HE.out, if_neg hend])
      have HRR := Lib.hid (row_from (p := ([], tf, pt)) (r := r) HCUR.out (tf + n))
      clear HE hend
      go_quiet (fail)
      have hqq := Gr.drN (Gr.refl wf) nq
      have HZwq := Lib.hid (HZwf.out.gr hqq)
      have HBwq := Lib.hid (HBwf.out.gr hqq)
      have HRwq := Lib.hid (HRwf.out.gr hqq)
      have HMwq := Lib.hid (HMwf.out.gr hqq)
      have HKwq := Lib.hid (HKwf.out.gr hqq)
      generalize wf.drewN nq = wq at *
      clear hqq d1 d2
      go_upto_region 20 with fail
      obtain ⟨m0, m1, m2⟩ := HMwq.out.cells3
      obtain ⟨z0, z1, z2⟩ := HZwq.out.cells3
      obtain ⟨f0, f1, f2⟩ := HZwq.out.free3
      go_wp2_with fail
      refine at_world (P := bodyPost _ _ _ _ _) (w0 := putCs wq (g + 1) [str [], .int .i64 tf, .int .i64 (tf + n)] 0) ?_
      intro wy hwy
      have bywy : wq.grownBy wy (some (g + 1)) := by rw [hwy]; exact putCs_by _ _ _ _ ((Gr.refl _).by _)
      have hy : Bk wy (g + 1) 51 #[str [], .int .i64 tf, .int .i64 (tf + n)] (0, 0) := by rw [hwy]; exact putCs_bk HZwq.out rfl
      have HBwy := Lib.hid (bk_bz HBwq.out bywy (by have h1 := HXG.out; have h2 := HLB.out; have h3 := HLR.out; have h4 := HGM.out; have h5 := HB.out.ne; simp only [ne_eq, Option.some.injEq]; omega))
      have HRwy := Lib.hid (bk_bz HRwq.out bywy (by have h1 := HXG.out; have h2 := HLB.out; have h3 := HLR.out; have h4 := HGM.out; have h5 := HB.out.ne; simp only [ne_eq, Option.some.injEq]; omega))
      have HKwy := Lib.hid (HKwq.out.by bywy (fun k e => by cases e; exact .inr (by have h1 := HXG.out; omega)))
      obtain ⟨u0, u1, u2⟩ := hy.cells3
      clear hwy bywy
      refine bodyPost_ret (v := .tuple #[.agg #[str [], .int .i64 tf, .int .i64 (tf + n)], .bool true]) (by simp [results, Tryz.results14, go_sem, u0, u1, u2]) rfl ?_
      rw [HE2.out]
      exact ⟨HKwy.out, rfl, .inr ⟨by simp, o, c, HKwy.out.old HB.out.gr (fun k hk => by have h1 := HB.out.lo; have h2 := HB.out.blo; simp only [List.mem_cons, List.not_mem_nil, or_false] at hk; rcases hk with rfl | rfl <;> assumption) HB.out.gr.size, HB.out.lo, HB.out.ne, HB.out.blo, HBwy.out, HB.out.cap, _, HRwy.out, HRR.out⟩⟩
end Go.Proofs.YtflepnkpihfidaaGreatDoor
namespace Go.Proofs.YtflepnkpihfidaaGreatDoor
open Go.RowKit
theorem BdyAt.box {W : World} {gb bl : Nat} {L : List PartT} {sent : Int} {x : World} (h : BdyAt W gb bl L sent x) : ∃ A c, Bk x gb 101 #[.slice A L.length c, .int .i64 sent] (0, 0) := by
  rcases h with ⟨h1, h2⟩ | ⟨h1, o, c, h2⟩
  · obtain ⟨A, c, hb⟩ := h2.body
    subst h1
    exact ⟨A, c, hb⟩
  · exact ⟨_, c, h2.body⟩
theorem BdyAt.old {W : World} {gb bl : Nat} {L : List PartT} {sent : Int} {x : World} (h : BdyAt W gb bl L sent x) : Gr W x := by
  rcases h with ⟨h1, h2⟩ | ⟨h1, o, c, h2⟩
  · exact h2.gr
  · exact h2.gr
set_option maxHeartbeats 4000000 in
theorem asDone_any (W x : World) (gb bl : Nat) (L : List PartT) (sent : Int) (h : BdyAt W gb bl L sent x) : Calls Tryz.prog 16 #[.pointer (some ⟨gb, 0, none⟩)] x fun e w' => e = .returned (.bool L.isEmpty) ∧ Gr x w' := by
  obtain ⟨A, c, hb⟩ := h.box
  have y0 : x.cell? ⟨gb, 0, none⟩ = some (.slice A L.length c) := hb.cell 0
  have hxx := Gr.refl x
  clear h hb
  cases hL : L.isEmpty with
  | true =>
    have hl : L.length = 0 := by rw [List.isEmpty_iff.1 hL]; rfl
    have k0 : ((L.length : Int) == 0) = true := by rw [hl]; rfl
    clear hl hL
    go_enter Tryz.func16, Tryz.ntmps16
    go_wp2_with fail
    go_ret
    exact ⟨rfl, hxx⟩
  | false =>
    have hl : 0 < L.length := by
      cases L with
      | nil => cases hL
      | cons _ _ => simp
    have k0 : ((L.length : Int) == 0) = false := by rw [beq_eq_false_iff_ne]; omega
    clear hL
    go_enter Tryz.func16, Tryz.ntmps16
    go_wp2_with fail
    go_ret
    exact ⟨rfl, hxx⟩
set_option maxHeartbeats 4000000 in
theorem asSent_any (W x : World) (gb bl : Nat) (L : List PartT) (sent : Int) (h : BdyAt W gb bl L sent x) : Calls Tryz.prog 17 #[.pointer (some ⟨gb, 0, none⟩)] x fun e w' => e = .returned (.int .i64 sent) ∧ Gr x w' := by
  obtain ⟨A, c, hb⟩ := h.box
  have y1 : x.cell? ⟨gb, 1, none⟩ = some (.int .i64 sent) := hb.cell 1
  have hxx := Gr.refl x
  clear h hb
  go_enter Tryz.func17, Tryz.ntmps17
  go_wp2_with fail
  go_ret
  exact ⟨rfl, hxx⟩
end Go.Proofs.YtflepnkpihfidaaGreatDoor
namespace Go.Proofs.YtflepnkpihfidaaGreatDoor
open Go.RowKit
/-- a row that lies in none of the blocks that may have changed -/
theorem own_krs {W0 w w' : World} {S : List Nat} {N : Nat} {e : TypeId} {size n : Nat} {v : Value} {xs : List Value} (h : Own W0 w e size v n xs) (k : Kr S N w w') (hN : ∀ b, v.ownBlock = some b → b < N) (hS : ∀ b, v.ownBlock = some b → b ∉ S) : Own W0 w' e size v n xs := by
  refine ⟨h.1, ?_⟩
  rcases h.2 with h0 | ⟨b, cap, cur, hv, hb, hh, r⟩
  · exact .inl h0
  · have hv2 : v.ownBlock = some b := by rw [hv]; rfl
    exact .inr ⟨b, cap, cur, hv, hb, (k.block b (hN b hv2) (hS b hv2)).trans hh, r⟩
theorem own_lt {W0 w : World} {e : TypeId} {size n : Nat} {v : Value} {xs : List Value} (h : Own W0 w e size v n xs) : ∀ b, v.ownBlock = some b → b < w.heap.size := fun b hb => (World.ownsRow.lt h b hb).2
theorem own_lo {W0 w : World} {e : TypeId} {size n : Nat} {v : Value} {xs : List Value} (h : Own W0 w e size v n xs) : ∀ b, v.ownBlock = some b → W0.heap.size ≤ b := fun b hb => (World.ownsRow.lt h b hb).1
/-- the same, of a longer list, of an older world -/
theorem kr_more {S S' : List Nat} {A B C : World} {N : Nat} (h : Kr S N A B) (k : Kr S' B.heap.size B C) (hs : ∀ b ∈ S', b ∈ S) : Kr S N A C :=
  h.tr ⟨k.os, k.tape, k.output, Nat.le_trans h.le h.size, k.size, fun i hi hn => k.block i (Nat.lt_of_lt_of_le hi (Nat.le_trans h.le h.size)) (fun hm => hn (hs i hm))⟩
theorem bdy_kr {W x x' : World} {gb bl : Nat} {L : List PartT} {sent : Int} {S : List Nat} {N : Nat} (h : BdyAt W gb bl L sent x) (k : Kr S N x x') (hlo : ∀ b ∈ S, W.heap.size ≤ b) (hN : W.heap.size ≤ N) (h1 : gb < N ∧ gb ∉ S) (h2 : bl < N ∧ bl ∉ S) : BdyAt W gb bl L sent x' := by
  rcases h with ⟨a, b⟩ | ⟨a, o, c, b⟩
  · obtain ⟨A, c, hb⟩ := b.body
    exact .inl ⟨a, k.old b.gr hlo hN, b.lo, A, c, k.bk hb h1.1 h1.2⟩
  · obtain ⟨cur, hb, hr⟩ := b.row
    exact .inr ⟨a, o, c, k.old b.gr hlo hN, b.lo, b.ne, b.blo, k.bk b.body h1.1 h1.2, b.cap, cur, k.bk hb h2.1 h2.2, hr⟩
theorem asNext_any (W x : World) (gb bl : Nat) (L : List PartT) (sent most : Int) (v : Value) (S : List SpT) (obj : List UInt8) (hB : BdyAt W gb bl L sent x) (hu : Spans x v S) (hl : S.length ≤ 1000000) (hm : 1 ≤ most ∧ most ≤ 1000) (hse : 0 ≤ sent ∧ sent ≤ 1000000) (htx : ∀ p ∈ L, p.1.length ≤ 1000000) (hin : PartsIn obj L) (ho : obj.length ≤ 1000000) :
    Calls Tryz.prog 14 #[.pointer (some ⟨gb, 0, none⟩), .agg #[v], .int .i64 most] x (NextC W gb bl (nextL L S most) L sent x) := by
  cases L with
  | nil => exact asNext_none W x gb bl sent most v S hB hu
  | cons p r => exact asNext_some W x gb bl p r sent most v S hB hu hl hm hse (htx p (by simp)) (fun h => by have := hin p (by simp) h; omega)
/-- a set's spans are no more than the list's -/
theorem setL_le (l : List SpT) : (setL l).length ≤ l.length := by
  unfold setL gatherL
  have h1 := gather_len (sortS (l.filter goodS)) []
  have h2 := (sortS_perm (l.filter goodS)).length_eq
  have h3 := List.length_filter_le goodS l
  simp only [List.length_nil] at h1
  omega
/-- what is kept from round to round: how much was told, which bytes are there -/
structure Rnd (w3 w4 w9 : World) (gb bl g12 : Nat) (obj : List UInt8) (ps L : List PartT) (O : List UInt8) (S : List SpT) (A : Option Addr) (c : Nat) (vo : Value) (wr : World) : Prop where
  told : ToldP obj ps L O
  out : Own w9 wr 5 1 vo O.length (O.map byt)
  body : BdyAt w3 gb bl L O.length wr
  box : Bk wr g12 45 #[.slice A S.length c] (0, 0)
  set : Own w4 wr 48 2 (.slice A S.length c) S.length (spansV S)
  kr : Kr [gb, bl, g12] w9.heap.size w9 wr
theorem Rnd.to {w3 w4 w9 : World} {gb bl g12 : Nat} {obj : List UInt8} {ps L : List PartT} {O : List UInt8} {S : List SpT} {A : Option Addr} {c : Nat} {vo : Value} {wr wx : World} (h : Rnd w3 w4 w9 gb bl g12 obj ps L O S A c vo wr) (g : Gr wr wx) : Rnd w3 w4 w9 gb bl g12 obj ps L O S A c vo wx :=
  ⟨h.told, h.out.gr g, h.body.to g, h.box.gr g, h.set.gr g, h.kr.gr g⟩
/-- where things lie -/
structure Lie (w3 w4 w9 : World) (gb bl g12 : Nat) : Prop where
  h34 : Gr w3 w4
  h49 : w4.heap.size ≤ w9.heap.size
  gb : gb < w4.heap.size ∧ w3.heap.size ≤ gb
  bl : bl < w4.heap.size ∧ w3.heap.size ≤ bl
  g12 : w4.heap.size ≤ g12 ∧ g12 < w9.heap.size
/-- the bytes that are there are other ones -/
theorem Rnd.there {w3 w4 w9 : World} {gb bl g12 : Nat} {obj : List UInt8} {ps L : List PartT} {O : List UInt8} {S S' : List SpT} {A A' : Option Addr} {c c' : Nat} {vo : Value} {wr wx wy : World} (h : Rnd w3 w4 w9 gb bl g12 obj ps L O S A c vo wr) (hl : Lie w3 w4 w9 gb bl g12) (g : Gr wr wx) (hw : wy = wx.setCell ⟨g12, 0, none⟩ (.slice A' S'.length c')) (ho : Own w4 wx 48 2 (.slice A' S'.length c') S'.length (spansV S')) :
    Rnd w3 w4 w9 gb bl g12 obj ps L O S' A' c' vo wy := by
  have h2 := h.to g
  have hby : wx.grownBy wy (some g12) := by rw [hw]; exact by_st ((Gr.refl _).by _) _ _
  have hk : Kr [g12] wx.heap.size wx wy := (Kr.refl (Nat.le_refl _)).by hby (fun k e => by cases e; exact .inl (by simp))
  have hsz : w9.heap.size ≤ wx.heap.size := h2.kr.size
  have a1 := hl.gb; have a2 := hl.bl; have a3 := hl.g12; have a4 := hl.h49; have a5 := hl.h34.size
  refine ⟨h2.told, ?_, ?_, ?_, ?_, kr_more h2.kr hk (by simp)⟩
  · rw [hw]
    exact Own.set h2.out (fun e => by have := own_lo h2.out _ e; omega) 0 _
  · exact bdy_kr h2.body hk (by simp; omega) (by omega) ⟨by omega, by simp; omega⟩ ⟨by omega, by simp; omega⟩
  · rw [hw]; simpa using h2.box.set 0 (.slice A' S'.length c')
  · rw [hw]; exact Own.set ho (own_ne_ty ho h2.box (by decide)) 0 _
/-- part of it was told -/
theorem Rnd.tell {w3 w4 w9 : World} {gb bl g12 : Nat} {obj : List UInt8} {ps L L' : List PartT} {O O' : List UInt8} {S : List SpT} {A : Option Addr} {c : Nat} {vo : Value} {wr wx : World} (h : Rnd w3 w4 w9 gb bl g12 obj ps L O S A c vo wr) (hl : Lie w3 w4 w9 gb bl g12) (k : Kr [gb, bl] wr.heap.size wr wx) :
    Own w9 wx 5 1 vo O.length (O.map byt) ∧ Bk wx g12 45 #[.slice A S.length c] (0, 0) ∧ Own w4 wx 48 2 (.slice A S.length c) S.length (spansV S) ∧ Kr [gb, bl, g12] w9.heap.size w9 wx := by
  have hsz : w9.heap.size ≤ wr.heap.size := h.kr.size
  have a1 := hl.gb; have a2 := hl.bl; have a3 := hl.g12; have a4 := hl.h49
  refine ⟨own_krs h.out k (own_lt h.out) (fun b hb => ?_), k.bk h.box (by omega) (by simp; omega), own_krs h.set k (own_lt h.set) (fun b hb => ?_), kr_more h.kr k (by simp)⟩
  · have := own_lo h.out b hb; simp; omega
  · have := own_lo h.set b hb; simp; omega
/-- more bytes came behind the others -/
theorem rnd_app {w3 w4 w9 : World} {gb bl g12 : Nat} {obj : List UInt8} {ps L : List PartT} {O O' : List UInt8} {S : List SpT} {A : Option Addr} {c : Nat} {vo vo' : Value} {wx wy : World} (ht : ToldP obj ps L O') (hb : BdyAt w3 gb bl L O'.length wx) (hbox : Bk wx g12 45 #[.slice A S.length c] (0, 0)) (hs : Own w4 wx 48 2 (.slice A S.length c) S.length (spansV S)) (hk : Kr [gb, bl, g12] w9.heap.size w9 wx) (hl : Lie w3 w4 w9 gb bl g12)
    (ho : Own w9 wx 5 1 vo O.length (O.map byt)) (hby : wx.grownBy wy vo.ownBlock) (ho' : Own w9 wy 5 1 vo' O'.length (O'.map byt)) : Rnd w3 w4 w9 gb bl g12 obj ps L O' S A c vo' wy := by
  have hsz : w9.heap.size ≤ wx.heap.size := hk.size
  have a1 := hl.gb; have a2 := hl.bl; have a3 := hl.g12; have a4 := hl.h49; have a5 := hl.h34.size
  have hlo := own_lo ho
  have hk2 : Kr [] w9.heap.size wx wy := (Kr.refl hsz).by hby (fun b hb => .inr (hlo b hb))
  refine ⟨ht, ho', bdy_kr hb hk2 (by simp) (by omega) ⟨by omega, by simp⟩ ⟨by omega, by simp⟩, ?_, ?_, hk.by hby (fun b hb => .inr (hlo b hb))⟩
  · exact (hby.block g12 hbox.lt (fun e => by have := hlo g12 e.symm; omega)).trans hbox
  · refine own_kr hs hby ?_
    cases hv : (Value.slice A S.length c).ownBlock with
    | none => exact .inl rfl
    | some b =>
      right
      intro e
      rcases own_own hs (own_bz (W0 := w4) ho hl.h49) (by decide) with h | h
      · rw [hv] at h; cases h
      · exact h (hv.trans e)
end Go.Proofs.YtflepnkpihfidaaGreatDoor
