/- Layer 11: the scan of a body: a range. A contract; conditions: the library's own variables hold what their types allow; a body shorter than 2 to the 32nd. -/
import Derived.Test.YtnmfmcmokdoieaaGreatDoorMulti6
import Derived.Test.YtnmfmcmokdoieaaGreatDoorRegion2
import Derived.Test.YtnmfmcmokdoieaaGreatDoorKeep
set_option linter.unusedVariables false
set_option linter.unusedSimpArgs false
namespace Go.Proofs.YtnmfmcmokdoieaaGreatDoor
open Go.RowKit
def rF (r : Option (Int × Int × Int)) : Int := match r with | none => 0 | some x => x.1
def rT (r : Option (Int × Int × Int)) : Int := match r with | none => 0 | some x => x.2.1
def rN (r : Option (Int × Int × Int)) : Int := match r with | none => 0 | some x => x.2.2
def rE (r : Option (Int × Int × Int)) : Int := match r with | none => 2 | some _ => 0
theorem rangeV_eq (r : Option (Int × Int × Int)) : rangeV r = .tuple #[.agg #[.int .i64 (rF r), .int .i64 (rT r)], .int .i64 (rN r), .int .i64 (rE r)] := by cases r <;> rfl
theorem trimP_drop {p s : List UInt8} (h : p.isPrefixOf s = true) : Lib.trimPrefix s p = s.drop p.length := by
  unfold Lib.trimPrefix Lib.hasPrefix; rw [if_pos h]
theorem kindLn_eq (t : List UInt8) : kindLn t = (typeN.isPrefixOf t && kindB (Lib.trimPrefix t typeN)) := by
  unfold kindLn stripL
  cases h : typeN.isPrefixOf t with
  | false => rfl
  | true => rw [trimP_drop h]; rfl
theorem rangeLn_some (first : Bool) (tot : Int) (t : List UInt8) : (rangeLn first tot t).isSome = (rangeN.isPrefixOf t && ((rE (rangeR (Lib.trimPrefix t rangeN)) == 0) && (first || (rN (rangeR (Lib.trimPrefix t rangeN)) == tot)))) := by
  unfold rangeLn stripL
  cases h : rangeN.isPrefixOf t with
  | false => rfl
  | true =>
    rw [trimP_drop h, if_pos rfl]
    simp only [Bool.true_and]
    cases rangeR (t.drop rangeN.length) with
    | none => rfl
    | some x =>
      simp only [rE, rN]
      cases hh : (first || x.2.2 == tot) <;> rfl
theorem rangeLn_val {first : Bool} {tot : Int} {t : List UInt8} {x : Int × Int × Int} (h : rangeLn first tot t = some x) : rF (rangeR (Lib.trimPrefix t rangeN)) = x.1 ∧ rT (rangeR (Lib.trimPrefix t rangeN)) = x.2.1 ∧ rN (rangeR (Lib.trimPrefix t rangeN)) = x.2.2 ∧ rangeR (Lib.trimPrefix t rangeN) = some x := by
  unfold rangeLn stripL at h
  cases hp : rangeN.isPrefixOf t with
  | false => rw [hp] at h; cases h
  | true =>
    rw [hp, if_pos rfl] at h
    rw [trimP_drop hp]
    simp only at h
    cases hr : rangeR (t.drop rangeN.length) with
    | none => rw [hr] at h; cases h
    | some y =>
      rw [hr] at h
      simp only at h
      split at h
      · injection h with h; subst h; exact ⟨rfl, rfl, rfl, rfl⟩
      · cases h
/-- a range, of what may be wrong already -/
def pieceE (first : Bool) (tot : Int) (l : List UInt8) (e : Nat) : Nat ⊕ (PieceT × List UInt8) := if e ≠ 0 then .inl e else pieceL first tot l
section
variable (first : Bool) (tot : Int) (l : List UInt8) (e : Nat)
def pA : List UInt8 × List UInt8 × Nat := lineS l e
def pB : List UInt8 × List UInt8 × Nat := lineS (pA l e).2.1 (mustS (kindLn (pA l e).1) (pA l e).2.2)
def pC : List UInt8 × List UInt8 × Nat := lineS (pB l e).2.1 (mustS (rangeLn first tot (pB l e).1).isSome (pB l e).2.2)
def pEnd : Nat := mustS ((pC first tot l e).1 == []) (pC first tot l e).2.2
end
theorem lineS_bad {l : List UInt8} {e : Nat} (h : e ≠ 0) : lineS l e = ([], l, e) := if_pos h
theorem lineS_none {l : List UInt8} (h : lnL l = none) : lineS l 0 = ([], l, 13) := by unfold lineS; rw [h]; rfl
theorem lineS_some {l : List UInt8} {x : List UInt8 × List UInt8} (h : lnL l = some x) : lineS l 0 = (x.1, x.2, 0) := by unfold lineS; rw [h]; rfl
theorem mustS_bad {b : Bool} {e : Nat} (h : e ≠ 0) : mustS b e = e := if_neg (fun hh => h hh.1)
theorem mustS_13 (b : Bool) : mustS b 13 = 13 := mustS_bad (by decide)
theorem mustS_2 (b : Bool) : mustS b 2 = 2 := mustS_bad (by decide)
theorem lineS_13 (l : List UInt8) : lineS l 13 = ([], l, 13) := lineS_bad (by decide)
theorem lineS_2 (l : List UInt8) : lineS l 2 = ([], l, 2) := lineS_bad (by decide)
theorem mustS_no : mustS false 0 = 2 := rfl
theorem mustS_yes : mustS true 0 = 0 := rfl
theorem piece_run (first : Bool) (tot : Int) (l : List UInt8) (e : Nat) : (pEnd first tot l e ≠ 0 → pieceE first tot l e = .inl (pEnd first tot l e)) ∧ (pEnd first tot l e = 0 → ∃ x, rangeLn first tot (pB l e).1 = some x ∧ pieceE first tot l e = dataL x (pC first tot l e).2.1) := by
  unfold pEnd pC pB pA pieceE
  by_cases he : e = 0
  · subst he
    rw [if_neg (by simp)]
    unfold pieceL
    cases h1 : lnL l with
    | none =>
      rw [lineS_none h1]
      simp only
      simp only [mustS_13, lineS_13]
      exact ⟨fun _ => by first | rfl | trivial, fun h => by cases h⟩
    | some x =>
      rw [lineS_some h1]
      simp only
      cases hk : kindLn x.1 with
      | false =>
        simp only [mustS_no, mustS_2, lineS_2]
        exact ⟨fun _ => by first | rfl | trivial, fun h => by cases h⟩
      | true =>
        rw [mustS_yes, if_neg (by simp)]
        cases h2 : lnL x.2 with
        | none =>
          rw [lineS_none h2]
          simp only
          simp only [mustS_13, lineS_13]
          exact ⟨fun _ => by first | rfl | trivial, fun h => by cases h⟩
        | some y =>
          rw [lineS_some h2]
          simp only
          cases hr : rangeLn first tot y.1 with
          | none =>
            simp only [Option.isSome_none]
            simp only [mustS_no, mustS_2, lineS_2]
            exact ⟨fun _ => by first | rfl | trivial, fun h => by cases h⟩
          | some z =>
            simp only [Option.isSome_some]
            rw [mustS_yes]
            cases h3 : lnL y.2 with
            | none =>
              rw [lineS_none h3]
              simp only
              simp only [mustS_13]
              exact ⟨fun _ => by first | rfl | trivial, fun h => by cases h⟩
            | some v =>
              rw [lineS_some h3]
              simp only
              by_cases hv : v.1 = []
              · rw [hv, if_neg (by simp)]
                exact ⟨fun h => absurd rfl h, fun _ => ⟨z, rfl, rfl⟩⟩
              · have hb : (v.1 == []) = false := by simpa using hv
                rw [hb, mustS_no, if_pos hv]
                exact ⟨fun _ => by first | rfl | trivial, fun h => by cases h⟩
  · rw [lineS_bad he]
    simp only
    rw [mustS_bad he, lineS_bad he]
    simp only
    rw [mustS_bad he, lineS_bad he]
    simp only
    rw [mustS_bad he, if_pos he]
    exact ⟨fun _ => rfl, fun h => absurd h he⟩
theorem lineS_len (l : List UInt8) (e : Nat) : (lineS l e).2.1.length ≤ l.length ∧ (lineS l e).1.length ≤ l.length := by
  unfold lineS
  split
  · exact ⟨Nat.le_refl _, Nat.zero_le _⟩
  · cases h : lnL l with
    | none => exact ⟨Nat.le_refl _, Nat.zero_le _⟩
    | some x =>
      obtain ⟨t, r⟩ := x
      obtain ⟨i, h1, h2, h3, h4, h5⟩ := lnL_some h
      have := crlf_lt h1
      simp only
      omega
/-- how a range comes back -/
def PieceEnd (w : World) (g : Nat) (r : Nat ⊕ (PieceT × List UInt8)) (e : Ending) (w' : World) : Prop := w.grownBy w' (some g) ∧ match r with
  | .inl n => ∃ l', e = .returned (.agg #[.int .i64 0, .int .i64 0, .int .i64 0, .slice none 0 0]) ∧ Scan w' g l' n
  | .inr (p, r) => ∃ v, e = .returned (.agg #[.int .i64 p.1.1, .int .i64 p.1.2.1, .int .i64 p.1.2.2, v]) ∧ Scan w' g r 0 ∧ Own w w' 5 1 v p.2.length (p.2.map byt)
theorem Byts.front {w : World} {A : Option Addr} {n c k : Nat} {l : List UInt8} (h : Byts w (.slice A n c) l) (hk : k ≤ l.length) : Sl w (.slice A k c) k ((l.take k).map byt) := by
  obtain ⟨A', c', hv, hc, hm, ho⟩ := h
  injection hv with e1 e2 e3
  subst e1 e2 e3
  refine ⟨A, c, rfl, by omega, by omega, ?_⟩
  rcases ho with ho | ⟨b, o, rfl, hb, hj⟩
  · have : l = [] := List.map_eq_nil_iff.1 ho
    subst this; left; simp
  · refine .inr ⟨b, o, rfl, hb, fun j u hu => hj j u ?_⟩
    rw [List.map_take, List.getElem?_take] at hu
    split at hu
    · exact hu
    · cases hu
theorem own_far4 {W0 w : World} {e t : TypeId} {size n b : Nat} {v x y z u : Value} {xs : List Value} {cs : Array Value} {fr : Nat × Nat} (h : Own W0 w e size v n xs) (hb : Bk w b t cs fr) (hne : e ≠ t) : Own W0 ((((w.setCell ⟨b, 0, none⟩ x).setCell ⟨b, 1, none⟩ y).setCell ⟨b, 2, none⟩ z).setCell ⟨b, 3, none⟩ u) e size v n xs := by
  have hv : v.ownBlock = none ∨ v.ownBlock ≠ some b := by
    rcases h.2 with ⟨rfl, _⟩ | ⟨b', cap, cur, rfl, _, hh, _⟩
    · exact .inl rfl
    · refine .inr fun e => ?_
      have : b' = b := by simpa [Value.ownBlock] using e
      subst this
      unfold Bk at hb
      rw [hh] at hb
      injection hb with k
      injection k with _ k _
      exact hne k
  have k := by_st (by_st (by_st (by_st ((Gr.refl w).by (some b)) 0 x) 1 y) 2 z) 3 u
  exact own_kr h k hv
theorem by_new4 {a b : World} {r : Option Nat} {g : Nat} (h : a.grownBy b r) (hg : a.heap.size ≤ g) (x y z u : Value) : a.grownBy ((((b.setCell ⟨g, 0, none⟩ x).setCell ⟨g, 1, none⟩ y).setCell ⟨g, 2, none⟩ z).setCell ⟨g, 3, none⟩ u) r :=
  by_new (p := ⟨g, 3, none⟩) (by_new (p := ⟨g, 2, none⟩) (by_new (p := ⟨g, 1, none⟩) (by_new (p := ⟨g, 0, none⟩) h hg x) hg y) hg z) hg u
theorem gr_none {a b : World} (h : a.grownBy b none) : Gr a b := ⟨h.os, h.tape, h.output, h.size, fun k hk => h.block k hk (by simp)⟩
theorem line_eq {l t r : List UInt8} {e0 e1 : Nat} (h : lineS l e0 = (t, r, e1)) (w : World) (g : Nat) (hs : Scan w g l e0) (hm : Ml w) (hl : l.length < 4294967000) :
    Calls Tryz.prog 19 #[.pointer (some ⟨g, 0, none⟩)] w fun e w' => e = .returned (str t) ∧ Scan w' g r e1 ∧ w.grownBy w' (some g) := by
  have := scanLine_any w g l e0 hs hm hl
  rw [h] at this
  exact this
set_option maxHeartbeats 8000000 in
set_option maxRecDepth 100000 in
theorem piece_any (w : World) (g : Nat) (l : List UInt8) (e0 : Nat) (first : Bool) (tot : Int) (hs : Scan w g l e0) (hv : ∀ x, w.grownBy x (some g) → Vars x) (hl : l.length ≤ 1000000000) :
    Calls Tryz.prog 20 #[.pointer (some ⟨g, 0, none⟩), .bool first, .int .i64 tot] w (PieceEnd w g (pieceE first tot l e0)) := by
  obtain ⟨hR1, hR2⟩ := piece_run first tot l e0
  unfold pEnd pC at hR1 hR2
  obtain ⟨t1, l1, e1, hA⟩ : ∃ t1 l1 e1, lineS l e0 = (t1, l1, e1) := ⟨_, _, _, rfl⟩
  obtain ⟨t2, l2, e2, hBB⟩ : ∃ t2 l2 e2, lineS l1 (mustS (kindLn t1) e1) = (t2, l2, e2) := ⟨_, _, _, rfl⟩
  obtain ⟨t3, l3, e3, hC⟩ : ∃ t3 l3 e3, lineS l2 (mustS (rangeLn first tot t2).isSome e2) = (t3, l3, e3) := ⟨_, _, _, rfl⟩
  have hpB : pB l e0 = (t2, l2, e2) := by unfold pB pA; rw [hA]; exact hBB
  rw [hpB] at hR1 hR2
  simp only at hR1 hR2
  rw [hC] at hR1 hR2
  simp only at hR1 hR2
  clear hpB
  have HR1 := Lib.hid hR1; have HR2 := Lib.hid hR2; clear hR1 hR2
  have la := lineS_len l e0; have lb := lineS_len l1 (mustS (kindLn t1) e1); have lc := lineS_len l2 (mustS (rangeLn first tot t2).isSome e2)
  rw [hA] at la; rw [hBB] at lb; rw [hC] at lc
  simp only at la lb lc
  have HL1 := Lib.hid (line_eq hA); have HL2 := Lib.hid (line_eq hBB); have HL3 := Lib.hid (line_eq hC)
  clear hA hBB hC
  have HK := Lib.hid (kindLn_eq t1)
  have HRS := Lib.hid (rangeLn_some first tot t2)
  have HCP1 := Lib.hid (fun (w : World) => m_cutPre t1 typeN w)
  have HCP2 := Lib.hid (fun (w : World) => m_cutPre t2 rangeN w)
  have lt1 := trimP_len t1 typeN; have lt2 := trimP_len t2 rangeN
  have HKD := Lib.hid (fun (w : World) => kindly_any (Lib.trimPrefix t1 typeN) w (by omega))
  have HRG := Lib.hid (fun (w : World) (h : Vars w) => range_any (Lib.trimPrefix t2 rangeN) w h (by omega))
  rw [progR_eq, rangeV_eq] at HRG
  have HVL := Lib.hid (fun x (h : rangeLn first tot t2 = some x) => rangeLn_val h)
  have hgl : g < w.heap.size := by obtain ⟨A, c, h1, _⟩ := hs; exact h1.lt
  have HV := Lib.hid hv; clear hv
  have hb := Bk.new w 40 #[.int .i64 0, .int .i64 0, .int .i64 0, .slice none 0 0] (0, 0)
  have hG1 := Gr.al (Gr.refl w) (Obj.cells #[.int .i64 0, .int .i64 0, .int .i64 0, .slice none 0 0] 40)
  have HS1 := Lib.hid (hs.gr hG1)
  have hk1 := hG1.by (some g)
  generalize Lib.trimPrefix t1 typeN = kd at *
  generalize Lib.trimPrefix t2 rangeN = vl at *
  generalize hpb1 : typeN.isPrefixOf t1 = pb1 at *
  generalize hpb2 : rangeN.isPrefixOf t2 = pb2 at *
  clear hpb1 hpb2
  have HBD := Lib.hid (fun x (h : rangeR vl = some x) => cont_parts (cont_yes (f := x.1) (t := x.2.1) (n := x.2.2) (by rw [(rangeR_some h).1]; exact (rangeR_some h).2)))
  generalize rangeR vl = rr at *
  go_enter Tryz.func20, Tryz.ntmps20
  go_upto_region 1 with fail
  generalize w.alloc (Obj.cells #[.int .i64 0, .int .i64 0, .int .i64 0, .slice none 0 0] 40) = w1 at *
  have hgr : some w.heap.size ≠ some g := by simp; omega
  generalize hgg : w.heap.size = gr at *
  have HB1 := Lib.hid hb
  clear hb hs hG1
  go_upto_region 2 with (go_at_call 19; refine (HL1.out _ _ HS1.out (HV.out _ hk1).ml (by omega)).mono ?_; rintro e w2 ⟨rfl, hs2, hk2⟩; have HS2 := Lib.hid hs2; have HB2 := Lib.hid (bk_byo HB1.out hk2 hgr); have hk2 := by_trans hk1 hk2)
  go_upto_region 3 with (go_at_call 34; refine (HCP1.out _).mono ?_; rintro e w3 ⟨rfl, hG3⟩; have HS3 := Lib.hid (HS2.out.gr hG3); have HB3 := Lib.hid (HB2.out.gr hG3); have hk3 := by_tr hk2 hG3)
  clear HS1 HS2 HB1 HB2 hs2 hk1 hk2 hG3 HCP1 HL1
  go_cut [28] (fun s28 wx => w.grownBy wx (some g) ∧ Scan wx g l1 (mustS (kindLn t1) e1) ∧ Bk wx gr 40 #[.int .i64 0, .int .i64 0, .int .i64 0, .slice none 0 0] (0, 0))
  case first =>
    cases pb1 with
    | false =>
      go_wp2_with (go_at_call 18; refine (scanMust_any _ _ _ _ _ HS3.out).mono ?_; rintro e w4 ⟨rfl, hs4, hk4⟩)
      go_meet
      exact ⟨by_trans hk3 hk4, by rw [HK.out]; exact hs4, bk_byo HB3.out hk4 hgr⟩
    | true =>
      go_wp2_with (first
        | (go_at_call 14; refine (HKD.out _).mono ?_; rintro e w4 ⟨rfl, hG4⟩)
        | (go_at_call 18; refine (scanMust_any _ _ _ _ _ (HS3.out.gr hG4)).mono ?_; rintro e w5 ⟨rfl, hs5, hk5⟩))
      go_meet
      exact ⟨by_trans (by_tr hk3 hG4) hk5, by rw [HK.out]; exact hs5, bk_byo (HB3.out.gr hG4) hk5 hgr⟩
  case rest =>
    obtain ⟨hk4, hs4, hb4⟩ := hcut
    have HS4 := Lib.hid hs4; have HB4 := Lib.hid hb4
    clear hs4 hb4 HS3 HB3 hk3 HKD HK
    go_upto_region 5 with (go_at_call 19; refine (HL2.out _ _ HS4.out (HV.out _ hk4).ml (by omega)).mono ?_; rintro e w5 ⟨rfl, hs5, hk5⟩; have HS5 := Lib.hid hs5; have HB5 := Lib.hid (bk_byo HB4.out hk5 hgr); have hk5 := by_trans hk4 hk5)
    go_upto_region 6 with (go_at_call 34; refine (HCP2.out _).mono ?_; rintro e w6 ⟨rfl, hG6⟩; have HS6 := Lib.hid (HS5.out.gr hG6); have HB6 := Lib.hid (HB5.out.gr hG6); have hk6 := by_tr hk5 hG6)
    go_upto_region 7 with (go_at_call 35; refine (HRG.out _ (HV.out _ hk6)).mono ?_; rintro e w7 ⟨rfl, hG7⟩; have HS7 := Lib.hid (HS6.out.gr hG7); have HB7 := Lib.hid (HB6.out.gr hG7); have hk7 := by_tr hk6 hG7)
    have hbx := Bk.new w7 31 #[.int .i64 (rF rr), .int .i64 (rT rr)] (0, 0)
    have hG8 := Gr.al (Gr.refl w7) (Obj.cells #[.int .i64 (rF rr), .int .i64 (rT rr)] 31)
    have hbx1 : some w7.heap.size ≠ some g := by have := HB7.out.lt; simp; omega
    have hbx2 : gr < w7.heap.size := HB7.out.lt
    have HS8 := Lib.hid (HS7.out.gr hG8); have HB8 := Lib.hid (HB7.out.gr hG8); have hk8 := by_tr hk7 hG8
    generalize w7.alloc (Obj.cells #[.int .i64 (rF rr), .int .i64 (rT rr)] 31) = w8 at *
    generalize w7.heap.size = bx at *
    have HX8 := Lib.hid hbx
    clear hbx hG8 HS4 HS5 HS6 HS7 HB4 HB5 HB6 HB7 hs5 hk4 hk5 hG6 hG7 HCP2 HRG HL2
    go_cut [56] (fun s56 wx => w.grownBy wx (some g) ∧ Scan wx g l2 (mustS (rangeLn first tot t2).isSome e2) ∧ Bk wx gr 40 #[.int .i64 0, .int .i64 0, .int .i64 0, .slice none 0 0] (0, 0) ∧ Bk wx bx 31 #[.int .i64 (rF rr), .int .i64 (rT rr)] (0, 0))
    case first =>
      cases pb2 <;> cases hq1 : (rE rr == 0) <;> cases first <;> cases hq2 : (rN rr == tot)
      all_goals
        rw [hq1, hq2] at HRS
        go_wp2_with (go_at_call 18; refine (scanMust_any _ _ _ _ _ HS8.out).mono ?_; rintro e w9 ⟨rfl, hs9, hk9⟩)
        go_meet
        exact ⟨by_trans hk8 hk9, by rw [HRS.out]; exact hs9, bk_byo HB8.out hk9 hgr, bk_byo HX8.out hk9 hbx1⟩
    case rest =>
      obtain ⟨hk9, hs9, hb9, hx9⟩ := hcut
      have HS9 := Lib.hid hs9; have HB9 := Lib.hid hb9; have HX9 := Lib.hid hx9
      clear hs9 hb9 hx9 HS8 HB8 HX8 hk8 HRS
      go_upto_region 9 with (go_at_call 19; refine (HL3.out _ _ HS9.out (HV.out _ hk9).ml (by omega)).mono ?_; rintro e w10 ⟨rfl, hs10, hk10⟩; have HS10 := Lib.hid hs10; have HB10 := Lib.hid (bk_byo HB9.out hk10 hgr); have HX10 := Lib.hid (bk_byo HX9.out hk10 hbx1); have hk10 := by_trans hk9 hk10)
      go_upto_region 10 with (go_at_call 18; refine (scanMust_any _ _ _ _ _ HS10.out).mono ?_; rintro e w11 ⟨rfl, hs11, hk11⟩; have HS11 := Lib.hid hs11; have HB11 := Lib.hid (bk_byo HB10.out hk11 hgr); have HX11 := Lib.hid (bk_byo HX10.out hk11 hbx1); have hk11 := by_trans hk10 hk11)
      clear HS9 HS10 HB9 HB10 HX9 HX10 hk9 hk10 hs10 hs11 HL3
      rw [show t3.isEmpty = (t3 == []) from by cases t3 <;> rfl] at HS11
      generalize mustS (t3 == []) e3 = e6 at *
      obtain ⟨A, c, hb, hy, ho⟩ := HS11.out
      obtain ⟨q0, q1⟩ := hb.cells2
      obtain ⟨f0, f1⟩ := hb.free2
      have HY := Lib.hid hy; have HO := Lib.hid ho; have HBG := Lib.hid hb
      clear hb hy ho
      obtain ⟨z0, z1, z2, z3⟩ := (show Bk w11 gr 40 #[.int .i64 0, .int .i64 0, .int .i64 0, .slice none 0 0] (0, 0) from HB11.out).cells4
      obtain ⟨d0, d1, d2, d3⟩ := (show Bk w11 gr 40 #[.int .i64 0, .int .i64 0, .int .i64 0, .slice none 0 0] (0, 0) from HB11.out).free4
      obtain ⟨x0, x1⟩ := HX11.out.cells2
      have hgn : g ≠ gr := by omega
      by_cases h6 : e6 = 0
      · subst h6
        obtain ⟨x, hx1, hx2⟩ := HR2.out rfl
        obtain ⟨v1, v2, v3, v4⟩ := HVL.out x hx1
        have hbd := HBD.out x v4
        generalize rF rr = rf at *
        generalize rT rr = rt at *
        generalize rN rr = rn at *
        obtain ⟨xf, xt, xn⟩ := x
        simp only at v1 v2 v3 hbd
        subst v1 v2 v3
        have HE := Lib.hid hx2
        clear hx1 hx2 v4 HR1 HR2 HVL HBD
        by_cases hlong : l3.length < (rt - rf).toNat
        · have kl : decide ((l3.length : Int) < rt - rf) = true := decide_eq_true (by omega)
          have HD := Lib.hid (show dataL (rf, rt, rn) l3 = .inl 13 from if_pos hlong)
          rw [HD.out] at HE
          clear HD
          go_wp2_with fail
          have HB12 := Lib.hid (HB11.out.far (p := ⟨g, 1, none⟩) (Ne.symm hgn) (.int .i64 13))
          have hk12 := by_st hk11 1 (.int .i64 13)
          have HS12 := Lib.hid (show Scan (w11.setCell ⟨g, 1, none⟩ (.int .i64 13)) g l3 13 from ⟨A, c, by simpa using HBG.out.set 1 (.int .i64 13), HY.out.stO HO.out (Nat.le_refl g) _ _, HO.out⟩)
          obtain ⟨y0, y1, y2, y3⟩ := (HB12.out.set4 (.int .i64 0) (.int .i64 0) (.int .i64 0) (.slice none 0 0)).cells4
          exact bodyPost_ret (v := .agg #[.int .i64 0, .int .i64 0, .int .i64 0, .slice none 0 0]) (by simp [results, Tryz.results20, go_sem, y0, y1, y2, y3]) rfl ⟨by_new (by_new (by_new (by_new hk12 (Nat.le_of_eq hgg) _) (Nat.le_of_eq hgg) _) (Nat.le_of_eq hgg) _) (Nat.le_of_eq hgg) _, by rw [HE.out]; exact ⟨l3, rfl, (((HS12.out.far hgl _ _).far hgl _ _).far hgl _ _).far hgl _ _⟩⟩
        · have kl : decide ((l3.length : Int) < rt - rf) = false := decide_eq_false (by omega)
          have HD := Lib.hid (show dataL (rf, rt, rn) l3 = .inr (((rf, rt, rn), l3.take (rt - rf).toNat), l3.drop (rt - rf).toNat) from if_neg hlong)
          go_upto_region 16 with fail
          have p0 := gx_cell (r := none) x0 (by simp)
          have p1 := gx_cell (r := none) x1 (by simp)
          have p2 := gx_cell (r := none) q0 (by simp)
          have HSL := Lib.hid (HY.out.front (k := (rt - rf).toNat) (by omega))
          have b0 : 0 ≤ rt - rf := by omega
          have b1 : rt - rf ≤ (c : Int) := by have := HY.out.len; omega
          go_cut [15] (fun s15 wx => ∃ bp v', s15 = .pointer (some ⟨bp, 0, none⟩) ∧ gr < bp ∧ w.grownBy wx (some g) ∧ Scan wx g l3 0 ∧ Bk wx gr 40 #[.int .i64 0, .int .i64 0, .int .i64 0, .slice none 0 0] (0, 0) ∧ Bk wx bp 40 #[.int .i64 rf, .int .i64 rt, .int .i64 rn, v'] (0, 0) ∧ Own w wx 5 1 v' (rt - rf).toNat ((l3.take (rt - rf).toNat).map byt))
          case first =>
            refine wp_region_mix [0, 1, 2, 3, 4, 5, 6, 7] none 4 (by kernel_rfl) rfl (by kernel_rfl) (fun o _ _ _ _ h => by cases o <;> exact h) ?_
            simp only [pickOps, List.filterMap_cons, List.filterMap_nil, List.getElem?_cons_zero, List.getElem?_cons_succ]
            repeat (first | (refine wpGq_step (fun K hK => ?_); go_simp; refine hK _ ?_; clear hK K) | (refine wpGq_step (fun K hK => ?_); go_simp; simp only [↓IntWalk.iteOmega]; go_simp; refine hK _ ?_; clear hK K) | (refine wpGq_step (fun K hK => ?_); go_simp; apply Exists.intro; refine ⟨fun _ => ?_, hK _ ?_⟩; fail; clear hK K))
            refine wpGq_nil ?_
            refine wpG_two 8 10 (by kernel_rfl) rfl rfl rfl rfl (fun K hK wa hga => ?_) (fun K hK wa hga => ?_)
            · refine op_appS (W0 := w) (n := 0) (m := (rt - rf).toNat) (xs := []) (news := (l3.take (rt - rf).toNat).map byt) elemByte _ _ rfl rfl rfl ?_ (Own.nil _ _ _ _) (Sl.gr HSL.out hga) (by rw [List.length_map, List.length_take]; omega) (one_byt _) (by omega) (by decide) ?_
              · have := hga.size; have := hk11.size; omega
              intro v' wb hOwn hApp
              have hgb : Gr w11 wb := Gr.tr hga (gr_none hApp.grown)
              rw [Nat.zero_add, List.nil_append] at hOwn
              have HOwn := Lib.hid hOwn
              obtain ⟨A4, c4, rfl⟩ := hOwn.form
              refine hK _ _ (hgb.by _) ?_
              clear hK K hOwn hApp hga
              refine wpG_quiet [9] 2 (hgb.by _) rfl (by kernel_rfl) (fun o _ _ _ _ h => by cases o <;> exact h) ?_
              simp only [pickOps, List.filterMap_cons, List.filterMap_nil, List.getElem?_cons_zero, List.getElem?_cons_succ]
              repeat (first | (refine wpGq_step (fun K hK => ?_); go_simp; refine hK _ ?_; clear hK K) | (refine wpGq_step (fun K hK => ?_); go_simp; simp only [↓IntWalk.iteOmega]; go_simp; refine hK _ ?_; clear hK K) | (refine wpGq_step (fun K hK => ?_); go_simp; apply Exists.intro; refine ⟨fun _ => ?_, hK _ ?_⟩; fail; clear hK K))
              refine wpGq_nil ?_
              refine wpG_one 10 (by kernel_rfl) rfl rfl (fun K hK wc hgc => ?_)
              go_simp
              refine hK _ _ ((Gr.al hgc _).by _) ?_
              clear hK K
              refine wpG_one 11 (by kernel_rfl) rfl rfl (fun K hK wd hgd => ?_)
              have hbk := (Bk.new wc 40 #[.int .i64 0, .int .i64 0, .int .i64 0, .slice none 0 0] (0, 0)).gr hgd
              obtain ⟨s0, s1, s2, s3⟩ := hbk.cells4
              obtain ⟨t0, t1, t2, t3⟩ := hbk.free4
              have hGd : Gr w11 wd := Gr.tr (Gr.tr (Gr.tr hgb hgc) (Gr.al (Gr.refl _) _)) hgd
              go_simp
              refine hK _ _ (by_new4 ((Gr.tr (Gr.al hgc _) hgd).by _) hgc.size _ _ _ _) ?_
              clear hK K s0 s1 s2 s3 t0 t1 t2 t3
              refine wpG_done (by kernel_rfl) (fun we hge => ?_)
              go_wp2_with fail
              go_meet
              have hbw : wc.heap.size ≠ g := by have := HB11.out.lt; have := (Gr.tr hgb hgc).size; omega
              have hgb2 : g < wc.heap.size := by have := HB11.out.lt; have := (Gr.tr hgb hgc).size; omega
              have hbl : gr < wc.heap.size := by have := HB11.out.lt; have := (Gr.tr hgb hgc).size; omega
              have hwl : w.heap.size ≤ wc.heap.size := by omega
              have hHB := (((((HB11.out.gr hGd).far (p := ⟨wc.heap.size, 0, none⟩) (Nat.ne_of_lt hbl) (.int .i64 rf)).far (p := ⟨wc.heap.size, 1, none⟩) (Nat.ne_of_lt hbl) (.int .i64 rt)).far (p := ⟨wc.heap.size, 2, none⟩) (Nat.ne_of_lt hbl) (.int .i64 rn)).far (p := ⟨wc.heap.size, 3, none⟩) (Nat.ne_of_lt hbl) (.slice A4 (rt - rf).toNat c4)).gr hge
              have hHS := (((((HS11.out.gr hGd).far hgb2 0 (.int .i64 rf)).far hgb2 1 (.int .i64 rt)).far hgb2 2 (.int .i64 rn)).far hgb2 3 (.slice A4 (rt - rf).toNat c4)).gr hge
              have hOw := ((own_far4 (HOwn.out.gr (Gr.tr hgc (Gr.tr (Gr.al (Gr.refl _) _) hgd))) hbk (by decide)).gr hge)
              exact ⟨wc.heap.size, .slice A4 (rt - rf).toNat c4, rfl, hbl, by_tr (by_new4 (by_tr hk11 hGd) hwl _ _ _ _) hge, hHS, hHB, (hbk.set4 _ _ _ _).gr hge, hOw⟩
            · go_simp
              refine hK _ _ ((Gr.al hga _).by _) ?_
              clear hK K
              refine wpG_one 8 (by kernel_rfl) rfl rfl (fun K hK wb hgb => ?_)
              refine op_appS (W0 := w) (n := 0) (m := (rt - rf).toNat) (xs := []) (news := (l3.take (rt - rf).toNat).map byt) elemByte _ _ rfl rfl rfl ?_ (Own.nil _ _ _ _) (Sl.gr HSL.out (Gr.tr (Gr.al hga _) hgb)) (by rw [List.length_map, List.length_take]; omega) (one_byt _) (by omega) (by decide) ?_
              · have := (Gr.tr (Gr.al hga (Obj.cells #[.int .i64 0, .int .i64 0, .int .i64 0, .slice none 0 0] 40)) hgb).size; have := hk11.size; omega
              intro v' wc hOwn hApp
              have hgc : Gr wb wc := gr_none hApp.grown
              rw [Nat.zero_add, List.nil_append] at hOwn
              have HOwn := Lib.hid hOwn
              obtain ⟨A4, c4, rfl⟩ := hOwn.form
              have hGc : Gr w11 wc := Gr.tr (Gr.tr (Gr.al hga _) hgb) hgc
              refine hK _ _ (hGc.by _) ?_
              clear hK K hOwn hApp
              refine wpG_one 9 (by kernel_rfl) rfl rfl (fun K hK wq hgq => ?_)
              go_simp
              have hGq : Gr w11 wq := Gr.tr hGc hgq
              refine hK _ _ (hGq.by _) ?_
              clear hK K
              refine wpG_one 11 (by kernel_rfl) rfl rfl (fun K hK wd hgd => ?_)
              have hbk := (Bk.new wa 40 #[.int .i64 0, .int .i64 0, .int .i64 0, .slice none 0 0] (0, 0)).gr (Gr.tr (Gr.tr (Gr.tr hgb hgc) hgq) hgd)
              obtain ⟨s0, s1, s2, s3⟩ := hbk.cells4
              obtain ⟨t0, t1, t2, t3⟩ := hbk.free4
              have hGd : Gr w11 wd := Gr.tr hGq hgd
              go_simp
              refine hK _ _ (by_new4 (hGd.by _) hga.size _ _ _ _) ?_
              clear hK K s0 s1 s2 s3 t0 t1 t2 t3
              refine wpG_done (by kernel_rfl) (fun we hge => ?_)
              go_wp2_with fail
              go_meet
              have hbw : wa.heap.size ≠ g := by have := HB11.out.lt; have := hga.size; omega
              have hgb2 : g < wa.heap.size := by have := HB11.out.lt; have := hga.size; omega
              have hbl : gr < wa.heap.size := by have := HB11.out.lt; have := hga.size; omega
              have hwl : w.heap.size ≤ wa.heap.size := by omega
              have hHB := (((((HB11.out.gr hGd).far (p := ⟨wa.heap.size, 0, none⟩) (Nat.ne_of_lt hbl) (.int .i64 rf)).far (p := ⟨wa.heap.size, 1, none⟩) (Nat.ne_of_lt hbl) (.int .i64 rt)).far (p := ⟨wa.heap.size, 2, none⟩) (Nat.ne_of_lt hbl) (.int .i64 rn)).far (p := ⟨wa.heap.size, 3, none⟩) (Nat.ne_of_lt hbl) (.slice A4 (rt - rf).toNat c4)).gr hge
              have hHS := (((((HS11.out.gr hGd).far hgb2 0 (.int .i64 rf)).far hgb2 1 (.int .i64 rt)).far hgb2 2 (.int .i64 rn)).far hgb2 3 (.slice A4 (rt - rf).toNat c4)).gr hge
              have hOw := ((own_far4 (HOwn.out.gr (Gr.tr hgq hgd)) hbk (by decide)).gr hge)
              exact ⟨wa.heap.size, .slice A4 (rt - rf).toNat c4, rfl, hbl, by_tr (by_new4 (by_tr hk11 hGd) hwl _ _ _ _) hge, hHS, hHB, (hbk.set4 _ _ _ _).gr hge, hOw⟩
          case rest =>
            obtain ⟨bp, v', rfl, hbl, hk12, hs12, hb12, hp12, hown12⟩ := hcut
            obtain ⟨A4, c4, rfl⟩ := hown12.form
            obtain ⟨A5, c5, hb5, hy5, ho5⟩ := hs12
            have hbp : g ≠ bp := by omega
            have hbp2 : gr ≠ bp := by omega
            obtain ⟨q0, q1⟩ := hb5.cells2
            obtain ⟨f0, f1⟩ := hb5.free2
            obtain ⟨z0, z1, z2, z3⟩ := hb12.cells4
            obtain ⟨d0, d1, d2, d3⟩ := hb12.free4
            obtain ⟨p0, p1, p2, p3⟩ := hp12.cells4
            have HY5 := Lib.hid hy5; have HO5 := Lib.hid ho5; have HB5 := Lib.hid hb5; have HB12 := Lib.hid hb12; have HP12 := Lib.hid hp12; have HW12 := Lib.hid hown12
            clear hy5 ho5 hb5 hb12 hp12 hown12 x0 x1 HX11 HY HO HBG HS11 HB11 hk11 HSL
            rw [HD.out] at HE
            clear HD
            go_wp2_with (refine wpList_slLoB _ _ rfl rfl rfl rfl HY5.out ?_ ?_ ?_; omega; omega; intro A3 hA3 hO3; have HA3 := Lib.hid hA3; have HO3 := Lib.hid hO3; clear hA3 hO3)
            obtain ⟨y0, y1, y2, y3⟩ := ((HB12.out.far (p := ⟨g, 0, none⟩) (Ne.symm hgn) (.slice A3 (l3.length - (rt - rf).toNat) (c5 - (rt - rf).toNat))).set4 (.int .i64 rf) (.int .i64 rt) (.int .i64 rn) (.slice A4 (rt - rf).toNat c4)).cells4
            refine bodyPost_ret (v := .agg #[.int .i64 rf, .int .i64 rt, .int .i64 rn, .slice A4 (rt - rf).toNat c4]) (by simp [results, Tryz.results20, go_sem, y0, y1, y2, y3]) rfl ?_
            have hne : l3.drop (rt - rf).toNat = [] ∨ ∀ b, (Value.slice A3 (l3.length - (rt - rf).toNat) (c5 - (rt - rf).toNat)).ownBlock = some b → b < g := by
              rcases HO5.out with h | h
              · left; rw [h]; simp
              · right; rw [HO3.out]; exact h
            have hx := HB5.out.set 0 (.slice A3 (l3.length - (rt - rf).toNat) (c5 - (rt - rf).toNat))
            simp only [List.setIfInBounds_toArray, List.set_cons_zero] at hx
            have hs13 : Scan (wc.setCell ⟨g, 0, none⟩ (.slice A3 (l3.length - (rt - rf).toNat) (c5 - (rt - rf).toNat))) g (l3.drop (rt - rf).toNat) 0 := by
              refine ⟨A3, c5 - (rt - rf).toNat, ?_, ?_, ?_⟩
              · simp only [List.length_drop]; exact hx
              · simp only [List.length_drop]; exact HA3.out.stO hne (Nat.le_refl g) 0 _
              · simp only [List.length_drop]; exact hne
            have hk13 := by_new4 (by_st hk12 0 (.slice A3 (l3.length - (rt - rf).toNat) (c5 - (rt - rf).toNat))) (Nat.le_of_eq hgg) (.int .i64 rf) (.int .i64 rt) (.int .i64 rn) (.slice A4 (rt - rf).toNat c4)
            refine ⟨hk13, ?_⟩
            rw [HE.out]
            have hlt : (l3.take (rt - rf).toNat).length = (rt - rf).toNat := by rw [List.length_take]; omega
            refine ⟨_, rfl, (((hs13.far hgl _ _).far hgl _ _).far hgl _ _).far hgl _ _, ?_⟩
            simp only [hlt]
            have hog : (Value.slice A4 (rt - rf).toNat c4).ownBlock ≠ some g := own_ne HW12.out (by omega)
            have how := own_kr HW12.out (by_st ((Gr.refl wc).by (some g)) 0 (.slice A3 (l3.length - (rt - rf).toNat) (c5 - (rt - rf).toNat))) (.inr hog)
            exact own_far4 how (HB12.out.far (p := ⟨g, 0, none⟩) (Ne.symm hgn) (.slice A3 (l3.length - (rt - rf).toNat) (c5 - (rt - rf).toNat))) (by decide)
      · have hn : ((e6 : Int) != 0) = true := by simp; exact h6
        have HE := Lib.hid (HR1.out h6)
        go_wp2_with fail
        have HB12 := HB11; have hk12 := hk11; have HS12 := HS11
        obtain ⟨y0, y1, y2, y3⟩ := (HB12.out.set4 (.int .i64 0) (.int .i64 0) (.int .i64 0) (.slice none 0 0)).cells4
        exact bodyPost_ret (v := .agg #[.int .i64 0, .int .i64 0, .int .i64 0, .slice none 0 0]) (by simp [results, Tryz.results20, go_sem, y0, y1, y2, y3]) rfl ⟨by_new (by_new (by_new (by_new hk12 (Nat.le_of_eq hgg) _) (Nat.le_of_eq hgg) _) (Nat.le_of_eq hgg) _) (Nat.le_of_eq hgg) _, by rw [HE.out]; exact ⟨l3, rfl, (((HS12.out.far hgl _ _).far hgl _ _).far hgl _ _).far hgl _ _⟩⟩
end Go.Proofs.YtnmfmcmokdoieaaGreatDoor
