/- Layer 45: what an answer may tell, by the program and by the document; a body's bytes, and its end. Contracts. Conditions: the library's table. -/
import Derived.Test.YtcfefflnebkjnaaGreatDoorJChunk
import Derived.Test.YtcfefflnebkjnaaGreatDoorJMulti
set_option linter.unusedVariables false
set_option linter.unusedSimpArgs false
namespace Go.Proofs.YtcfefflnebkjnaaGreatDoor
open Go.RowKit
def lengthN : List UInt8 := [67, 111, 110, 116, 101, 110, 116, 45, 76, 101, 110, 103, 116, 104]
def codingN : List UInt8 := [84, 114, 97, 110, 115, 102, 101, 114, 45, 69, 110, 99, 111, 100, 105, 110, 103]
/-- may an answer's head be told? -/
def tellB (st : Int) (fs : List Fld) (sz : Int) : Bool := decide (100 ≤ st) && decide (st ≤ 599) && decide (-1 ≤ sz) && decide (sz ≤ 1099511627776) && decide ((ofN fs lengthN).length = 0) && decide ((ofN fs codingN).length = 0)
theorem tellB_iff {st sz : Int} {fs : List Fld} : tellB st fs sz = true ↔ 100 ≤ st ∧ st ≤ 599 ∧ -1 ≤ sz ∧ sz ≤ 1099511627776 ∧ ofN fs lengthN = [] ∧ ofN fs codingN = [] := by
  unfold tellB; simp [and_assoc]
theorem tellB_no {st sz : Int} {fs : List Fld} (h : ¬ (100 ≤ st ∧ st ≤ 599 ∧ -1 ≤ sz ∧ sz ≤ 1099511627776 ∧ ofN fs lengthN = [] ∧ ofN fs codingN = [])) : tellB st fs sz = false := by
  cases hb : tellB st fs sz with
  | false => rfl
  | true => exact absurd (tellB_iff.1 hb) h
theorem getN_found (l : List Fld) (n : List UInt8) : (getN l n).2 = !(decide ((ofN l n).length = 0)) := by
  unfold getN
  cases ofN l n <;> simp
set_option maxHeartbeats 4000000 in
set_option maxRecDepth 100000 in
theorem tells45_any (st sz : Int) (fs : List Fld) (A : Option Addr) (c : Nat) (vp : Value) (w : World) (hf : Flds w (.slice A fs.length c) fs) (hs : Short2 fs) :
    Calls Tryz.prog 62 #[.agg #[.int .i64 st, .slice A fs.length c, vp, .int .i64 sz]] w fun e w' => e = .returned (.bool (tellB st fs sz)) ∧ Gr w w' := by
  have HN := Lib.hid (fun h => tellB_no (st := st) (sz := sz) (fs := fs) h)
  have HY := Lib.hid (tellB_iff (st := st) (sz := sz) (fs := fs))
  have HG := Lib.hid (fun (n : List UInt8) (hn : n.length ≤ 100) (x : World) (g : Gr w x) => get_any (.slice A fs.length c) fs n x (hf.gr g) hs (by omega))
  have H1 := Lib.hid (getN_found fs lengthN)
  have H2 := Lib.hid (getN_found fs codingN)
  generalize tellB st fs sz = tb at *
  clear hf hs
  by_cases h0 : st < 100
  · have k0 : decide (st < 100) = true := decide_eq_true h0
    have HN := Lib.hid (HN.out (by omega))
    clear HG H1 H2 HY
    go_enter Tryz.func62, Tryz.ntmps62
    go_wp2_with fail
    go_ret
    exact ⟨ret_bool HN.out.symm, Gr.al (Gr.refl w) _⟩
  · have k0 : decide (st < 100) = false := decide_eq_false h0
    by_cases h1 : 599 < st
    · have k1 : decide (599 < st) = true := decide_eq_true h1
      have HN := Lib.hid (HN.out (by omega))
      clear HG H1 H2 HY
      go_enter Tryz.func62, Tryz.ntmps62
      go_wp2_with fail
      go_ret
      exact ⟨ret_bool HN.out.symm, Gr.al (Gr.refl w) _⟩
    · have k1 : decide (599 < st) = false := decide_eq_false h1
      by_cases h2 : sz < -1
      · have k2 : decide (sz < -1) = true := decide_eq_true h2
        have HN := Lib.hid (HN.out (by omega))
        clear HG H1 H2 HY
        go_enter Tryz.func62, Tryz.ntmps62
        go_wp2_with fail
        go_ret
        exact ⟨ret_bool HN.out.symm, Gr.al (Gr.refl w) _⟩
      · have k2 : decide (sz < -1) = false := decide_eq_false h2
        by_cases h3 : 1099511627776 < sz
        · have k3 : decide (1099511627776 < sz) = true := decide_eq_true h3
          have HN := Lib.hid (HN.out (by omega))
          clear HG H1 H2 HY
          go_enter Tryz.func62, Tryz.ntmps62
          go_wp2_with fail
          go_ret
          exact ⟨ret_bool HN.out.symm, Gr.al (Gr.refl w) _⟩
        · have k3 : decide (1099511627776 < sz) = false := decide_eq_false h3
          have HA := Lib.hid (fun (x : World) (g : Gr w x) => show Calls Tryz.prog 40 #[.slice A fs.length c, .string { data := #[67, 111, 110, 116, 101, 110, 116, 45, 76, 101, 110, 103, 116, 104] }] x _ from HG.out lengthN (by decide) x g)
          have HB := Lib.hid (fun (x : World) (g : Gr w x) => show Calls Tryz.prog 40 #[.slice A fs.length c, .string { data := #[84, 114, 97, 110, 115, 102, 101, 114, 45, 69, 110, 99, 111, 100, 105, 110, 103] }] x _ from HG.out codingN (by decide) x g)
          rw [H1.out] at HA
          rw [H2.out] at HB
          have HR := Lib.hid (show tb = (decide ((ofN fs lengthN).length = 0) && decide ((ofN fs codingN).length = 0)) from by
            by_cases q1 : ofN fs lengthN = []
            · by_cases q2 : ofN fs codingN = []
              · rw [q1, q2]; exact HY.out.2 ⟨by omega, by omega, by omega, by omega, q1, q2⟩
              · rw [HN.out (fun h => q2 h.2.2.2.2.2)]; simp [q2]
            · rw [HN.out (fun h => q1 h.2.2.2.2.1)]; simp [q1])
          clear HG H1 H2 HY HN
          generalize decide ((ofN fs lengthN).length = 0) = b1 at *
          generalize decide ((ofN fs codingN).length = 0) = b2 at *
          have hb := Bk.new w 45 #[.int .i64 st, .slice A fs.length c, vp, .int .i64 sz] (0, 0)
          have hG1 := Gr.al (Gr.refl w) (Obj.cells #[.int .i64 st, .slice A fs.length c, vp, .int .i64 sz] 45)
          go_enter Tryz.func62, Tryz.ntmps62
          go_upto_region 1 with fail
          generalize w.alloc (Obj.cells #[.int .i64 st, .slice A fs.length c, vp, .int .i64 sz] 45) = w1 at *
          generalize w.heap.size = g at *
          obtain ⟨q0, q1, q2, q3⟩ := hb.cells4
          clear hb
          cases b1 <;> cases b2
          all_goals
            go_wp2_with (go_at_call 40; first
              | ((with_reducible refine (HA.out _ hG1).mono ?_); rintro e w2 ⟨rfl, hG2⟩; have q1 := hG2.cell q1; clear HA)
              | ((with_reducible refine (HB.out _ (Gr.tr hG1 hG2)).mono ?_); rintro e w3 ⟨rfl, hG3⟩))
            go_ret
            exact ⟨ret_bool HR.out.symm, Gr.tr hG1 (Gr.tr hG2 hG3)⟩
set_option maxHeartbeats 4000000 in
set_option maxRecDepth 100000 in
theorem refAnswerOk_any (st sz : Int) (fs : List Fld) (A : Option Addr) (c : Nat) (vp : Value) (w : World) (hf : Flds w (.slice A fs.length c) fs) (hs : Short2 fs) (_hl : fs.length ≤ 1000000) :
    Calls Tryz.prog 65 #[.agg #[.int .i64 st, .slice A fs.length c, vp, .int .i64 sz]] w fun e w' => e = .returned (.bool (tellB st fs sz)) ∧ Gr w w' := by
  have HN := Lib.hid (fun h => tellB_no (st := st) (sz := sz) (fs := fs) h)
  have HY := Lib.hid (tellB_iff (st := st) (sz := sz) (fs := fs))
  have HA := Lib.hid (fun (x : World) (g : Gr w x) => show Calls Tryz.prog 45 #[.slice A fs.length c, .string { data := #[67, 111, 110, 116, 101, 110, 116, 45, 76, 101, 110, 103, 116, 104] }] x _ from refOf_any (.slice A fs.length c) fs lengthN x (hf.gr g) hs (by decide) _hl)
  have HB := Lib.hid (fun (x : World) (g : Gr w x) => show Calls Tryz.prog 45 #[.slice A fs.length c, .string { data := #[84, 114, 97, 110, 115, 102, 101, 114, 45, 69, 110, 99, 111, 100, 105, 110, 103] }] x _ from refOf_any (.slice A fs.length c) fs codingN x (hf.gr g) hs (by decide) _hl)
  generalize tellB st fs sz = tb at *
  clear hf hs
  by_cases h0 : 100 ≤ st
  case neg =>
    have k0 : decide (100 ≤ st) = false := decide_eq_false h0
    have HN := Lib.hid (HN.out (by omega))
    clear HA HB HY
    go_enter Tryz.func65, Tryz.ntmps65
    go_wp2_with fail
    go_ret
    exact ⟨ret_bool HN.out.symm, Gr.al (Gr.refl w) _⟩
  case pos =>
    have k0 : decide (100 ≤ st) = true := decide_eq_true h0
    by_cases h1 : st ≤ 599
    case neg =>
      have k1 : decide (st ≤ 599) = false := decide_eq_false h1
      have HN := Lib.hid (HN.out (by omega))
      clear HA HB HY
      go_enter Tryz.func65, Tryz.ntmps65
      go_wp2_with fail
      go_ret
      exact ⟨ret_bool HN.out.symm, Gr.al (Gr.refl w) _⟩
    case pos =>
      have k1 : decide (st ≤ 599) = true := decide_eq_true h1
      by_cases h2 : -1 ≤ sz
      case neg =>
        have k2 : decide (-1 ≤ sz) = false := decide_eq_false h2
        have HN := Lib.hid (HN.out (by omega))
        clear HA HB HY
        go_enter Tryz.func65, Tryz.ntmps65
        go_wp2_with fail
        go_ret
        exact ⟨ret_bool HN.out.symm, Gr.al (Gr.refl w) _⟩
      case pos =>
        have k2 : decide (-1 ≤ sz) = true := decide_eq_true h2
        by_cases h3 : sz ≤ 1099511627776
        case neg =>
          have k3 : decide (sz ≤ 1099511627776) = false := decide_eq_false h3
          have HN := Lib.hid (HN.out (by omega))
          clear HA HB HY
          go_enter Tryz.func65, Tryz.ntmps65
          go_wp2_with fail
          go_ret
          exact ⟨ret_bool HN.out.symm, Gr.al (Gr.refl w) _⟩
        case pos =>
          have k3 : decide (sz ≤ 1099511627776) = true := decide_eq_true h3
          have HR := Lib.hid (show tb = (decide ((ofN fs lengthN).length = 0) && decide ((ofN fs codingN).length = 0)) from by
            by_cases q1 : ofN fs lengthN = []
            · by_cases q2 : ofN fs codingN = []
              · rw [q1, q2]; exact HY.out.2 ⟨by omega, by omega, by omega, by omega, q1, q2⟩
              · rw [HN.out (fun h => q2 h.2.2.2.2.2)]; simp [q2]
            · rw [HN.out (fun h => q1 h.2.2.2.2.1)]; simp [q1])
          clear HY HN
          generalize ofN fs lengthN = L1 at *
          generalize ofN fs codingN = L2 at *
          have hb := Bk.new w 45 #[.int .i64 st, .slice A fs.length c, vp, .int .i64 sz] (0, 0)
          have hG1 := Gr.al (Gr.refl w) (Obj.cells #[.int .i64 st, .slice A fs.length c, vp, .int .i64 sz] 45)
          go_enter Tryz.func65, Tryz.ntmps65
          go_upto_region 1 with fail
          generalize w.alloc (Obj.cells #[.int .i64 st, .slice A fs.length c, vp, .int .i64 sz] 45) = w1 at *
          generalize w.heap.size = g at *
          obtain ⟨q0, q1, q2, q3⟩ := hb.cells4
          clear hb
          by_cases y1 : L1.length = 0
          · have z1 : ((L1.length : Int) == 0) = true := by simp [y1]
            by_cases y2 : L2.length = 0
            · have z2 : ((L2.length : Int) == 0) = true := by simp [y2]
              rw [decide_eq_true y1, decide_eq_true y2] at HR
              clear y1 y2
              go_wp2_with (go_at_call 45; first
                | ((with_reducible refine (HA.out _ hG1).mono ?_); rintro e w2 ⟨v1, rfl, hs1, hG2⟩; have q1 := hG2.cell q1; obtain ⟨A1, c1, rfl, _, _, _⟩ := hs1.open; clear HA hs1)
                | ((with_reducible refine (HB.out _ (Gr.tr hG1 hG2)).mono ?_); rintro e w3 ⟨v2, rfl, hs2, hG3⟩; obtain ⟨A2, c2, rfl, _, _, _⟩ := hs2.open; clear hs2))
              go_ret
              exact ⟨ret_bool HR.out.symm, Gr.tr hG1 (Gr.tr hG2 hG3)⟩
            · have z2 : ((L2.length : Int) == 0) = false := by simp; intro h; exact y2 (by simp [h])
              rw [decide_eq_true y1, decide_eq_false y2] at HR
              clear y1 y2
              go_wp2_with (go_at_call 45; first
                | ((with_reducible refine (HA.out _ hG1).mono ?_); rintro e w2 ⟨v1, rfl, hs1, hG2⟩; have q1 := hG2.cell q1; obtain ⟨A1, c1, rfl, _, _, _⟩ := hs1.open; clear HA hs1)
                | ((with_reducible refine (HB.out _ (Gr.tr hG1 hG2)).mono ?_); rintro e w3 ⟨v2, rfl, hs2, hG3⟩; obtain ⟨A2, c2, rfl, _, _, _⟩ := hs2.open; clear hs2))
              go_ret
              exact ⟨ret_bool HR.out.symm, Gr.tr hG1 (Gr.tr hG2 hG3)⟩
          · have z1 : ((L1.length : Int) == 0) = false := by simp; intro h; exact y1 (by simp [h])
            rw [decide_eq_false y1, Bool.false_and] at HR
            clear y1
            go_wp2_with (go_at_call 45; (with_reducible refine (HA.out _ hG1).mono ?_); rintro e w2 ⟨v1, rfl, hs1, hG2⟩; obtain ⟨A1, c1, rfl, _, _, _⟩ := hs1.open; clear HA hs1)
            go_ret
            exact ⟨ret_bool HR.out.symm, Gr.tr hG1 hG2⟩
/-- the bytes of a body -/
def gBody (sz : Int) (l : List UInt8) : List UInt8 := if sz = -1 then chunkL l else l
set_option maxRecDepth 100000 in
theorem gateBody_any (st sz : Int) (vf vp : Value) (l : List UInt8) (v : Value) (w : World) (hz : Tz w) (hb : Byts w v l) (hl : l.length ≤ 1000000) :
    Calls Tryz.prog 22 #[.agg #[.int .i64 st, vf, vp, .int .i64 sz], v] w fun e w' => ∃ A c, e = .returned (.slice A (gBody sz l).length c) ∧ Byts w' (.slice A (gBody sz l).length c) (gBody sz l) ∧ Gr w w' := by
  have HZ := Lib.hid hz
  clear hz
  obtain ⟨A, c, rfl, hc, hm, _⟩ := id hb
  have HP := Lib.hid (fun (x : World) (g : Gr w x) => chunkPut_any l (.slice A l.length c) x (HZ.out.gr g) (hb.gr g) hl)
  by_cases h1 : sz = -1
  · subst h1
    have HC := Lib.hid (show gBody (-1) l = chunkL l from rfl)
    clear hb
    go_enter Tryz.func22, Tryz.ntmps22
    go_wp2_with (go_at_call 67; refine (HP.out _ (Gr.al (Gr.refl w) _)).mono ?_; rintro e w2 ⟨A2, c2, rfl, hb2, hG2⟩; have HB2 := Lib.hid hb2; clear hb2)
    go_ret
    rw [HC.out]
    exact ⟨A2, c2, rfl, HB2.out, Gr.tr (Gr.al (Gr.refl w) _) hG2⟩
  · have k1 : (sz == -1) = false := by simpa using h1
    have HC := Lib.hid (show gBody sz l = l from if_neg h1)
    have HB := Lib.hid (hb.gr (Gr.al (Gr.refl w) (Obj.cells #[.int .i64 st, vf, vp, .int .i64 sz] 45)))
    have hG1 := Gr.al (Gr.refl w) (Obj.cells #[.int .i64 st, vf, vp, .int .i64 sz] 45)
    have hbk := Bk.new w 45 #[.int .i64 st, vf, vp, .int .i64 sz] (0, 0)
    clear h1 hb
    go_enter Tryz.func22, Tryz.ntmps22
    go_upto_region 1 with fail
    generalize w.alloc (Obj.cells #[.int .i64 st, vf, vp, .int .i64 sz] 45) = w1 at *
    generalize w.heap.size = g at *
    obtain ⟨q0, q1, q2, q3⟩ := hbk.cells4
    clear hbk
    go_wp2_with (at_builtin; refine wpList_appS (W0 := w) (W := w1) (m := l.length) elemByte rfl _ _ rfl rfl rfl hG1.size (Own.nil w w1 _ _) HB.out (by simp) (one_byt _) (by omega) (by decide) ?_; intro v2 w2 hown2 happ2; rw [Nat.zero_add, List.nil_append] at hown2; obtain ⟨A2, c2, rfl⟩ := hown2.form; have hG2 := happ2.gr hG1 (Own.nil w w1 5 1); have HO2 := Lib.hid (own_byts hown2); clear hown2 happ2)
    go_ret
    rw [HC.out]
    exact ⟨A2, c2, rfl, HO2.out, hG2⟩
set_option maxRecDepth 100000 in
theorem refBody45_any (st sz : Int) (vf vp : Value) (l : List UInt8) (v : Value) (w : World) (hb : Byts w v l) (hl : l.length ≤ 1000000) :
    Calls Tryz.prog 23 #[.agg #[.int .i64 st, vf, vp, .int .i64 sz], v] w fun e w' => ∃ A c, e = .returned (.slice A (gBody sz l).length c) ∧ Byts w' (.slice A (gBody sz l).length c) (gBody sz l) ∧ Gr w w' := by
  obtain ⟨A, c, rfl, hc, hm, _⟩ := id hb
  have HP := Lib.hid (fun (x : World) (g : Gr w x) => refChunkPut_any l (.slice A l.length c) x (hb.gr g) hl)
  by_cases h1 : sz = -1
  · subst h1
    have HC := Lib.hid (show gBody (-1) l = chunkL l from rfl)
    clear hb
    go_enter Tryz.func23, Tryz.ntmps23
    go_wp2_with (go_at_call 68; refine (HP.out _ (Gr.al (Gr.refl w) _)).mono ?_; rintro e w2 ⟨A2, c2, rfl, hb2, hG2⟩; have HB2 := Lib.hid hb2; clear hb2)
    go_ret
    rw [HC.out]
    exact ⟨A2, c2, rfl, HB2.out, Gr.tr (Gr.al (Gr.refl w) _) hG2⟩
  · have k1 : (sz == -1) = false := by simpa using h1
    have HC := Lib.hid (show gBody sz l = l from if_neg h1)
    have HB := Lib.hid (hb.gr (Gr.al (Gr.refl w) (Obj.cells #[.int .i64 st, vf, vp, .int .i64 sz] 45)))
    have hG1 := Gr.al (Gr.refl w) (Obj.cells #[.int .i64 st, vf, vp, .int .i64 sz] 45)
    have hbk := Bk.new w 45 #[.int .i64 st, vf, vp, .int .i64 sz] (0, 0)
    clear h1 hb
    go_enter Tryz.func23, Tryz.ntmps23
    go_upto_region 1 with fail
    generalize w.alloc (Obj.cells #[.int .i64 st, vf, vp, .int .i64 sz] 45) = w1 at *
    generalize w.heap.size = g at *
    obtain ⟨q0, q1, q2, q3⟩ := hbk.cells4
    clear hbk
    go_wp2_with fail
    go_ret
    rw [HC.out]
    exact ⟨A, c, rfl, HB.out, hG1⟩
/-- the bytes of an end -/
def gEnd (sz : Int) (whole : Bool) : List UInt8 := if sz = -1 ∧ whole = true then lastL else []
theorem gateEnd_any (st sz : Int) (vf vp : Value) (b : Bool) (w : World) :
    Calls Tryz.prog 24 #[.agg #[.int .i64 st, vf, vp, .int .i64 sz], .bool b] w fun e w' => ∃ A c, e = .returned (.slice A (gEnd sz b).length c) ∧ Byts w' (.slice A (gEnd sz b).length c) (gEnd sz b) ∧ Gr w w' := by
  have HL := Lib.hid (fun (x : World) => chunkLast_any x)
  by_cases h1 : sz = -1
  · subst h1
    cases b with
    | true =>
      go_enter Tryz.func24, Tryz.ntmps24
      go_wp2_with (go_at_call 69; refine (HL.out _).mono ?_; rintro e w2 ⟨A2, c2, rfl, hb2, hG2⟩; have HB2 := Lib.hid hb2; clear hb2)
      go_ret
      exact ⟨A2, c2, rfl, HB2.out, Gr.tr (Gr.al (Gr.refl w) _) hG2⟩
    | false =>
      go_enter Tryz.func24, Tryz.ntmps24
      go_wp2_with fail
      go_ret
      exact ⟨none, 0, rfl, Byts.nil _, Gr.al (Gr.refl w) _⟩
  · have k1 : (sz == -1) = false := by simpa using h1
    have HC := Lib.hid (show gEnd sz b = [] from if_neg (fun h => h1 h.1))
    clear h1
    go_enter Tryz.func24, Tryz.ntmps24
    go_wp2_with fail
    go_ret
    rw [HC.out]
    exact ⟨none, 0, rfl, Byts.nil _, Gr.al (Gr.refl w) _⟩
theorem refEnd45_any (st sz : Int) (vf vp : Value) (b : Bool) (w : World) :
    Calls Tryz.prog 25 #[.agg #[.int .i64 st, vf, vp, .int .i64 sz], .bool b] w fun e w' => ∃ A c, e = .returned (.slice A (gEnd sz b).length c) ∧ Byts w' (.slice A (gEnd sz b).length c) (gEnd sz b) ∧ Gr w w' := by
  have HL := Lib.hid (fun (x : World) => refLast10_any x)
  by_cases h1 : sz = -1
  · subst h1
    cases b with
    | true =>
      go_enter Tryz.func25, Tryz.ntmps25
      go_wp2_with (go_at_call 70; refine (HL.out _).mono ?_; rintro e w2 ⟨A2, c2, rfl, hb2, hG2⟩; have HB2 := Lib.hid hb2; clear hb2)
      go_ret
      exact ⟨A2, c2, rfl, HB2.out, Gr.tr (Gr.al (Gr.refl w) _) hG2⟩
    | false =>
      go_enter Tryz.func25, Tryz.ntmps25
      go_wp2_with fail
      go_ret
      exact ⟨none, 0, rfl, Byts.nil _, Gr.al (Gr.refl w) _⟩
  · have k1 : (sz == -1) = false := by simpa using h1
    have HC := Lib.hid (show gEnd sz b = [] from if_neg (fun h => h1 h.1))
    clear h1
    go_enter Tryz.func25, Tryz.ntmps25
    go_wp2_with fail
    go_ret
    rw [HC.out]
    exact ⟨none, 0, rfl, Byts.nil _, Gr.al (Gr.refl w) _⟩
end Go.Proofs.YtcfefflnebkjnaaGreatDoor
