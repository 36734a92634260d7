/- The block with which a text begins. Contracts; a text shorter than 2 to the 32nd. -/
import Derived.Test.YtidijgofoklejaaDoorField6
namespace Go.Proofs.YtidijgofoklejaaDoor
open Go.RowKit
/-- the library's own variable holds a number -/
def Ml (w : World) : Prop := ∃ m, w.cell? ⟨0, 0, none⟩ = some (.int .i64 m)
theorem Ml.gr {w w' : World} (h : Ml w) (g : Gr w w') : Ml w' := by obtain ⟨m, h⟩ := h; exact ⟨m, Gr.cell g h⟩
theorem crlf_any (l : List UInt8) (w : World) (hm : Ml w) (hl : l.length < 4294967281) : Calls Tryd.prog 54 #[str l, .string ⟨#[13, 10]⟩] w fun e w' => e = .returned (.int .i64 (Lib.index l [13, 10])) ∧ Gr w w' := by
  obtain ⟨m, hm⟩ := hm
  exact (Tryd.strings_Index ⟨l.toArray⟩ ⟨#[13, 10]⟩ m w hl hm).mono fun e w' ⟨h1, h2⟩ => ⟨h1, by rw [h2]; exact Gr.refl _⟩
theorem cut_any (l : List UInt8) (w : World) (hm : Ml w) (hl : l.length < 4294967281) : Calls Tryd.prog 29 #[str l, .string ⟨#[58]⟩] w fun e w' => e = .returned (.tuple #[str (Lib.cut l [58]).1, str (Lib.cut l [58]).2.1, .bool (Lib.cut l [58]).2.2]) ∧ Gr w w' := by
  obtain ⟨m, hm⟩ := hm
  exact (Tryd.strings_Cut ⟨l.toArray⟩ ⟨#[58]⟩ m w hl hm).mono fun e w' ⟨h1, n, h2⟩ => ⟨h1, by rw [h2]; exact Gr.drN (Gr.refl _) n⟩
theorem nil_fld (w : World) : Flds w (.slice none 0 0) [] := ⟨none, 0, rfl, Nat.le_refl _, by simp, .inl rfl⟩
theorem parseGo_none {s : List UInt8} {fuel k : Nat} {acc : List Fld} (h : crlf (s.drop k) = none) : parseGo s (fuel + 1) k acc = if 65536 < s.length then ([], 0, 4) else ([], 0, 3) := by
  rw [parseGo, h]
theorem parseGo_some {s : List UInt8} {fuel k j : Nat} {acc : List Fld} (h : crlf (s.drop k) = some j) : parseGo s (fuel + 1) k acc = if 65536 < k + j + 2 then ([], 0, 4) else if j = 0 then (acc, k + 2, 0) else if acc.length = 100 then ([], 0, 4)
    else if (fieldR ((s.drop k).take j)).2 then parseGo s fuel (k + j + 2) (acc ++ [(fieldR ((s.drop k).take j)).1]) else ([], 0, 2) := by
  rw [parseGo, h]
/-- what lies behind a value is new -/
def Fresh (w : World) (v : Value) : Prop := ∀ b, v.ownBlock = some b → w.heap.size ≤ b
theorem fresh_nil (w : World) : Fresh w (.slice none 0 0) := fun b h => by simp [Value.ownBlock] at h
theorem fresh_own {W0 w : World} {e : TypeId} {size n : Nat} {v : Value} {xs : List Value} (h : Own W0 w e size v n xs) : Fresh W0 v := fun b hb => (World.ownsRow.lt h b hb).1
theorem Fresh.tr {a b : World} {v : Value} (g : Gr a b) (h : Fresh b v) : Fresh a v := fun k hk => Nat.le_trans g.size (h k hk)
def ParseEndF (w : World) (r : List Fld × Nat × Nat) (e : Ending) (w' : World) : Prop := ∃ v, e = .returned (.tuple #[v, .int .i64 r.2.1, .int .i64 r.2.2]) ∧ Flds w' v r.1 ∧ Gr w w' ∧ Fresh w v
/-- what Parse answers -/
def ParseEnd (w : World) (r : List Fld × Nat × Nat) (e : Ending) (w' : World) : Prop := ∃ v, e = .returned (.tuple #[v, .int .i64 r.2.1, .int .i64 r.2.2]) ∧ Flds w' v r.1 ∧ Gr w w'
set_option maxHeartbeats 2000000 in
set_option maxRecDepth 100000 in
theorem parse_anyF (s : List UInt8) (w : World) (hm : Ml w) (_hs : s.length < 4294967000) : Calls Tryd.prog 38 #[str s] w (ParseEndF w (parse s)) := by
  have HM := Lib.hid hm; clear hm
  go_enter Tryd.func38, Tryd.ntmps38
  go_wp2_with fail
  go_loopw [2, 3, 4, 5, 6, 7, 8, 9, 10, 11, 12] (fun x2 x3 x4 v i x7 x8 x9 x10 x11 x12 wr => ∃ (k fuel : Nat) (acc : List Fld), k ≤ s.length ∧ s.length < fuel + k ∧ acc.length ≤ 100 ∧ i = .int .i64 k ∧ Gr w wr ∧ parseGo s fuel k acc = parse s ∧ Own w wr 55 2 v acc.length (flat2 acc)) (fun _ _ _ _ i _ _ _ _ _ _ _ => s.length - (intOf i).toNat)
  case atStart => exact ⟨0, s.length + 1, [], Nat.zero_le _, by omega, by simp, rfl, Gr.refl _, rfl, Own.nil _ _ _ _⟩
  case round =>
    obtain ⟨k, fuel, acc, hk, hf, hacc, rfl, hG, hP, hown⟩ := hrel
    have HO := Lib.hid hown; clear hown
    have HP := Lib.hid hP; clear hP
    obtain ⟨A, cp, rfl⟩ := HO.out.form
    obtain ⟨fuel, rfl⟩ : ∃ f, fuel = f + 1 := ⟨fuel - 1, by omega⟩
    have hML := Lib.hid (HM.out.gr hG)
    have hd : (s.drop k).length < 4294967281 := by rw [List.length_drop]; omega
    cases hc : crlf (s.drop k) with
    | none =>
      have hI : Lib.index (s.drop k) [13, 10] = -1 := by rw [crlf_lib, hc]
      have HP := Lib.hid ((parseGo_none (fuel := fuel) (acc := acc) hc).symm.trans HP.out)
      clear hc
      by_cases hl : 65536 < s.length
      · have hd1 : decide (65536 < (s.length : Int)) = true := decide_eq_true (by omega)
        go_wp2_with (go_at_call 54; refine (crlf_any _ _ hML.out (by omega)).mono ?_; rintro e w1 ⟨rfl, hG1⟩)
        go_ret3
        exact ⟨.slice none 0 0, by rw [← HP.out, if_pos hl]; rfl, by rw [← HP.out, if_pos hl]; exact nil_fld _, Gr.tr hG hG1, fresh_nil _⟩
      · have hd1 : decide (65536 < (s.length : Int)) = false := decide_eq_false (by omega)
        go_wp2_with (go_at_call 54; refine (crlf_any _ _ hML.out (by omega)).mono ?_; rintro e w1 ⟨rfl, hG1⟩)
        go_ret3
        exact ⟨.slice none 0 0, by rw [← HP.out, if_neg hl]; rfl, by rw [← HP.out, if_neg hl]; exact nil_fld _, Gr.tr hG hG1, fresh_nil _⟩
    | some j =>
      have hI : Lib.index (s.drop k) [13, 10] = (j : Int) := by rw [crlf_lib, hc]
      have HP := Lib.hid ((parseGo_some (fuel := fuel) (acc := acc) hc).symm.trans HP.out)
      have hj : k + j + 2 ≤ s.length := by have := crlf_lt hc; rw [List.length_drop] at this; omega
      clear hc
      by_cases hl : 65536 < k + j + 2
      · have hl' : (65536 : Int) < (k : Int) + ((j : Int) + 2) := by omega
        go_wp2_with (go_at_call 54; refine (crlf_any _ _ hML.out (by omega)).mono ?_; rintro e w1 ⟨rfl, hG1⟩)
        go_ret3
        exact ⟨.slice none 0 0, by rw [← HP.out, if_pos hl]; rfl, by rw [← HP.out, if_pos hl]; exact nil_fld _, Gr.tr hG hG1, fresh_nil _⟩
      · have hl' : decide (65536 < (k : Int) + ((j : Int) + 2)) = false := decide_eq_false (by omega)
        have hlx : k + j + 2 ≤ 70000 := by omega
        have HLX := Lib.hid (show k + j + 2 ≤ 65536 by omega)
        rw [if_neg hl] at HP
        clear hl
        by_cases h0 : j = 0
        · subst h0
          have hl' : decide (65536 < (k : Int) + 2) = false := decide_eq_false (by have := HLX.out; omega)
          go_wp2_with (go_at_call 54; refine (crlf_any _ _ hML.out (by omega)).mono ?_; rintro e w1 ⟨rfl, hG1⟩)
          go_ret3
          exact ⟨_, by rw [← HP.out]; go_num, by rw [← HP.out]; exact own_fld (HO.out.gr hG1) rfl rfl, Gr.tr hG hG1, fresh_own HO.out⟩
        · have hll : ((s.drop k).take j).length = j := by rw [List.length_take, List.length_drop]; omega
          have hle : ((s.drop k).take j).isEmpty = false := by rw [List.isEmpty_eq_false_iff_exists_mem]; exact ⟨_, List.getElem_mem (show 0 < _ by omega)⟩
          have hll' : ((s.drop k).take j).length ≤ 70000 := by omega
          clear hll
          rw [if_neg h0] at HP
          have hkj : k + j - k = j := by omega
          by_cases h100 : acc.length = 100
          · have hb : ((acc.length : Int) == 100) = true := by simp [h100]
            rw [if_pos h100] at HP
            clear h100
            go_wp2_with (go_at_call 54; refine (crlf_any _ _ hML.out (by omega)).mono ?_; rintro e w1 ⟨rfl, hG1⟩)
            go_ret3
            exact ⟨.slice none 0 0, by rw [← HP.out]; rfl, by rw [← HP.out]; exact nil_fld _, Gr.tr hG hG1, fresh_nil _⟩
          · have hb : ((acc.length : Int) == 100) = false := by simp; omega
            rw [if_neg h100] at HP
            have hcl := cutC_lib ((s.drop k).take j)
            go_upto_region 16 with (go_at_call 54; refine (crlf_any _ _ hML.out (by omega)).mono ?_; rintro e w1 ⟨rfl, hG1⟩)
            simp only [hkj]
            generalize hln : (s.drop k).take j = ln at *
            have HLN := Lib.hid hln; clear hln hkj
            have hML1 := Lib.hid (hML.out.gr hG1)
            have hG1' := Gr.tr hG hG1
            have HO1 := Lib.hid (HO.out.gr hG1)
            clear hI
            cases hcc : cutC ln with
            | none =>
              rw [hcc] at hcl
              simp only at hcl
              have HF := Lib.hid (fieldR_none hcc); clear hcc
              go_wp2_with (first
                | (go_at_call 29; refine (cut_any _ _ hML1.out (by omega)).mono ?_; rintro e w2 ⟨rfl, hG2⟩)
                | (go_at_call 55; refine (trim_any _ _ (by simp)).mono ?_; rintro e w3 ⟨rfl, hG3⟩))
              go_ret3
              have hr := HP.out
              rw [HF.out] at hr
              simp only [Bool.false_eq_true, if_false] at hr
              exact ⟨.slice none 0 0, by rw [← hr]; rfl, by rw [← hr]; exact nil_fld _, Gr.tr hG1' (Gr.tr hG2 (Gr.al hG3 _)), fresh_nil _⟩
            | some p =>
              rw [hcc] at hcl
              simp only at hcl
              have hpl := cutC_len hcc
              have hp1 : p.1.length ≤ 70000 := by omega
              have hp2 : p.2.length ≤ 70000 := by omega
              have hp3 : (trim p.2).length ≤ 70000 := by have := trim_le p.2; omega
              clear hpl
              have HF := Lib.hid (fieldR_hit (a := p.1) (b := p.2) hcc); clear hcc
              go_upto_region 18 with (first
                | (go_at_call 29; refine (cut_any _ _ hML1.out (by omega)).mono ?_; rintro e w2 ⟨rfl, hG2⟩)
                | (go_at_call 55; refine (trim_any _ _ (by omega)).mono ?_; rintro e w3 ⟨rfl, hG3⟩))
              obtain ⟨hG4, c0, c1⟩ := box2 w3 (str p.1) (str (trim p.2)) 55
              have hG4' := Gr.tr hG1' (Gr.tr hG2 (Gr.tr hG3 hG4))
              have HO4 := Lib.hid (HO1.out.gr (Gr.tr hG2 (Gr.tr hG3 hG4)))
              generalize w3.alloc (Obj.cells #[str p.1, str (trim p.2)] 55) = w4 at *
              clear hG2 hG3 hG4 hG1 hG HO HO1 hcl
              have hr := HP.out
              rw [HF.out] at hr
              simp only at hr
              cases hri : right (p.1, trim p.2) with
              | false =>
                rw [hri] at hr
                simp only [Bool.false_eq_true, if_false] at hr
                have HR := Lib.hid hr; clear hr HP
                go_wp2_with (go_at_call 44; refine (right_any _ _ _ (by omega) (by omega)).mono ?_; rintro e w5 ⟨rfl, hG5⟩)
                go_ret3
                exact ⟨.slice none 0 0, by rw [← HR.out]; rfl, by rw [← HR.out]; exact nil_fld _, Gr.tr hG4' hG5, fresh_nil _⟩
              | true =>
                rw [hri] at hr
                simp only [if_true] at hr
                have HR := Lib.hid hr; clear hr HP
                go_wp2_with (first
                  | (go_at_call 44; refine (right_any _ _ _ (by omega) (by omega)).mono ?_; rintro e w5 ⟨rfl, hG5⟩; have c0 := Gr.cell hG5 c0; have c1 := Gr.cell hG5 c1)
                  | (at_builtin; refine wpList_app1 elemFld rfl _ _ rfl rfl rfl (Gr.tr hG4' hG5) (HO4.out.gr hG5) rfl (one_str2 _ _) (by omega) (by omega) ?_; intro v' w' hown' hG'))
                refine ⟨⟨k + j + 2, fuel, acc ++ [(p.1, trim p.2)], by omega, by omega, by simp; omega, by go_num, hG', HR.out, by simpa [flat2_append, flat2] using hown'⟩, by simp [intOf]; omega⟩
set_option maxHeartbeats 2000000 in
set_option maxRecDepth 100000 in
theorem refParse_anyF (s : List UInt8) (w : World) (_hs : s.length < 4294967000) : Calls Tryd.prog 40 #[str s] w (ParseEndF w (parse s)) := by
  go_enter Tryd.func40, Tryd.ntmps40
  go_wp2_with fail
  go_loopw [2, 3, 4, 5, 6, 7, 8, 9] (fun x2 x3 x4 v i x7 x8 x9 wr => ∃ (k fuel : Nat) (acc : List Fld), k ≤ s.length ∧ s.length < fuel + k ∧ acc.length ≤ 100 ∧ i = .int .i64 k ∧ Gr w wr ∧ parseGo s fuel k acc = parse s ∧ Own w wr 55 2 v acc.length (flat2 acc)) (fun _ _ _ _ i _ _ _ _ => s.length - (intOf i).toNat)
  case atStart => exact ⟨0, s.length + 1, [], Nat.zero_le _, by omega, by simp, rfl, Gr.refl _, rfl, Own.nil _ _ _ _⟩
  case round =>
    obtain ⟨k, fuel, acc, hk, hf, hacc, rfl, hG, hP, hown⟩ := hrel
    have HO := Lib.hid hown; clear hown
    have HP := Lib.hid hP; clear hP
    obtain ⟨A, cp, rfl⟩ := HO.out.form
    obtain ⟨fuel, rfl⟩ : ∃ f, fuel = f + 1 := ⟨fuel - 1, by omega⟩
    cases hc : crlf (s.drop k) with
    | none =>
      have hI : lineAt s k = -1 := by unfold lineAt; rw [hc]
      have HP := Lib.hid ((parseGo_none (fuel := fuel) (acc := acc) hc).symm.trans HP.out)
      clear hc
      by_cases hl : 65536 < s.length
      · have hd1 : decide ((s.length : Int) ≤ 65536) = false := decide_eq_false (by omega)
        go_wp2_with (go_at_call 56; refine (line_any _ _ _ (by omega) (by omega)).mono ?_; rintro e w1 ⟨rfl, hG1⟩)
        go_ret3
        exact ⟨.slice none 0 0, by rw [← HP.out, if_pos hl]; rfl, by rw [← HP.out, if_pos hl]; exact nil_fld _, Gr.tr hG hG1, fresh_nil _⟩
      · have hd1 : decide ((s.length : Int) ≤ 65536) = true := decide_eq_true (by omega)
        go_wp2_with (go_at_call 56; refine (line_any _ _ _ (by omega) (by omega)).mono ?_; rintro e w1 ⟨rfl, hG1⟩)
        go_ret3
        exact ⟨.slice none 0 0, by rw [← HP.out, if_neg hl]; rfl, by rw [← HP.out, if_neg hl]; exact nil_fld _, Gr.tr hG hG1, fresh_nil _⟩
    | some j =>
      have hj : k + j + 2 ≤ s.length := by have := crlf_lt hc; rw [List.length_drop] at this; omega
      have hI : lineAt s k = (k : Int) + (j : Int) := by unfold lineAt; rw [hc]; simp
      have hI0 : decide ((k : Int) + (j : Int) < 0) = false := decide_eq_false (by omega)
      have HP := Lib.hid ((parseGo_some (fuel := fuel) (acc := acc) hc).symm.trans HP.out)
      clear hc
      by_cases hl : 65536 < k + j + 2
      · have hl' : decide ((65536 : Int) < (k : Int) + (j : Int) + 2) = true := decide_eq_true (by omega)
        go_wp2_with (go_at_call 56; refine (line_any _ _ _ (by omega) (by omega)).mono ?_; rintro e w1 ⟨rfl, hG1⟩)
        go_ret3
        exact ⟨.slice none 0 0, by rw [← HP.out, if_pos hl]; rfl, by rw [← HP.out, if_pos hl]; exact nil_fld _, Gr.tr hG hG1, fresh_nil _⟩
      · have hl' : decide ((65536 : Int) < (k : Int) + (j : Int) + 2) = false := decide_eq_false (by omega)
        have hlx : k + j + 2 ≤ 70000 := by omega
        have HLX := Lib.hid (show k + j + 2 ≤ 65536 by omega)
        rw [if_neg hl] at HP
        clear hl
        by_cases h0 : j = 0
        · subst h0
          have hl2 : decide ((65536 : Int) < (k : Int) + 2) = false := decide_eq_false (by have := HLX.out; omega)
          have hb : ((k : Int) == (k : Int)) = true := by simp
          go_wp2_with (go_at_call 56; refine (line_any _ _ _ (by omega) (by omega)).mono ?_; rintro e w1 ⟨rfl, hG1⟩)
          go_ret3
          exact ⟨_, by rw [← HP.out]; go_num, by rw [← HP.out]; exact own_fld (HO.out.gr hG1) rfl rfl, Gr.tr hG hG1, fresh_own HO.out⟩
        · have hll : ((s.drop k).take j).length ≤ 70000 := by rw [List.length_take, List.length_drop]; omega
          rw [if_neg h0] at HP
          have hkj : k + j - k = j := by omega
          have hb0 : (((k : Int) + (j : Int)) == (k : Int)) = false := by rw [beq_eq_false_iff_ne]; omega
          by_cases h100 : acc.length = 100
          · have hb : ((acc.length : Int) == 100) = true := by simp [h100]
            rw [if_pos h100] at HP
            clear h100
            go_wp2_with (go_at_call 56; refine (line_any _ _ _ (by omega) (by omega)).mono ?_; rintro e w1 ⟨rfl, hG1⟩)
            go_ret3
            exact ⟨.slice none 0 0, by rw [← HP.out]; rfl, by rw [← HP.out]; exact nil_fld _, Gr.tr hG hG1, fresh_nil _⟩
          · have hb : ((acc.length : Int) == 100) = false := by simp; omega
            rw [if_neg h100] at HP
            go_upto_region 13 with (first
              | (go_at_call 56; refine (line_any _ _ _ (by omega) (by omega)).mono ?_; rintro e w1 ⟨rfl, hG1⟩)
              | (go_at_call 57; simp only [hkj]; refine (refField_any _ _ (by omega)).mono ?_; rintro e w2 ⟨rfl, hG2⟩))
            try simp only [hkj]
            generalize hln : fieldR ((s.drop k).take j) = f at *
            obtain ⟨⟨f1, f2⟩, fr⟩ := f
            simp only at *
            clear hln hll hkj hb0 hI
            obtain ⟨hG4, c0, c1⟩ := box2 w2 (str f1) (str f2) 55
            have hG4' := Gr.tr hG (Gr.tr hG1 (Gr.tr hG2 hG4))
            have HO4 := Lib.hid (HO.out.gr (Gr.tr hG1 (Gr.tr hG2 hG4)))
            generalize w2.alloc (Obj.cells #[str f1, str f2] 55) = w4 at *
            clear hG2 hG4 hG1 hG HO
            cases fr with
            | false =>
              go_wp2_with fail
              go_ret3
              have hr := HP.out
              simp only [Bool.false_eq_true, if_false] at hr
              exact ⟨.slice none 0 0, by rw [← hr]; rfl, by rw [← hr]; exact nil_fld _, hG4', fresh_nil _⟩
            | true =>
              go_wp2_with (at_builtin; refine wpList_app1 elemFld rfl _ _ rfl rfl rfl hG4' HO4.out rfl (one_str2 _ _) (by omega) (by omega) ?_; intro v' w' hown' hG')
              have hr := HP.out
              simp only [if_true] at hr
              refine ⟨⟨k + j + 2, fuel, acc ++ [(f1, f2)], by omega, by omega, by simp; omega, by go_num, hG', hr, by simpa [flat2_append, flat2] using hown'⟩, by simp [intOf]; omega⟩
theorem parse_any (s : List UInt8) (w : World) (hm : Ml w) (hs : s.length < 4294967000) : Calls Tryd.prog 38 #[str s] w (ParseEnd w (parse s)) :=
  (parse_anyF s w hm hs).mono fun _ _ ⟨v, h1, h2, h3, _⟩ => ⟨v, h1, h2, h3⟩
theorem refParse_any (s : List UInt8) (w : World) (hs : s.length < 4294967000) : Calls Tryd.prog 40 #[str s] w (ParseEnd w (parse s)) :=
  (refParse_anyF s w hs).mono fun _ _ ⟨v, h1, h2, h3, _⟩ => ⟨v, h1, h2, h3⟩
end Go.Proofs.YtidijgofoklejaaDoor
