/- The document's side of layer 12: the first line, the fields behind it: contracts. -/
import Derived.Test.YtidijgofoklejaaDoorHead2
namespace Go.Proofs.YtidijgofoklejaaDoor
open Go.RowKit
set_option maxHeartbeats 2000000 in
theorem refRest_any (m o : List UInt8) (st : Int) (s : List UInt8) (n : Nat) (w : World) (hn : n ≤ s.length) (hs : s.length < 4294967000) :
    Calls Tryd.prog 28 #[.agg #[str m, str o, .int .i64 st, .slice none 0 0], str s, .int .i64 n] w (HeadEnd w (restL m o st s n)) := by
  have hkb := parse_le (s.drop n)
  rw [List.length_drop] at hkb
  have HPE := Lib.hid (refParse_anyF (s.drop n))
  have HR : Hid ((parse (s.drop n)).2.2 = 0 → restL m o st s n = ((m, o, st, (parse (s.drop n)).1), n + (parse (s.drop n)).2.1, 0)) := restL_ok
  have HR2 : Hid ((parse (s.drop n)).2.2 ≠ 0 → restL m o st s n = (noHead, 0, (parse (s.drop n)).2.2)) := restL_bad
  have hsd : (s.drop n).length < 4294967000 := by rw [List.length_drop]; omega
  have HSD := Lib.hid hsd; clear hsd
  generalize parse (s.drop n) = p at HPE HR HR2 hkb
  obtain ⟨fs, k, e0⟩ := p
  simp only at hkb
  go_enter Tryd.func28, Tryd.ntmps28
  go_upto_region 1 with fail
  have hb1 := Lib.hid (Bk.new w 30 #[str m, str o, .int .i64 st, .slice none 0 0] (0, 0))
  have hG1 : Gr w (w.alloc (Obj.cells #[str m, str o, .int .i64 st, .slice none 0 0] 30)) := Gr.al (Gr.refl w) _
  have hz1 : (w.alloc (Obj.cells #[str m, str o, .int .i64 st, .slice none 0 0] 30)).heap.size = w.heap.size + 1 := by simp
  generalize hw1 : w.alloc (Obj.cells #[str m, str o, .int .i64 st, .slice none 0 0] 30) = w1 at *
  have hb2 := Lib.hid (Bk.new w1 30 #[str [], str [], .int .i64 0, .slice none 0 0] (0, 0))
  have hG2 : Gr w1 (w1.alloc (Obj.cells #[str [], str [], .int .i64 0, .slice none 0 0] 30)) := Gr.al (Gr.refl w1) _
  have HZ2 := Lib.hid (show w1.heap.size + 1 = (w1.alloc (Obj.cells #[str [], str [], .int .i64 0, .slice none 0 0] 30)).heap.size by simp)
  generalize hw2 : w1.alloc (Obj.cells #[str [], str [], .int .i64 0, .slice none 0 0] 30) = w2 at *
  have hG12 := Gr.tr hG1 hG2
  rw [hz1] at hb2
  clear hw1 hw2
  go_wp2_with fail
  refine (HPE.out _ HSD.out).mono ?_
  rintro e w3 ⟨pv, rfl, hpv, hG3, hfr⟩
  obtain ⟨A3, c3, rfl⟩ := hpv.slice
  have HV := Lib.hid hpv
  have hbb1 := Lib.hid ((hb1.out.gr hG2).gr hG3)
  have hbb2 := Lib.hid (hb2.out.gr hG3)
  have hGw := Gr.tr hG12 hG3
  have hsz2 : w2.heap.size = w.heap.size + 2 := by rw [← HZ2.out, hz1]
  have HFR := Lib.hid hfr
  have HFW := Lib.hid (Fresh.tr hG12 hfr)
  clear hpv hb1 hb2 hG1 hG2 hG3 hG12 HPE hfr
  have hz2 : w.heap.size + 1 ≠ w.heap.size := by omega
  have hz3 : w.heap.size + 1 < w2.heap.size := by omega
  clear hsz2 HZ2 hz1
  generalize hg : w.heap.size = g at *
  obtain ⟨q0, q1, q2, q3⟩ := hbb1.out.cells4
  obtain ⟨f0, f1, f2, f3⟩ := hbb1.out.free4
  obtain ⟨y0, y1, y2, y3⟩ := hbb2.out.cells4
  obtain ⟨d0, d1, d2, d3⟩ := hbb2.out.free4
  by_cases he : e0 = 0
  · subst he
    have HR3 : Hid (restL m o st s n = ((m, o, st, fs), n + k, 0)) := HR.out rfl
    clear HR HR2
    go_wp2_with fail
    have hb3 := hbb2.out.far (p := ⟨g, 3, none⟩) hz2 (.slice A3 fs.length c3)
    obtain ⟨x0, x1, x2, x3⟩ := (hb3.set4 (str m) (str o) (.int .i64 st) (.slice A3 fs.length c3)).cells4
    refine bodyPost_ret (v := .tuple #[.agg #[str m, str o, .int .i64 st, .slice A3 fs.length c3], .int .i64 ((n : Int) + (k : Int)), .int .i64 0]) (by simp [results, Tryd.results28, go_sem, x0, x1, x2, x3]) rfl ?_
    rw [HR3.out]
    refine ⟨A3, c3, by simp, ?_, Gr.st4 (Gr.st hGw (Nat.le_of_eq hg) _) (by omega) _ _ _ _, HFW.out⟩
    exact Flds.st4 (Flds.st HV.out (fresh_ne HFR.out (by omega)) _ _) (fresh_ne HFR.out (by omega)) _ _ _ _
  · have HR3 : Hid (restL m o st s n = (noHead, 0, e0)) := HR2.out he
    have hne : ((e0 : Int) != 0) = true := by simp; exact he
    clear HR HR2
    go_wp2_with fail
    obtain ⟨x0, x1, x2, x3⟩ := (hbb2.out.set4 (str []) (str []) (.int .i64 0) (.slice none 0 0)).cells4
    refine bodyPost_ret (v := .tuple #[.agg #[str [], str [], .int .i64 0, .slice none 0 0], .int .i64 0, .int .i64 e0]) (by simp [results, Tryd.results28, go_sem, x0, x1, x2, x3]) rfl ?_
    rw [HR3.out]
    exact headEnd_none _ _ _ (Gr.st4 hGw (by omega) _ _ _ _)
theorem line12_hit {l : List UInt8} {k : Nat} (h : k + 1 < l.length) (h1 : (l[k].toNat : Int) = 13) (h2 : (l[k + 1].toNat : Int) = 10) (he : lineAt l k = lineAt l 0) : crlf l = some k := by
  rw [lineAt_hit h h1 h2] at he
  unfold lineAt at he
  rw [List.drop_zero] at he
  cases hc : crlf l with
  | none => rw [hc] at he; simp only at he; omega
  | some j => rw [hc] at he; simp only at he; congr 1; omega
theorem line12_none {l : List UInt8} {k : Nat} (h : ¬ k + 1 < l.length) (he : lineAt l k = lineAt l 0) : crlf l = none := by
  rw [lineAt_end h] at he
  unfold lineAt at he
  rw [List.drop_zero] at he
  cases hc : crlf l with
  | none => rfl
  | some j => rw [hc] at he; simp only at he; omega
/-- the first line, and how many bytes it has with its end -/
def lineL (s : List UInt8) : List UInt8 × Int := match crlf s with
  | none => ([], -1)
  | some i => (s.take i, (i : Int) + 2)
set_option maxHeartbeats 1000000 in
theorem refLine_any (l : List UInt8) (w : World) (_hl : l.length ≤ 9223372036854775000) : Calls Tryd.prog 39 #[str l] w fun e w' => e = .returned (.tuple #[str (lineL l).1, .int .i64 (lineL l).2]) ∧ Gr w w' := by
  go_enter Tryd.func39, Tryd.ntmps39
  go_wp2_with fail
  go_loopw [2, 3, 4] (fun r1 r2 j wr => ∃ k : Nat, k ≤ l.length ∧ r1 = str [] ∧ r2 = .int .i64 0 ∧ j = .int .i64 k ∧ Gr w wr ∧ lineAt l k = lineAt l 0) (fun _ _ j _ => l.length - (intOf j).toNat)
  case atStart => exact ⟨0, Nat.zero_le _, rfl, rfl, rfl, Gr.refl _, rfl⟩
  case round =>
    obtain ⟨k, hk, rfl, rfl, rfl, hG, hE⟩ := hrel
    have HE := Lib.hid hE; clear hE
    by_cases hlt : k + 1 < l.length
    · by_cases h1 : (l[k].toNat : Int) = 13
      · by_cases h2 : (l[k + 1].toNat : Int) = 10
        · have hb1 : ((l[k].toNat : Int) == 13) = true := by simp [h1]
          have hb2 : ((l[k + 1].toNat : Int) == 10) = true := by simp [h2]
          have hit := Lib.hid (line12_hit hlt h1 h2 HE.out)
          clear h1 h2
          go_wp2_with fail
          go_ret2
          exact ⟨by unfold lineL; rw [hit.out]; rfl, hG⟩
        · have hb1 : ((l[k].toNat : Int) == 13) = true := by simp [h1]
          have hb2 : ((l[k + 1].toNat : Int) == 10) = false := by simp [h2]
          have hit := Lib.hid (lineAt_miss hlt (fun h => h2 h.2))
          clear h1 h2
          go_wp2_with fail
          exact ⟨⟨k + 1, by omega, rfl, rfl, by go_num, hG, by rw [← HE.out, hit.out]⟩, by simp [intOf]; omega⟩
      · have hb1 : ((l[k].toNat : Int) == 13) = false := by simp [h1]
        have hit := Lib.hid (lineAt_miss hlt (fun h => h1 h.1))
        clear h1
        go_wp2_with fail
        exact ⟨⟨k + 1, by omega, rfl, rfl, by go_num, hG, by rw [← HE.out, hit.out]⟩, by simp [intOf]; omega⟩
    · have he := Lib.hid (line12_none hlt HE.out)
      go_wp2_with fail
      go_ret2
      exact ⟨by unfold lineL; rw [he.out]; rfl, hG⟩
set_option maxHeartbeats 1000000 in
theorem refFirst_any (s : List UInt8) (w : World) (hs : s.length ≤ 9223372036854775000) :
    Calls Tryd.prog 27 #[str s] w fun e w' => e = .returned (.tuple #[str (firstL s).1, .int .i64 (firstL s).2.1, .int .i64 (firstL s).2.2]) ∧ Gr w w' := by
  have HL := Lib.hid (refLine_any s w (by omega))
  cases hcr : crlf s with
  | none =>
    have hln : lineL s = ([], -1) := by unfold lineL; rw [hcr]
    rw [hln] at HL
    clear hln
    by_cases hl : s.length ≤ 400
    · have hf := Lib.hid (show firstL s = ([], 0, 3) from by unfold firstL; rw [hcr]; simp [hl])
      clear hcr
      go_enter Tryd.func27, Tryd.ntmps27
      go_wp2_with (go_at_call 39; refine HL.out.mono ?_; rintro e w1 ⟨rfl, hG1⟩)
      go_ret3
      exact ⟨by rw [hf.out]; rfl, hG1⟩
    · have hf := Lib.hid (show firstL s = ([], 0, 2) from by unfold firstL; rw [hcr]; simp [hl])
      clear hcr
      have hd : decide (s.length ≤ 400) = false := decide_eq_false hl
      go_enter Tryd.func27, Tryd.ntmps27
      go_wp2_with (go_at_call 39; refine HL.out.mono ?_; rintro e w1 ⟨rfl, hG1⟩)
      go_ret3
      exact ⟨by rw [hf.out]; rfl, hG1⟩
  | some i =>
    have hlt := crlf_lt hcr
    have hln : lineL s = (s.take i, (i : Int) + 2) := by unfold lineL; rw [hcr]
    rw [hln] at HL
    clear hln
    have hmin : min i s.length = i := by omega
    by_cases hl : 400 < i
    · have hf := Lib.hid (show firstL s = ([], 0, 2) from by unfold firstL; rw [hcr]; simp [hl])
      clear hcr
      go_enter Tryd.func27, Tryd.ntmps27
      go_wp2_with (go_at_call 39; refine HL.out.mono ?_; rintro e w1 ⟨rfl, hG1⟩)
      go_ret3
      exact ⟨by rw [hf.out]; rfl, hG1⟩
    · have hf := Lib.hid (show firstL s = (s.take i, i + 2, 0) from by unfold firstL; rw [hcr]; simp [hl])
      clear hcr
      go_enter Tryd.func27, Tryd.ntmps27
      go_wp2_with (go_at_call 39; refine HL.out.mono ?_; rintro e w1 ⟨rfl, hG1⟩)
      go_ret3
      exact ⟨by rw [hf.out]; rfl, hG1⟩
end Go.Proofs.YtidijgofoklejaaDoor
