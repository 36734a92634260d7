/- What the functions of layer 12 make of the fields behind a line: contracts. -/
import Derived.Test.YtidijgofoklejaaDoorHead1
import Derived.Test.YtidijgofoklejaaDoorHeadLaw2
namespace Go.Proofs.YtidijgofoklejaaDoor
open Go.RowKit
/-- what comes back as a head: its parts, how many bytes, what is wrong -/
def HeadEnd (w : World) (r : HeadT × Nat × Nat) (e : Ending) (w' : World) : Prop :=
  ∃ A c, e = .returned (.tuple #[.agg #[str r.1.1, str r.1.2.1, .int .i64 r.1.2.2.1, .slice A r.1.2.2.2.length c], .int .i64 r.2.1, .int .i64 r.2.2]) ∧ Flds w' (.slice A r.1.2.2.2.length c) r.1.2.2.2 ∧ Gr w w' ∧ Fresh w (.slice A r.1.2.2.2.length c)
theorem Flds.slice {w : World} {v : Value} {xs} (h : Flds w v xs) : ∃ A c, v = .slice A xs.length c := by
  obtain ⟨A, c, hv, _⟩ := h
  exact ⟨A, c, hv⟩
theorem headEnd_none (w w' : World) (e : Nat) (g : Gr w w') : HeadEnd w (noHead, 0, e) (.returned (.tuple #[.agg #[str [], str [], .int .i64 0, .slice none 0 0], .int .i64 0, .int .i64 e])) w' :=
  ⟨none, 0, rfl, nil_fld _, g, fresh_nil _⟩
/-- a block of four cells, written whole -/
theorem Bk.set4 {w : World} {g : Nat} {t : TypeId} {a b c d : Value} {fr : Nat × Nat} (h : Bk w g t #[a, b, c, d] fr) (x y z u : Value) : Bk ((((w.setCell ⟨g, 0, none⟩ x).setCell ⟨g, 1, none⟩ y).setCell ⟨g, 2, none⟩ z).setCell ⟨g, 3, none⟩ u) g t #[x, y, z, u] fr := by
  have := (((h.set 0 x).set 1 y).set 2 z).set 3 u
  simpa using this
theorem Bk.cells4 {w : World} {g : Nat} {t : TypeId} {a b c d : Value} {fr : Nat × Nat} (h : Bk w g t #[a, b, c, d] fr) : w.cell? ⟨g, 0, none⟩ = some a ∧ w.cell? ⟨g, 1, none⟩ = some b ∧ w.cell? ⟨g, 2, none⟩ = some c ∧ w.cell? ⟨g, 3, none⟩ = some d := ⟨h.cell 0, h.cell 1, h.cell 2, h.cell 3⟩
theorem Bk.free4 {w : World} {g : Nat} {t : TypeId} {a b c d : Value} (h : Bk w g t #[a, b, c, d] (0, 0)) : w.frozen? ⟨g, 0, none⟩ = false ∧ w.frozen? ⟨g, 1, none⟩ = false ∧ w.frozen? ⟨g, 2, none⟩ = false ∧ w.frozen? ⟨g, 3, none⟩ = false :=
  ⟨h.free 0 (.inr (Nat.zero_le _)), h.free 1 (.inr (Nat.zero_le _)), h.free 2 (.inr (Nat.zero_le _)), h.free 3 (.inr (Nat.zero_le _))⟩
theorem Gr.st4 {a b : World} (h : Gr a b) {g : Nat} (hg : a.heap.size ≤ g) (x y z u : Value) : Gr a ((((b.setCell ⟨g, 0, none⟩ x).setCell ⟨g, 1, none⟩ y).setCell ⟨g, 2, none⟩ z).setCell ⟨g, 3, none⟩ u) :=
  Gr.st (Gr.st (Gr.st (Gr.st h hg x) hg y) hg z) hg u
theorem fresh_ne {w : World} {v : Value} {g : Nat} (h : Fresh w v) (hg : g < w.heap.size) : v.ownBlock ≠ some g := fun e => by have := h g e; omega
theorem Flds.st {w : World} {v : Value} {fs : List Fld} (h : Flds w v fs) {g : Nat} (hne : v.ownBlock ≠ some g) (i : Nat) (u : Value) : Flds (w.setCell ⟨g, i, none⟩ u) v fs := by
  obtain ⟨A, c, rfl, hc, hm, hh⟩ := h
  refine ⟨A, c, rfl, hc, hm, ?_⟩
  rcases hh with hh | ⟨b, o, hA, hb, hj⟩
  · exact .inl hh
  · subst hA
    have hbg : b ≠ g := by rintro rfl; exact hne rfl
    refine .inr ⟨b, o, rfl, by simpa [World.setCell] using hb, fun j u hu => ?_⟩
    rw [World.cell?_of_block (Below.heap_setCell w ⟨g, i, none⟩ _ b hbg)]
    exact hj j u hu
theorem Flds.st4 {w : World} {v : Value} {fs : List Fld} (h : Flds w v fs) {g : Nat} (hne : v.ownBlock ≠ some g) (x y z u : Value) : Flds ((((w.setCell ⟨g, 0, none⟩ x).setCell ⟨g, 1, none⟩ y).setCell ⟨g, 2, none⟩ z).setCell ⟨g, 3, none⟩ u) v fs :=
  ((((h.st hne 0 x).st hne 1 y).st hne 2 z).st hne 3 u)
set_option maxHeartbeats 2000000 in
theorem fill_any (m o : List UInt8) (st : Int) (v : Value) (s : List UInt8) (n : Nat) (w : World) (hb : Byts w v s) (hm : Ml w) (hn : n ≤ s.length) (hs : s.length < 4294967000) :
    Calls Tryd.prog 26 #[.agg #[str m, str o, .int .i64 st, .slice none 0 0], v, .int .i64 n] w (HeadEnd w (restL m o st s n)) := by
  obtain ⟨A, c, rfl, hc, hm', ho⟩ := hb.open
  have HB := Lib.hid hb; have HM := Lib.hid hm; clear hb hm ho
  have hkb := parse_le (s.drop n)
  rw [List.length_drop] at hkb
  have HPE := Lib.hid (parse_anyF (s.drop n))
  have HR : Hid ((parse (s.drop n)).2.2 = 0 → restL m o st s n = ((m, o, st, (parse (s.drop n)).1), n + (parse (s.drop n)).2.1, 0)) := restL_ok
  have HR2 : Hid ((parse (s.drop n)).2.2 ≠ 0 → restL m o st s n = (noHead, 0, (parse (s.drop n)).2.2)) := restL_bad
  have hsd : (s.drop n).length < 4294967000 := by rw [List.length_drop]; omega
  have HSD := Lib.hid hsd; clear hsd
  generalize parse (s.drop n) = p at HPE HR HR2 hkb
  obtain ⟨fs, k, e0⟩ := p
  simp only at hkb
  go_enter Tryd.func26, Tryd.ntmps26
  go_upto_region 1 with fail
  have hb1 := Lib.hid (Bk.new w 26 #[str m, str o, .int .i64 st, .slice none 0 0] (0, 0))
  have hG1 : Gr w (w.alloc (Obj.cells #[str m, str o, .int .i64 st, .slice none 0 0] 26)) := Gr.al (Gr.refl w) _
  have hz1 : (w.alloc (Obj.cells #[str m, str o, .int .i64 st, .slice none 0 0] 26)).heap.size = w.heap.size + 1 := by simp
  generalize hw1 : w.alloc (Obj.cells #[str m, str o, .int .i64 st, .slice none 0 0] 26) = w1 at *
  have hb2 := Lib.hid (Bk.new w1 26 #[str [], str [], .int .i64 0, .slice none 0 0] (0, 0))
  have hG2 : Gr w1 (w1.alloc (Obj.cells #[str [], str [], .int .i64 0, .slice none 0 0] 26)) := Gr.al (Gr.refl w1) _
  have HZ2 := Lib.hid (show w1.heap.size + 1 = (w1.alloc (Obj.cells #[str [], str [], .int .i64 0, .slice none 0 0] 26)).heap.size by simp)
  generalize hw2 : w1.alloc (Obj.cells #[str [], str [], .int .i64 0, .slice none 0 0] 26) = w2 at *
  have hG12 := Gr.tr hG1 hG2
  have HB2 := Lib.hid (HB.out.gr hG12)
  rw [hz1] at hb2
  clear hw1 hw2 HB
  go_wp2_with (first
    | (refine wpList_slLo _ _ rfl rfl rfl rfl HB2.out ?_ ?_ ?_; omega; omega; intro A2 hA2; have HA2 := Lib.hid hA2; clear hA2)
    | (refine wpList_toStr _ rfl rfl rfl HA2.out ?_))
  refine (HPE.out _ (HM.out.gr hG12) HSD.out).mono ?_
  rintro e w3 ⟨pv, rfl, hpv, hG3, hfr⟩
  obtain ⟨A3, c3, rfl⟩ := hpv.slice
  have HV := Lib.hid hpv
  have hbb1 := Lib.hid ((hb1.out.gr hG2).gr hG3)
  have hbb2 := Lib.hid (hb2.out.gr hG3)
  have hGw := Gr.tr hG12 hG3
  have hsz2 : w2.heap.size = w.heap.size + 2 := by rw [← HZ2.out, hz1]
  have HFR := Lib.hid hfr
  have HFW := Lib.hid (Fresh.tr hG12 hfr)
  clear hpv hb1 hb2 hG1 hG2 hG3 hG12 HPE HB2 HA2 hfr
  have hz2 : w.heap.size + 1 ≠ w.heap.size := by omega
  have hz3 : w.heap.size + 1 < w2.heap.size := by omega
  clear hsz2 HZ2 hz1
  generalize hg : w.heap.size = g at *
  obtain ⟨q0, q1, q2, q3⟩ := hbb1.out.cells4
  obtain ⟨f0, f1, f2, f3⟩ := hbb1.out.free4
  obtain ⟨y0, y1, y2, y3⟩ := hbb2.out.cells4
  obtain ⟨d0, d1, d2, d3⟩ := hbb2.out.free4
  by_cases he : e0 = 0
  · subst he
    have HR3 : Hid (restL m o st s n = ((m, o, st, fs), n + k, 0)) := HR.out rfl
    clear HR HR2
    go_wp2_with fail
    have hb3 := hbb2.out.far (p := ⟨g, 3, none⟩) hz2 (.slice A3 fs.length c3)
    obtain ⟨x0, x1, x2, x3⟩ := (hb3.set4 (str m) (str o) (.int .i64 st) (.slice A3 fs.length c3)).cells4
    refine bodyPost_ret (v := .tuple #[.agg #[str m, str o, .int .i64 st, .slice A3 fs.length c3], .int .i64 ((n : Int) + (k : Int)), .int .i64 0]) (by simp [results, Tryd.results26, go_sem, x0, x1, x2, x3]) rfl ?_
    rw [HR3.out]
    refine ⟨A3, c3, by simp, ?_, Gr.st4 (Gr.st hGw (Nat.le_of_eq hg) _) (by omega) _ _ _ _, HFW.out⟩
    exact Flds.st4 (Flds.st HV.out (fresh_ne HFR.out (by omega)) _ _) (fresh_ne HFR.out (by omega)) _ _ _ _
  · have HR3 : Hid (restL m o st s n = (noHead, 0, e0)) := HR2.out he
    have hne : ((e0 : Int) != 0) = true := by simp; exact he
    clear HR HR2
    go_wp2_with fail
    obtain ⟨x0, x1, x2, x3⟩ := (hbb2.out.set4 (str []) (str []) (.int .i64 0) (.slice none 0 0)).cells4
    refine bodyPost_ret (v := .tuple #[.agg #[str [], str [], .int .i64 0, .slice none 0 0], .int .i64 0, .int .i64 e0]) (by simp [results, Tryd.results26, go_sem, x0, x1, x2, x3]) rfl ?_
    rw [HR3.out]
    exact headEnd_none _ _ _ (Gr.st4 hGw (by omega) _ _ _ _)
end Go.Proofs.YtidijgofoklejaaDoor
