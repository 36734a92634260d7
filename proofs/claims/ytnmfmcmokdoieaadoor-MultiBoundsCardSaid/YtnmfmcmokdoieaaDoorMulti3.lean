/- Layer 11: what a text says as a content range: multi.Range and the document's. Conditions: the library's own variables hold what their types allow; a text shorter than 2 to the 32nd. -/
import Derived.Test.YtnmfmcmokdoieaaDoorMulti2
set_option linter.unusedVariables false
set_option linter.unusedSimpArgs false
namespace Go.Proofs.YtnmfmcmokdoieaaDoor
open Go.RowKit
/-- what is told of a content range -/
def rangeV : Option (Int × Int × Int) → Value
  | none => .tuple #[.agg #[.int .i64 0, .int .i64 0], .int .i64 0, .int .i64 2]
  | some x => .tuple #[.agg #[.int .i64 x.1, .int .i64 x.2.1], .int .i64 x.2.2, .int .i64 0]
theorem Bk.set2 {w : World} {g : Nat} {t : TypeId} {a b : Value} {fr : Nat × Nat} (h : Bk w g t #[a, b] fr) (x y : Value) : Bk ((w.setCell ⟨g, 0, none⟩ x).setCell ⟨g, 1, none⟩ y) g t #[x, y] fr := by
  have := (h.set 0 x).set 1 y
  simpa using this
theorem Bk.cells2 {w : World} {g : Nat} {t : TypeId} {a b : Value} {fr : Nat × Nat} (h : Bk w g t #[a, b] fr) : w.cell? ⟨g, 0, none⟩ = some a ∧ w.cell? ⟨g, 1, none⟩ = some b := ⟨h.cell 0, h.cell 1⟩
theorem Bk.free2 {w : World} {g : Nat} {t : TypeId} {a b : Value} (h : Bk w g t #[a, b] (0, 0)) : w.frozen? ⟨g, 0, none⟩ = false ∧ w.frozen? ⟨g, 1, none⟩ = false := ⟨h.free 0 (.inr (Nat.zero_le _)), h.free 1 (.inr (Nat.zero_le _))⟩
theorem numGo_le : ∀ (l : List UInt8) (i n : Nat), n < 4611686018427387904 → (numGo l i n).1 < 4611686018427387904 ∧ (numGo l i n).2 ≤ i + l.length
  | [], i, n, h => ⟨h, by simp [numGo]⟩
  | c :: r, i, n, h => by
    unfold numGo
    split
    · split
      · exact ⟨by decide, Nat.zero_le _⟩
      · split
        · exact ⟨by decide, Nat.zero_le _⟩
        · rename_i h2
          have := numGo_le r (i + 1) (digF n c) (by omega)
          simp only [List.length_cons]; omega
    · exact ⟨h, by simp⟩
theorem numR_le (l : List UInt8) : (numR l).1 < 4611686018427387904 ∧ (numR l).2 ≤ l.length := by
  have := numGo_le l 0 0 (by decide); unfold numR; omega
theorem rangeR_head {s : List UInt8} (h : s.take 6 ≠ [98, 121, 116, 101, 115, 32]) : rangeR s = none := by unfold rangeR; rw [if_pos h]
theorem rangeR_one {s : List UInt8} {a1 a2 : Nat} (ha : numR (s.drop 6) = (a1, a2)) (hl : s.length ≤ 6 + a2) : rangeR s = none := by
  unfold rangeR; split
  · rfl
  · rw [if_pos (by rw [ha]; exact hl)]
theorem rangeR_two {s : List UInt8} {a1 a2 b1 b2 : Nat} (ha : numR (s.drop 6) = (a1, a2)) (hb : numR (s.drop (6 + a2 + 1)) = (b1, b2)) (hl : s.length ≤ 6 + a2 + 1 + b2) : rangeR s = none := by
  unfold rangeR; split
  · rfl
  · split
    · rfl
    · rw [if_pos (by rw [ha]; simp only; rw [hb]; exact hl)]
theorem num_neg1 (x : Nat) : ((x : Int) == 0) = decide (x = 0) := by
  rw [Bool.eq_iff_iff]; simp
set_option maxHeartbeats 4000000 in
set_option maxRecDepth 100000 in
theorem refRange_any (s : List UInt8) (w : World) (_hs : s.length ≤ 4294967000) : Calls Tryd.prog 11 #[str s] w fun e w' => e = .returned (rangeV (rangeR s)) ∧ Gr w w' := by
  have hb := Bk.new w 23 #[.int .i64 0, .int .i64 0] (0, 0)
  have hG1 := Gr.al (Gr.refl w) (Obj.cells #[.int .i64 0, .int .i64 0] 23)
  obtain ⟨a1, a2, ha⟩ : ∃ a1 a2, numR (s.drop 6) = (a1, a2) := ⟨_, _, rfl⟩
  obtain ⟨b1, b2, hbb⟩ : ∃ b1 b2, numR (s.drop (6 + a2 + 1)) = (b1, b2) := ⟨_, _, rfl⟩
  obtain ⟨c1, c2, hcc⟩ : ∃ c1 c2, numR (s.drop (6 + a2 + 1 + b2 + 1)) = (c1, c2) := ⟨_, _, rfl⟩
  have la := numR_le (s.drop 6); have lb := numR_le (s.drop (6 + a2 + 1)); have lc := numR_le (s.drop (6 + a2 + 1 + b2 + 1))
  rw [ha] at la; rw [hbb] at lb; rw [hcc] at lc
  simp only [List.length_drop] at la lb lc
  have HNa := Lib.hid (fun (w : World) => refNumber_any (s.drop 6) w (by rw [List.length_drop]; omega))
  have HNb := Lib.hid (fun (w : World) => refNumber_any (s.drop (6 + a2 + 1)) w (by rw [List.length_drop]; omega))
  have HNc := Lib.hid (fun (w : World) => refNumber_any (s.drop (6 + a2 + 1 + b2 + 1)) w (by rw [List.length_drop]; omega))
  rw [ha] at HNa; rw [hbb] at HNb; rw [hcc] at HNc
  have HR1 := Lib.hid (fun h => rangeR_head (s := s) h)
  have HR2 := Lib.hid (fun h => rangeR_one ha h)
  have HR3 := Lib.hid (fun h => rangeR_two ha hbb h)
  have HR4 := Lib.hid (fun h0 h1 h2 => rangeR_of (s := s) h0 ha h1 hbb h2 hcc)
  clear ha hbb hcc
  go_enter Tryd.func11, Tryd.ntmps11
  go_upto_region 1 with fail
  generalize w.alloc (Obj.cells #[.int .i64 0, .int .i64 0] 23) = w1 at *
  generalize hg : w.heap.size = g at *
  obtain ⟨y0, y1⟩ := hb.cells2
  obtain ⟨f0, f1⟩ := hb.free2
  have HB := Lib.hid hb; clear hb
  by_cases h6 : s.length < 6
  · have d6 : decide ((s.length : Int) < 6) = true := decide_eq_true (by omega)
    have HR := Lib.hid (HR1.out (by intro h; have := congrArg List.length h; simp at this; omega))
    clear HR1 HR2 HR3 HR4
    go_wp2_with fail
    obtain ⟨x0, x1⟩ := (HB.out.set2 (.int .i64 0) (.int .i64 0)).cells2
    refine bodyPost_ret (v := rangeV none) (by simp [rangeV, results, Tryd.results11, go_sem, x0, x1]) rfl ⟨by rw [HR.out], Gr.st (Gr.st hG1 (Nat.le_of_eq hg) _) (Nat.le_of_eq hg) _⟩
  · have d6 : decide ((s.length : Int) < 6) = false := decide_eq_false (by omega)
    by_cases hp : s.take 6 = [98, 121, 116, 101, 115, 32]
    · have k6 : (s.take 6 == [98, 121, 116, 101, 115, 32]) = true := by simp [hp]
      have HR4 := Lib.hid (HR4.out hp)
      clear HR1
      by_cases q1 : s.length ≤ 6 + a2
      · have HR := Lib.hid (HR2.out q1)
        have e1 : decide ((s.length : Int) ≤ 6 + (a2 : Int)) = true := decide_eq_true (by omega)
        clear HR2 HR3 HR4 hp
        go_wp2_with (go_at_call 28; refine (HNa.out _).mono ?_; rintro e w2 ⟨rfl, hG2⟩; have HB2 := Lib.hid (HB.out.gr hG2); obtain ⟨y0, y1⟩ := HB2.out.cells2; obtain ⟨f0, f1⟩ := HB2.out.free2)
        obtain ⟨x0, x1⟩ := (HB2.out.set2 (.int .i64 0) (.int .i64 0)).cells2
        exact bodyPost_ret (v := rangeV none) (by simp [rangeV, results, Tryd.results11, go_sem, x0, x1]) rfl ⟨by rw [HR.out], Gr.st (Gr.st (Gr.tr hG1 hG2) (Nat.le_of_eq hg) _) (Nat.le_of_eq hg) _⟩
      · have e1 : decide ((s.length : Int) ≤ 6 + (a2 : Int)) = false := decide_eq_false (by omega)
        by_cases q2 : s.length ≤ 6 + a2 + 1 + b2
        · have HR := Lib.hid (HR3.out q2)
          have e2 : decide ((s.length : Int) ≤ 6 + (a2 : Int) + 1 + (b2 : Int)) = true := decide_eq_true (by omega)
          have hx : (6 + (a2 : Int) + 1).toNat = 6 + a2 + 1 := by omega
          clear HR2 HR3 HR4 hp
          go_upto_region 4 with (go_at_call 28; refine (HNa.out _).mono ?_; rintro e w2 ⟨rfl, hG2⟩; have HB2 := Lib.hid (HB.out.gr hG2))
          go_wp2_with (go_at_call 28; refine (HNb.out _).mono ?_; rintro e w3 ⟨rfl, hG3⟩; have HB3 := Lib.hid (HB2.out.gr hG3); obtain ⟨y0, y1⟩ := HB3.out.cells2; obtain ⟨f0, f1⟩ := HB3.out.free2)
          obtain ⟨x0, x1⟩ := (HB3.out.set2 (.int .i64 0) (.int .i64 0)).cells2
          exact bodyPost_ret (v := rangeV none) (by simp [rangeV, results, Tryd.results11, go_sem, x0, x1]) rfl ⟨by rw [HR.out], Gr.st (Gr.st (Gr.tr (Gr.tr hG1 hG2) hG3) (Nat.le_of_eq hg) _) (Nat.le_of_eq hg) _⟩
        · have e2 : decide ((s.length : Int) ≤ 6 + (a2 : Int) + 1 + (b2 : Int)) = false := decide_eq_false (by omega)
          have hx : (6 + (a2 : Int) + 1).toNat = 6 + a2 + 1 := by omega
          have hx2 : (6 + (a2 : Int) + 1 + (b2 : Int) + 1).toNat = 6 + a2 + 1 + b2 + 1 := by omega
          have HR4 := Lib.hid (HR4.out (by omega) (by omega))
          clear HR2 HR3 hp
          go_upto_region 4 with (go_at_call 28; refine (HNa.out _).mono ?_; rintro e w2 ⟨rfl, hG2⟩; have HB2 := Lib.hid (HB.out.gr hG2))
          go_upto_region 8 with (go_at_call 28; refine (HNb.out _).mono ?_; rintro e w3 ⟨rfl, hG3⟩; have HB3 := Lib.hid (HB2.out.gr hG3))
          have hG13 := Gr.tr (Gr.tr hG1 hG2) hG3
          clear hG1 hG2 hG3 HB HB2 y0 y1 f0 f1
          by_cases qc : c2 = 0
          · have kq : ((c2 : Int) == 0) = true := by simp [qc]
            rw [show totR (c1, c2) = -1 from if_pos qc] at HR4
            clear qc
            have HC := Lib.hid (fun (w : World) => refContent_any (a1 : Int) ((b1 : Int) + 1) (-1) w (by omega) (by omega) (by omega))
            go_upto_region 15 with (go_at_call 28; refine (HNc.out _).mono ?_; rintro e w4 ⟨rfl, hG4⟩)
            have hbx := Bk.new w4 23 #[.int .i64 (a1 : Int), .int .i64 ((b1 : Int) + 1)] (0, 0)
            have hG5 := Gr.al (Gr.refl w4) (Obj.cells #[.int .i64 (a1 : Int), .int .i64 ((b1 : Int) + 1)] 23)
            have hne : g ≠ w4.heap.size := by have := HB3.out.lt; have := hG4.size; omega
            have HB5 := Lib.hid ((HB3.out.gr hG4).al (Obj.cells #[.int .i64 (a1 : Int), .int .i64 ((b1 : Int) + 1)] 23))
            have hG15 := Gr.tr (Gr.tr hG13 hG4) hG5
            have HBX := Lib.hid hbx
            generalize w4.alloc (Obj.cells #[.int .i64 (a1 : Int), .int .i64 ((b1 : Int) + 1)] 23) = w5 at *
            generalize w4.heap.size = g5 at *
            obtain ⟨z0, z1⟩ := hbx.cells2
            clear hbx hG13 hG4 hG5 HB3
            by_cases hcs : contentL (a1 : Int) ((b1 : Int) + 1) (-1) = s
            · have kc : (contentL (a1 : Int) ((b1 : Int) + 1) (-1) == s) = true := by simpa using hcs
              rw [if_pos hcs] at HR4
              clear hcs
              go_wp2_with (go_at_call 9; refine (HC.out _).mono ?_; rintro e w6 ⟨rfl, hG6⟩; have z0 := hG6.cell z0; have z1 := hG6.cell z1; have HB6 := Lib.hid (HB5.out.gr hG6); obtain ⟨y0, y1⟩ := HB6.out.cells2; obtain ⟨f0, f1⟩ := HB6.out.free2)
              obtain ⟨x0, x1⟩ := (HB6.out.set2 (.int .i64 (a1 : Int)) (.int .i64 ((b1 : Int) + 1))).cells2
              exact bodyPost_ret (v := rangeV (some ((a1 : Int), (b1 : Int) + 1, (-1)))) (by simp [rangeV, results, Tryd.results11, go_sem, x0, x1]) rfl ⟨by rw [HR4.out], Gr.st (Gr.st (Gr.tr hG15 hG6) (Nat.le_of_eq hg) _) (Nat.le_of_eq hg) _⟩
            · have kc : (contentL (a1 : Int) ((b1 : Int) + 1) (-1) == s) = false := by simpa using hcs
              rw [if_neg hcs] at HR4
              clear hcs
              go_wp2_with (go_at_call 9; refine (HC.out _).mono ?_; rintro e w6 ⟨rfl, hG6⟩; have HB6 := Lib.hid (HB5.out.gr hG6); obtain ⟨y0, y1⟩ := HB6.out.cells2; obtain ⟨f0, f1⟩ := HB6.out.free2)
              obtain ⟨x0, x1⟩ := (HB6.out.set2 (.int .i64 0) (.int .i64 0)).cells2
              exact bodyPost_ret (v := rangeV none) (by simp [rangeV, results, Tryd.results11, go_sem, x0, x1]) rfl ⟨by rw [HR4.out], Gr.st (Gr.st (Gr.tr hG15 hG6) (Nat.le_of_eq hg) _) (Nat.le_of_eq hg) _⟩
          · have kq : ((c2 : Int) == 0) = false := by simp [qc]
            rw [show totR (c1, c2) = (c1 : Int) from if_neg qc] at HR4
            clear qc
            have HC := Lib.hid (fun (w : World) => refContent_any (a1 : Int) ((b1 : Int) + 1) (c1 : Int) w (by omega) (by omega) (by omega))
            go_upto_region 15 with (go_at_call 28; refine (HNc.out _).mono ?_; rintro e w4 ⟨rfl, hG4⟩)
            have hbx := Bk.new w4 23 #[.int .i64 (a1 : Int), .int .i64 ((b1 : Int) + 1)] (0, 0)
            have hG5 := Gr.al (Gr.refl w4) (Obj.cells #[.int .i64 (a1 : Int), .int .i64 ((b1 : Int) + 1)] 23)
            have hne : g ≠ w4.heap.size := by have := HB3.out.lt; have := hG4.size; omega
            have HB5 := Lib.hid ((HB3.out.gr hG4).al (Obj.cells #[.int .i64 (a1 : Int), .int .i64 ((b1 : Int) + 1)] 23))
            have hG15 := Gr.tr (Gr.tr hG13 hG4) hG5
            have HBX := Lib.hid hbx
            generalize w4.alloc (Obj.cells #[.int .i64 (a1 : Int), .int .i64 ((b1 : Int) + 1)] 23) = w5 at *
            generalize w4.heap.size = g5 at *
            obtain ⟨z0, z1⟩ := hbx.cells2
            clear hbx hG13 hG4 hG5 HB3
            by_cases hcs : contentL (a1 : Int) ((b1 : Int) + 1) (c1 : Int) = s
            · have kc : (contentL (a1 : Int) ((b1 : Int) + 1) (c1 : Int) == s) = true := by simpa using hcs
              rw [if_pos hcs] at HR4
              clear hcs
              go_wp2_with (go_at_call 9; refine (HC.out _).mono ?_; rintro e w6 ⟨rfl, hG6⟩; have z0 := hG6.cell z0; have z1 := hG6.cell z1; have HB6 := Lib.hid (HB5.out.gr hG6); obtain ⟨y0, y1⟩ := HB6.out.cells2; obtain ⟨f0, f1⟩ := HB6.out.free2)
              obtain ⟨x0, x1⟩ := (HB6.out.set2 (.int .i64 (a1 : Int)) (.int .i64 ((b1 : Int) + 1))).cells2
              exact bodyPost_ret (v := rangeV (some ((a1 : Int), (b1 : Int) + 1, (c1 : Int)))) (by simp [rangeV, results, Tryd.results11, go_sem, x0, x1]) rfl ⟨by rw [HR4.out], Gr.st (Gr.st (Gr.tr hG15 hG6) (Nat.le_of_eq hg) _) (Nat.le_of_eq hg) _⟩
            · have kc : (contentL (a1 : Int) ((b1 : Int) + 1) (c1 : Int) == s) = false := by simpa using hcs
              rw [if_neg hcs] at HR4
              clear hcs
              go_wp2_with (go_at_call 9; refine (HC.out _).mono ?_; rintro e w6 ⟨rfl, hG6⟩; have HB6 := Lib.hid (HB5.out.gr hG6); obtain ⟨y0, y1⟩ := HB6.out.cells2; obtain ⟨f0, f1⟩ := HB6.out.free2)
              obtain ⟨x0, x1⟩ := (HB6.out.set2 (.int .i64 0) (.int .i64 0)).cells2
              exact bodyPost_ret (v := rangeV none) (by simp [rangeV, results, Tryd.results11, go_sem, x0, x1]) rfl ⟨by rw [HR4.out], Gr.st (Gr.st (Gr.tr hG15 hG6) (Nat.le_of_eq hg) _) (Nat.le_of_eq hg) _⟩
    · have k6 : (s.take 6 == [98, 121, 116, 101, 115, 32]) = false := by simpa using hp
      have HR := Lib.hid (HR1.out hp)
      clear HR1 HR2 HR3 HR4 hp
      go_wp2_with fail
      obtain ⟨x0, x1⟩ := (HB.out.set2 (.int .i64 0) (.int .i64 0)).cells2
      refine bodyPost_ret (v := rangeV none) (by simp [rangeV, results, Tryd.results11, go_sem, x0, x1]) rfl ⟨by rw [HR.out], Gr.st (Gr.st hG1 (Nat.le_of_eq hg) _) (Nat.le_of_eq hg) _⟩
end Go.Proofs.YtnmfmcmokdoieaaDoor
