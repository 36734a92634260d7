/- Layer 11's law: its examples. Conditions: the library's own variables hold what their types allow. -/
import Derived.Test.YtnmfmcmokdoieaaGreatDoorMulti11
set_option linter.unusedVariables false
set_option linter.unusedSimpArgs false
namespace Go.Proofs.YtnmfmcmokdoieaaGreatDoor
open Go.RowKit
theorem itoa_one {m : Nat} (h : m < 10) : Lib.itoa (m : Int) = [UInt8.ofNat (48 + m)] := by rw [itoa_nat, dec_small h]
theorem ex_content : contentL 3 9 20 = [98, 121, 116, 101, 115, 32, 51, 45, 56, 47, 50, 48] := by
  have h1 : Lib.itoa 3 = [51] := itoa_one (m := 3) (by decide)
  have h2 : Lib.itoa 8 = [56] := itoa_one (m := 8) (by decide)
  have h3 : Lib.itoa 20 = [50, 48] := by
    rw [show (20 : Int) = ((20 : Nat) : Int) from rfl, itoa_nat, dec_great (by decide), dec_small (by decide)]; rfl
  unfold contentL
  rw [if_pos (by decide), if_neg (by decide)]
  unfold headC
  rw [show (9 : Int) - 1 = 8 from rfl, h1, h2, h3]; rfl
def exSpans : List (Int × Int) := [(3, 5)]
def exObj : List UInt8 := [97, 98, 99, 100, 101, 102, 103, 104, 105]
theorem ex_ok : partsOk 9 [97, 47, 98] [120] exSpans = true := by decide
theorem ex_told : BodyOk 9 [97, 47, 98] [120] exObj exSpans := ⟨by decide, by decide, by decide, by decide⟩
theorem ex_read : multiL [120] (fillL exObj (partsL 9 [97, 47, 98] [120] exSpans)) = .inr [((3, 5, 9), [100, 101])] := by
  rw [fill_parts, ← List.append_nil (bodyL _ _ _ _ _ _), multiL_body [] ex_told (by decide), if_pos rfl]; rfl
theorem obj_len (obj : List UInt8) (s : Int × Int) : (objL obj s).length ≤ obj.length := by unfold objL; rw [List.length_take, List.length_drop]; omega
/-- how long a body may be -/
theorem body_len (tot : Int) (kind bnd obj : List UInt8) (l : List (Int × Int)) (ah : List UInt8) (ha : ah.length ≤ 2) : (bodyL tot kind bnd obj l ah).length ≤ l.length * (obj.length + bnd.length + kind.length + 130) + bnd.length + 20 := by
  induction l generalizing ah with
  | nil => rw [bodyL_nil]; unfold endT; simp
  | cons s l ih =>
    rw [bodyL_cons]
    have h1 := ih [13, 10] (by simp)
    have h2 := cont_len s.1 s.2 tot
    have h3 := obj_len obj s
    unfold segH
    simp only [List.length_append, List.length_cons, List.length_nil, show typeN.length = 14 from rfl, show rangeN.length = 15 from rfl, Nat.succ_mul] at *
    omega
theorem parts_in {tot : Int} {kind bnd obj : List UInt8} {l : List (Int × Int)} (h : ∀ s ∈ l, contB s.1 s.2 tot = true ∧ s.2 ≤ obj.length) : ∀ (ah : List UInt8), InObj obj (partsB tot kind bnd l ah ++ [(endL bnd, 0, 0)]) := by
  induction l with
  | nil =>
    intro ah p hp h0
    have : p = (endL bnd, 0, 0) := by simpa [partsB] using hp
    subst this
    exact absurd h0 (endL_ne bnd)
  | cons s l ih =>
    intro ah p hp h0
    rw [partsB, List.cons_append, List.cons_append] at hp
    rcases List.mem_cons.1 hp with rfl | hp
    · exact absurd h0 (ptext_ne _ _ _ _ _)
    · rcases List.mem_cons.1 hp with rfl | hp
      · obtain ⟨h1, h2⟩ := h s (by simp)
        have := cont_parts h1
        exact ⟨this.1, by show s.1 ≤ s.2; omega, h2⟩
      · exact ih (fun x hx => h x (List.mem_cons_of_mem _ hx)) _ p hp h0
theorem parts_text {tot : Int} {kind bnd : List UInt8} (hk : kind.length ≤ 1000) (hb : bnd.length ≤ 1000) : ∀ (l : List (Int × Int)) (ah : List UInt8), ah.length ≤ 2 → ∀ p ∈ partsB tot kind bnd l ah ++ [(endL bnd, 0, 0)], p.1.length ≤ 1000000000
  | [], ah, ha, p, hp => by
    have : p = (endL bnd, 0, 0) := by simpa [partsB] using hp
    subst this
    unfold endL; simp; omega
  | s :: l, ah, ha, p, hp => by
    rw [partsB, List.cons_append, List.cons_append] at hp
    rcases List.mem_cons.1 hp with rfl | hp
    · have := ptext_len tot kind bnd ah s; show (ptext tot kind bnd ah s).length ≤ _; omega
    · rcases List.mem_cons.1 hp with rfl | hp
      · simp
      · exact parts_text hk hb l _ (by simp) p hp
theorem Pieces.one {w : World} {v : Value} {p : PieceT} (h : Pieces w v [p]) : ∃ A c bv, v = .slice A 1 c ∧ Byts w bv p.2 ∧ ∃ b o, A = some ⟨b, o, none⟩ ∧ 1 ≤ c ∧ w.cell? ⟨b, o, none⟩ = some (.int .i64 p.1.1) ∧ w.cell? ⟨b, o + 1, none⟩ = some (.int .i64 p.1.2.1) ∧ w.cell? ⟨b, o + 2, none⟩ = some (.int .i64 p.1.2.2) ∧ w.cell? ⟨b, o + 3, none⟩ = some bv := by
  obtain ⟨L, hL, hs, hb⟩ := h
  match L, hL with
  | [x], hL =>
    have hx : x.1 = p := by simpa using hL
    subst hx
    obtain ⟨A, c, hv, hc, hm, ho⟩ := Sl.open hs
    obtain ⟨b, o, hA, _, hj⟩ := ho 0 _ rfl
    exact ⟨A, c, x.2, hv, hb x (by simp), b, o, hA, hc, hj 0 _ rfl, hj 1 _ rfl, hj 2 _ rfl, hj 3 _ rfl⟩
theorem byts_lit (w : World) (l : List UInt8) (t : TypeId) (fr : Nat × Nat) (n : Nat) (hn : l.length = n) (hm : n ≤ 1000) : Byts (w.alloc (.cells (l.map byt).toArray t fr)) (.slice (some ⟨w.heap.size, 0, none⟩) n n) l := by
  subst hn
  refine ⟨_, _, rfl, Nat.le_refl _, by omega, .inr ⟨w.heap.size, 0, rfl, (Bk.new w t (l.map byt).toArray fr).lt, fun j u hu => ?_⟩⟩
  rw [Nat.zero_add, (Bk.new w t (l.map byt).toArray fr).cell j]; simpa using hu
set_option maxHeartbeats 8000000 in
set_option maxRecDepth 100000 in
theorem alive11_any (w : World) (hv : Vars w) : Calls Tryz.prog 4 #[] w fun e w' => e = .returned (.bool true) ∧ Gr w w' := by
  have kc := fun (w : World) (C : Array Value) (n c : Nat) => Lib.run_convert_bytes_const (P := Tryz.prog) w 32 5 C n c Tryz.underlying32 Tryz.underlying5
  have HV := Lib.hid (fun (x : World) (h : Gr w x) => hv.gr h); clear hv
  have hG1 := Gr.al (Gr.refl w) (Obj.cells #[.int .i64 3, .int .i64 5] 31)
  have HP := Lib.hid (parts_any (.slice (some ⟨w.heap.size, 0, none⟩) 1 1) exSpans 9 [97, 47, 98] [120] _ (HV.out _ hG1) (sl_lit w 31 (spansV exSpans) 1 (by decide)) (by decide) (by decide) (by decide) (by decide) (by decide))
  rw [ex_ok] at HP
  have HC := Lib.hid (fun (w : World) (hp : Pw w) => content_any 3 9 20 w hp (by decide) (by decide) (by decide))
  rw [ex_content] at HC
  go_enter Tryz.func4, Tryz.ntmps4
  go_upto_region 2 with (go_at_call 6; refine HP.out.mono ?_; rintro e w2 ⟨hG2, hend⟩; obtain ⟨v2, rfl, hp2⟩ := (by simpa using hend : ∃ v, e = .returned (.tuple #[v, .int .i64 0]) ∧ Parts w2 v (partsL 9 [97, 47, 98] [120] exSpans)))
  have hGw2 := Gr.tr hG1 hG2
  obtain ⟨A2, c2, rfl, hc2, _, _⟩ := hp2.open
  have HP2 := Lib.hid hp2
  clear hG1 hG2 HP hend hp2
  rw [show (partsL 9 [97, 47, 98] [120] exSpans).length = 3 from rfl] at *
  go_upto_region 3 with (go_at_call 9; have hG3 := Gr.al (Gr.refl w2) (Obj.cells (exObj.map byt).toArray 5 (9, 10)); refine (fill11_any _ _ _ exObj _ (HP2.out.gr hG3) (byts_lit w2 exObj 5 (9, 10) 9 rfl (by decide)) (parts_in (by decide) []) (by rw [fill_parts]; have := body_len 9 [97, 47, 98] [120] exObj exSpans [] (by simp); simp [exSpans, exObj] at this ⊢; omega) (by decide) (by decide) (parts_text (by decide) (by decide) exSpans [] (by simp))).mono ?_; rintro e w4 ⟨v4, rfl, hw4, hG4⟩; have hGw4 := Gr.tr (Gr.tr hGw2 hG3) hG4)
  have hby4 := own_byts hw4
  have HRD := Lib.hid (read_any v4 (fillL exObj (partsL 9 [97, 47, 98] [120] exSpans)) [120] w4 (HV.out _ hGw4) hby4 (by rw [fill_parts]; have := body_len 9 [97, 47, 98] [120] exObj exSpans [] (by simp); simp [exSpans, exObj] at this ⊢; omega) (by decide))
  rw [ex_read] at HRD
  obtain ⟨A4, c4, rfl⟩ := hw4.form
  clear hw4 hG3 hG4 hby4 HP2
  go_upto_region 4 with (go_at_call 10; refine HRD.out.mono ?_; rintro e w5 ⟨hG5, v5, rfl, hp5⟩)
  have hGw5 := Gr.tr hGw4 hG5
  obtain ⟨A5, c5, bv, rfl, hbv, b5, o5, rfl, hc5, y0, y1, y2, y3⟩ := hp5.one
  obtain ⟨A6, c6, rfl, _, _, _⟩ := hbv.open
  have HBV := Lib.hid hbv
  simp only at y0 y1 y2 y3
  replace y3 : w5.cell? ⟨b5, o5 + 3, none⟩ = some (.slice A6 2 c6) := y3
  clear hp5 HRD hbv
  go_wp2_with (go_at_call 12; refine (HC.out _ (HV.out _ hGw5).pw).mono ?_; rintro e w6 ⟨rfl, hG6⟩; have y2 := hG6.cell y2; have y3 := hG6.cell y3; have hts : (convert 32 9 (.slice A6 2 c6)).run Tryz.prog w6 = .ok (str [100, 101]) w6 := (HBV.out.gr hG6).toStr)
  go_ret
  exact ⟨rfl, Gr.tr hGw5 hG6⟩
end Go.Proofs.YtnmfmcmokdoieaaGreatDoor
