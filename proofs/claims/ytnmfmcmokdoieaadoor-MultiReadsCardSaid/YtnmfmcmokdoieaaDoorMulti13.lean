/- Layer 11: the ranges of a body, by the document: a contract; a body of at most a million bytes. -/
import Derived.Test.YtnmfmcmokdoieaaDoorMulti12
import Derived.Test.YtnmfmcmokdoieaaDoorBytes2
set_option linter.unusedVariables false
set_option linter.unusedSimpArgs false
namespace Go.Proofs.YtnmfmcmokdoieaaDoor
open Go.RowKit
theorem elemRPiece : ElemOk Tryd.prog 35 72 (.agg #[.int .i64 0, .int .i64 0, .int .i64 0, .slice none 0 0]) 4 48 := ⟨Tryd.underlying35, by kernel_rfl, rfl, by omega⟩
theorem ne_byte_rpiece : 72 ≠ 5 := by decide
theorem ne_span_rpiece : 72 ≠ 23 := by decide
theorem own_bk {W0 w : World} {e t : TypeId} {size n b : Nat} {v : Value} {xs : List Value} {cs : Array Value} {fr : Nat × Nat} (h : Own W0 w e size v n xs) (hb : Bk w b t cs fr) (hne : e ≠ t) : v.ownBlock ≠ some b := by
  rcases h.2 with ⟨rfl, _⟩ | ⟨b', cap, cur, rfl, _, hh, _⟩
  · simp [Value.ownBlock]
  · intro e
    have : b' = b := by simpa [Value.ownBlock] using e
    subst this
    unfold Bk at hb
    rw [hh] at hb
    injection hb with k
    injection k with _ k _
    exact hne k
/-- []byte(s), as one operation -/
theorem op_toByts {o : Oper} {a : Act} {K : Act → World → Prop} {Q : Exit → Act → World → Prop} {w : World} {l : List UInt8} (x : Operand) (ho : o.op = .convert 9 31 x) (hx : a.eval x = str l) (hl : l.length ≤ 9223372036854775807)
    (h : ∀ c w' cs fr, Byts w' (.slice (some ⟨w.heap.size, 0, none⟩) l.length c) l → Gr w w' → Bk w' w.heap.size 5 cs fr → K (a.put o.dst (.slice (some ⟨w.heap.size, 0, none⟩) l.length c)) w') : o.wp Tryd.prog a w K Q := by
  have hr := run_bytes_of_string (P := Tryd.prog) w 9 31 5 ⟨l.toArray⟩ Tryd.underlying9 Tryd.underlying31 Tryd.underlying5
  have hg := grownCap_ge w l.length 0 5
  have hK := h _ _ _ _ (byts_row w l _ (bytesRow ⟨l.toArray⟩ (grownCap w l.length 0 5)).size hg hl) (Gr.al (Gr.dr (Gr.refl w)) _) (Bk.new w.drew 5 _ _)
  unfold Oper.wp execOp
  simp only [ho, hx, Sem.run_bind]
  rw [hr]
  exact hK
/-- where the document's reading stands -/
structure RfI (w : World) (bnd s0 : List UInt8) (L : List (PieceT × Value)) (s : List UInt8) (v : Value) (wr : World) : Prop where
  row : Own w wr 72 4 v L.length (flatQ L)
  byts : ∀ x ∈ L, Byts wr x.2 x.1.2 ∧ ∃ b cs fr, x.2.ownBlock = some b ∧ Bk wr b 5 cs fr
  gr : Gr w wr
  few : L.length + s.length ≤ s0.length
  all : readG bnd (L.map (·.1)) s = readG bnd [] s0
theorem RfI.up {w : World} {bnd s0 : List UInt8} {L : List (PieceT × Value)} {s : List UInt8} {v : Value} {wr wx : World} (h : RfI w bnd s0 L s v wr) (k : Gr wr wx) : RfI w bnd s0 L s v wx :=
  ⟨h.row.gr k, fun x hx => ⟨(h.byts x hx).1.gr k, by obtain ⟨b, cs, fr, h1, h2⟩ := (h.byts x hx).2; exact ⟨b, cs, fr, h1, h2.gr k⟩⟩, Gr.tr h.gr k, h.few, h.all⟩
theorem RfI.app {w : World} {bnd s0 : List UInt8} {L : List (PieceT × Value)} {s s' : List UInt8} {v v' : Value} {wx w' : World} {x : PieceT × Value}
    (h : RfI w bnd s0 L s v wx) (ha : App v v' wx w') (ho : Own w w' 72 4 v' (L.length + 1) (flatQ L ++ [.int .i64 x.1.1.1, .int .i64 x.1.1.2.1, .int .i64 x.1.1.2.2, x.2]))
    (hx : Byts wx x.2 x.1.2 ∧ ∃ b cs fr, x.2.ownBlock = some b ∧ Bk wx b 5 cs fr) (hf : (L ++ [x]).length + s'.length ≤ s0.length) (hall : readG bnd ((L ++ [x]).map (·.1)) s' = readG bnd [] s0) : RfI w bnd s0 (L ++ [x]) s' v' w' := by
  have keep : ∀ y : PieceT × Value, (Byts wx y.2 y.1.2 ∧ ∃ b cs fr, y.2.ownBlock = some b ∧ Bk wx b 5 cs fr) → (Byts w' y.2 y.1.2 ∧ ∃ b cs fr, y.2.ownBlock = some b ∧ Bk w' b 5 cs fr) := by
    rintro y ⟨h1, b, cs, fr, h2, h3⟩
    have hne := own_bk h.row h3 ne_byte_rpiece
    exact ⟨h1.by ha.grown (.inr (by rw [h2]; exact Ne.symm hne)), b, cs, fr, h2, bk_byo h3 ha.grown (Ne.symm hne)⟩
  refine ⟨?_, ?_, gr_append h.gr h.row ha.grown, hf, hall⟩
  · rw [flatQ_snoc, List.length_append]; exact ho
  · intro y hy
    rcases List.mem_append.1 hy with h' | h'
    · exact keep y (h.byts y h')
    · simp only [List.mem_singleton] at h'; subst h'; exact keep y hx
theorem step_ahead {bnd : List UInt8} {out : List PieceT} {s : List UInt8} {e : Nat} (h : aheadR out.length s = .inl e) : stepR bnd out s = .inl (.inl e) := by unfold stepR; rw [h]
theorem step_noline {bnd : List UInt8} {out : List PieceT} {s s1 : List UInt8} (h : aheadR out.length s = .inr s1) (h1 : lnL s1 = none) : stepR bnd out s = .inl (.inl 13) := by unfold stepR; rw [h]; simp only; rw [h1]
theorem step_close {bnd : List UInt8} {out : List PieceT} {s s1 t r : List UInt8} (h : aheadR out.length s = .inr s1) (h1 : lnL s1 = some (t, r)) (ho : out ≠ []) (ht : t = [45, 45] ++ bnd ++ [45, 45]) : stepR bnd out s = .inl (if r = [] then .inr out else .inl 2) := by
  unfold stepR; rw [h]; simp only; rw [h1]; simp only; rw [if_pos ⟨ho, ht⟩]; split <;> rfl
theorem step_odd {bnd : List UInt8} {out : List PieceT} {s s1 t r : List UInt8} (h : aheadR out.length s = .inr s1) (h1 : lnL s1 = some (t, r)) (ho : ¬ (out ≠ [] ∧ t = [45, 45] ++ bnd ++ [45, 45])) (ht : t ≠ [45, 45] ++ bnd) : stepR bnd out s = .inl (.inl 2) := by
  unfold stepR; rw [h]; simp only; rw [h1]; simp only; rw [if_neg ho, if_neg ht]
theorem step_piece {bnd : List UInt8} {out : List PieceT} {s s1 t r : List UInt8} (h : aheadR out.length s = .inr s1) (h1 : lnL s1 = some (t, r)) (ht : t = [45, 45] ++ bnd) : stepR bnd out s = match pieceL out.isEmpty (totOf out) r with
    | .inl e => .inl (.inl e)
    | .inr (p, r) => .inr (out ++ [p], r) := by
  unfold stepR; rw [h]; simp only; rw [h1]; simp only; rw [if_neg (fun hh => ne_dash bnd (ht.symm.trans hh.2)), if_pos ht]
  generalize pieceL out.isEmpty (totOf out) r = q
  cases q with
  | inl => rfl
  | inr x => rfl
set_option maxHeartbeats 16000000 in
set_option maxRecDepth 100000 in
theorem refRead_any (u : Value) (s0 bnd : List UInt8) (w : World) (hu : Byts w u s0) (h0 : s0.length ≤ 1000000) (hbn : bnd.length ≤ 1000000) :
    Calls Tryd.prog 13 #[u, str bnd] w (ReadEnd w (multiL bnd s0)) := by
  obtain ⟨A, c, rfl, hc, hm, _⟩ := hu.open
  have HU := Lib.hid hu; clear hu
  have HBN := Lib.hid (fun (w : World) => refBounds_any bnd w (by omega))
  cases hb : boundB bnd with
  | false =>
    rw [hb] at HBN
    have HR := Lib.hid (multiL_no (s := s0) hb)
    go_enter Tryd.func13, Tryd.ntmps13
    go_wp2_with (go_at_call 33; refine (HBN.out _).mono ?_; rintro e w1 ⟨rfl, hG1⟩)
    go_ret2
    rw [HR.out]
    exact ⟨hG1, rfl⟩
  | true =>
    rw [hb] at HBN
    rw [multiL_eq hb]
    go_enter Tryd.func13, Tryd.ntmps13
    go_upto_region 4 with (first | (go_at_call 33; refine (HBN.out _).mono ?_; rintro e w1 ⟨rfl, hG1⟩; have HU1 := Lib.hid (HU.out.gr hG1)) | (refine wpList_toStr _ rfl rfl rfl HU1.out ?_))
    have HI0 := Lib.hid (show RfI w bnd s0 [] s0 (.slice none 0 0) w1 from ⟨Own.nil _ _ _ _, by simp, hG1, by simp, rfl⟩)
    clear hG1 HU HU1 HBN
    go_wp2_with fail
    go_loopg [4, 5, 6, 7, 8, 9, 10, 11, 12, 13, 14, 15, 16, 17, 18, 19, 20, 21] (s0.length + 1) (fun gk x4 x5 s6 s7 x8 x9 x10 x11 x12 x13 x14 x15 x16 x17 x18 x19 x20 x21 wr => ∃ L s, gk = s.length + 1 ∧ s6 = str s ∧ RfI w bnd s0 L s s7 wr)
    case atStart => exact ⟨[], s0, rfl, rfl, HI0.out⟩
    case round =>
      obtain ⟨L, s, hgk, rfl, hI⟩ := hrel
      have HI := Lib.hid hI
      obtain ⟨A1, c1, hrow⟩ := hI.row.form
      subst hrow
      have hfw := hI.few
      clear hI HI0
      by_cases hL : L = []
      · subst hL
        simp only [List.length_nil] at *
        obtain ⟨s1, hs1⟩ : ∃ s1, s1 = s := ⟨_, rfl⟩
        subst hs1
        have HA := Lib.hid (show aheadR (List.map (fun x : PieceT × Value => x.1) []).length s1 = .inr s1 from rfl)
        have HLN := Lib.hid (fun (w : World) => refLine11_any s1 w (by omega))
        cases h1 : lnL s1 with
        | none =>
          have hv : lnV s1 = .tuple #[str [], str [], .bool false] := by unfold lnV; rw [h1]
          rw [hv] at HLN
          have HR := Lib.hid (show readG bnd [] s0 = .inl 13 from by rw [← HI.out.all]; exact readG_end (step_noline HA.out h1))
          clear hv h1
          go_wp2_with (go_at_call 34; refine (HLN.out _).mono ?_; rintro e w2 ⟨rfl, hG2⟩)
          go_ret2
          rw [HR.out]
          exact ⟨Gr.tr HI.out.gr hG2, rfl⟩
        | some x =>
          obtain ⟨t, r⟩ := x
          have hv : lnV s1 = .tuple #[str t, str r, .bool true] := by unfold lnV; rw [h1]
          rw [hv] at HLN
          have l1 : r.length + 2 ≤ s1.length := by obtain ⟨_, _, _, _, h, _⟩ := lnL_some h1; exact h
          have lt1 : t.length ≤ s1.length := by obtain ⟨i, hi, ht, _⟩ := lnL_some h1; rw [ht, List.length_take]; omega
          have HL1 := Lib.hid h1
          clear hv h1
          go_upto_region 12 with (go_at_call 34; refine (HLN.out _).mono ?_; rintro e w2 ⟨rfl, hG2⟩)
          have HI2 := Lib.hid (HI.out.up hG2)
          clear HLN hG2
          by_cases hd : ¬ t = [45, 45] ++ bnd
          · have kd : (t == [45, 45] ++ bnd) = false := by simpa using hd
            have kd2 : (t == 45 :: 45 :: bnd) = false := by simpa using hd
            have HR := Lib.hid (show readG bnd [] s0 = .inl 2 from by rw [← HI.out.all]; exact readG_end (step_odd HA.out HL1.out (fun hh => hh.1 rfl) hd))
            go_wp2_with fail
            go_ret2
            rw [HR.out]
            exact ⟨HI2.out.gr, rfl⟩
          replace hd : t = [45, 45] ++ bnd := Classical.not_not.1 hd
          have kd : (t == [45, 45] ++ bnd) = true := by simpa using hd
          have kd2 : (t == 45 :: 45 :: bnd) = true := by simpa using hd
          have HSP := Lib.hid (step_piece (bnd := bnd) HA.out HL1.out hd)
          rw [show (List.map (fun x : PieceT × Value => x.1) []).isEmpty = true from rfl, show totOf (List.map (fun x : PieceT × Value => x.1) []) = 0 from rfl] at HSP
          have HFAIL := Lib.hid (fun n (h : pieceL true 0 r = .inl n) => show readG bnd [] s0 = .inl n from by rw [← HI.out.all]; exact readG_end (HSP.out.trans (by rw [h])))
          clear hd HL1 HA
          have HLN := Lib.hid (fun (w : World) => refLine11_any r w (by omega))
          cases h2 : lnL r with
          | none =>
            have hv : lnV r = .tuple #[str [], str [], .bool false] := by unfold lnV; rw [h2]
            rw [hv] at HLN
            have HR := Lib.hid (HFAIL.out 13 (by unfold pieceL; rw [h2]))
            clear hv h2
            go_wp2_with (go_at_call 34; refine (HLN.out _).mono ?_; rintro e w3 ⟨rfl, hG3⟩)
            go_ret2
            rw [HR.out]
            exact ⟨Gr.tr HI2.out.gr hG3, rfl⟩
          | some x =>
            obtain ⟨t2, r2⟩ := x
            have hv : lnV r = .tuple #[str t2, str r2, .bool true] := by unfold lnV; rw [h2]
            rw [hv] at HLN
            have l2 : r2.length + 2 ≤ r.length := by obtain ⟨_, _, _, _, h, _⟩ := lnL_some h2; exact h
            have lt2 : t2.length ≤ r.length := by obtain ⟨i, hi, ht, _⟩ := lnL_some h2; rw [ht, List.length_take]; omega
            have H2 := Lib.hid h2
            clear hv h2
            go_upto_region 23 with (go_at_call 34; refine (HLN.out _).mono ?_; rintro e w3 ⟨rfl, hG3⟩)
            have HI3 := Lib.hid (HI2.out.up hG3)
            clear HLN hG3
            have HAF := Lib.hid (fun (w : World) => refAfter_any t2 typeN w (by omega) (by decide))
            cases hk1 : stripL typeN t2 with
            | none =>
              have hv : stripV typeN t2 = .tuple #[str [], .bool false] := by unfold stripV; rw [hk1]
              rw [hv] at HAF
              have HR := Lib.hid (HFAIL.out 2 (by unfold pieceL; rw [H2.out]; simp only; rw [if_pos (by unfold kindLn; rw [hk1])]))
              clear hv hk1
              go_wp2_with (go_at_call 35; refine (HAF.out _).mono ?_; rintro e w4 ⟨rfl, hG4⟩)
              go_ret2
              rw [HR.out]
              exact ⟨Gr.tr HI3.out.gr hG4, rfl⟩
            | some kd =>
              have hv : stripV typeN t2 = .tuple #[str kd, .bool true] := by unfold stripV; rw [hk1]
              rw [hv] at HAF
              have lkd : kd.length ≤ t2.length := by unfold stripL at hk1; split at hk1; (simp only [Option.some.injEq] at hk1; rw [← hk1, List.length_drop]; omega); cases hk1
              have HKL := Lib.hid (show kindLn t2 = kindB kd from by unfold kindLn; rw [hk1])
              have HKI := Lib.hid (fun (w : World) => refKinds_any kd w (by omega))
              clear hv hk1
              cases hkb : kindB kd with
              | false =>
                rw [hkb] at HKI HKL
                have HR := Lib.hid (HFAIL.out 2 (by unfold pieceL; rw [H2.out]; simp only; rw [if_pos HKL.out]))
                go_wp2_with (first | (go_at_call 35; refine (HAF.out _).mono ?_; rintro e w4 ⟨rfl, hG4⟩) | (go_at_call 36; refine (HKI.out _).mono ?_; rintro e w5 ⟨rfl, hG5⟩))
                go_ret2
                rw [HR.out]
                exact ⟨Gr.tr (Gr.tr HI3.out.gr hG4) hG5, rfl⟩
              | true =>
                rw [hkb] at HKI HKL
                clear hkb
                go_upto_region 26 with (first | (go_at_call 35; refine (HAF.out _).mono ?_; rintro e w4 ⟨rfl, hG4⟩) | (go_at_call 36; refine (HKI.out _).mono ?_; rintro e w5 ⟨rfl, hG5⟩))
                have HI5 := Lib.hid (HI3.out.up (Gr.tr hG4 hG5))
                clear HAF HKI hG4 hG5
                have HLN := Lib.hid (fun (w : World) => refLine11_any r2 w (by omega))
                cases h3 : lnL r2 with
                | none =>
                  have hv : lnV r2 = .tuple #[str [], str [], .bool false] := by unfold lnV; rw [h3]
                  rw [hv] at HLN
                  have HR := Lib.hid (HFAIL.out 13 (by unfold pieceL; rw [H2.out]; simp only; rw [HKL.out, if_neg (by simp), h3]))
                  clear hv h3
                  go_wp2_with (go_at_call 34; refine (HLN.out _).mono ?_; rintro e w6 ⟨rfl, hG6⟩)
                  go_ret2
                  rw [HR.out]
                  exact ⟨Gr.tr HI5.out.gr hG6, rfl⟩
                | some x =>
                  obtain ⟨t3, r3⟩ := x
                  have hv : lnV r2 = .tuple #[str t3, str r3, .bool true] := by unfold lnV; rw [h3]
                  rw [hv] at HLN
                  have l3 : r3.length + 2 ≤ r2.length := by obtain ⟨_, _, _, _, h, _⟩ := lnL_some h3; exact h
                  have lt3 : t3.length ≤ r2.length := by obtain ⟨i, hi, ht, _⟩ := lnL_some h3; rw [ht, List.length_take]; omega
                  have HPL := Lib.hid (show pieceL true 0 r = match rangeLn true 0 t3 with
                    | none => .inl 2
                    | some x => match lnL r3 with
                      | none => .inl 13
                      | some (t3, s3) => if t3 ≠ [] then .inl 2 else dataL x s3 from by unfold pieceL; rw [H2.out]; simp only; rw [HKL.out, if_neg (by simp), h3]; simp only; cases rangeLn true 0 t3 with | none => rfl | some x => (cases lnL r3 with | none => rfl | some y => rfl))
                  clear hv h3 H2 HKL
                  go_upto_region 29 with (go_at_call 34; refine (HLN.out _).mono ?_; rintro e w6 ⟨rfl, hG6⟩)
                  have HI6 := Lib.hid (HI5.out.up hG6)
                  clear HLN hG6
                  have HAF := Lib.hid (fun (w : World) => refAfter_any t3 rangeN w (by omega) (by decide))
                  obtain ⟨vl, isb, hva, lvl, hisb⟩ : ∃ vl isb, stripV rangeN t3 = .tuple #[str vl, .bool isb] ∧ vl.length ≤ t3.length ∧ rangeLn true 0 t3 = (if isb then (match rangeR vl with | none => none | some x => if true || (x.2.2 == 0) then some x else none) else none) := by
                    unfold stripV rangeLn
                    cases hs : stripL rangeN t3 with
                    | none => exact ⟨[], false, rfl, Nat.zero_le _, rfl⟩
                    | some x =>
                      refine ⟨x, true, rfl, ?_, rfl⟩
                      unfold stripL at hs
                      split at hs
                      · simp only [Option.some.injEq] at hs; rw [← hs, List.length_drop]; omega
                      · cases hs
                  rw [hva] at HAF
                  rw [hisb] at HPL
                  clear hva hisb
                  have HRG := Lib.hid (fun (w : World) => refRange_any vl w (by omega))
                  rw [rangeV_eq] at HRG
                  have HBD := Lib.hid (fun x (h : rangeR vl = some x) => cont_parts (cont_yes (f := x.1) (t := x.2.1) (n := x.2.2) (by rw [(rangeR_some h).1]; exact (rangeR_some h).2)))
                  generalize rangeR vl = rr at *
                  go_upto_region 31 with (first | (go_at_call 35; refine (HAF.out _).mono ?_; rintro e w7 ⟨rfl, hG7⟩) | (go_at_call 11; refine (HRG.out _).mono ?_; rintro e w8 ⟨rfl, hG8⟩))
                  have hbx := Bk.new w8 23 #[.int .i64 (rF rr), .int .i64 (rT rr)] (0, 0)
                  have HI9 := Lib.hid (HI6.out.up (Gr.tr (Gr.tr hG7 hG8) (Gr.al (Gr.refl w8) (Obj.cells #[.int .i64 (rF rr), .int .i64 (rT rr)] 23))))
                  generalize w8.alloc (Obj.cells #[.int .i64 (rF rr), .int .i64 (rT rr)] 23) = w9 at *
                  generalize w8.heap.size = bx at *
                  have HX9 := Lib.hid hbx
                  clear hbx HAF HRG hG7 hG8
                  cases isb with
                  | false =>
                    have HR := Lib.hid (HFAIL.out 2 (by rw [HPL.out]; rfl))
                    go_wp2_with fail
                    go_ret2
                    rw [HR.out]
                    exact ⟨HI9.out.gr, rfl⟩
                  | true =>
                  cases rr with
                  | none =>
                    have HR := Lib.hid (HFAIL.out 2 (by rw [HPL.out]; rfl))
                    simp only [rF, rT, rN, rE] at *
                    go_wp2_with fail
                    go_ret2
                    rw [HR.out]
                    exact ⟨HI9.out.gr, rfl⟩
                  | some x =>
                  obtain ⟨xf, xt, xn⟩ := x
                  have hbd := HBD.out _ rfl
                  simp only at hbd
                  clear HBD
                  simp only [rF, rT, rN, rE] at *
                  have HPL := Lib.hid (show pieceL true 0 r = (match lnL r3 with
                      | none => .inl 13
                      | some (t3, s3) => if t3 ≠ [] then .inl 2 else dataL (xf, xt, xn) s3) from by rw [HPL.out]; rfl)
                  have HLN := Lib.hid (fun (w : World) => refLine11_any r3 w (by omega))
                  cases h4 : lnL r3 with
                  | none =>
                    have hv : lnV r3 = .tuple #[str [], str [], .bool false] := by unfold lnV; rw [h4]
                    rw [hv] at HLN
                    have HR := Lib.hid (HFAIL.out 13 (by rw [HPL.out, h4]))
                    clear hv h4
                    go_wp2_with (go_at_call 34; refine (HLN.out _).mono ?_; rintro e w10 ⟨rfl, hG10⟩)
                    go_ret2
                    rw [HR.out]
                    exact ⟨Gr.tr HI9.out.gr hG10, rfl⟩
                  | some x =>
                    obtain ⟨t4, r4⟩ := x
                    have hv : lnV r3 = .tuple #[str t4, str r4, .bool true] := by unfold lnV; rw [h4]
                    rw [hv] at HLN
                    have l4 : r4.length + 2 ≤ r3.length := by obtain ⟨_, _, _, _, h, _⟩ := lnL_some h4; exact h
                    rw [h4] at HPL
                    simp only at HPL
                    clear hv h4
                    by_cases ht4 : ¬ t4 = []
                    · have k4 : t4.isEmpty = false := by simpa using ht4
                      have HR := Lib.hid (HFAIL.out 2 (by rw [HPL.out, if_pos ht4]))
                      clear ht4
                      go_wp2_with (go_at_call 34; refine (HLN.out _).mono ?_; rintro e w10 ⟨rfl, hG10⟩)
                      go_ret2
                      rw [HR.out]
                      exact ⟨Gr.tr HI9.out.gr hG10, rfl⟩
                    replace ht4 : t4 = [] := Classical.not_not.1 ht4
                    subst ht4
                    rw [if_neg (by simp)] at HPL
                    obtain ⟨x0, x1⟩ := HX9.out.cells2
                    by_cases hlong : r4.length < (xt - xf).toNat
                    · have kl : decide ((r4.length : Int) < xt - xf) = true := decide_eq_true (by omega)
                      have HR := Lib.hid (HFAIL.out 13 (by rw [HPL.out]; exact if_pos hlong))
                      go_wp2_with (go_at_call 34; refine (HLN.out _).mono ?_; rintro e w10 ⟨rfl, hG10⟩; have x0 := hG10.cell x0; have x1 := hG10.cell x1)
                      go_ret2
                      rw [HR.out]
                      exact ⟨Gr.tr HI9.out.gr hG10, rfl⟩
                    · have kl : decide ((r4.length : Int) < xt - xf) = false := decide_eq_false (by omega)
                      have HPR := Lib.hid (show pieceL true 0 r = .inr (((xf, xt, xn), r4.take (xt - xf).toNat), r4.drop (xt - xf).toNat) from by rw [HPL.out]; exact if_neg hlong)
                      have HRR := Lib.hid (show readG bnd (([] : List (PieceT × Value)).map (·.1) ++ [((xf, xt, xn), r4.take (xt - xf).toNat)]) (r4.drop (xt - xf).toNat) = readG bnd [] s0 from by rw [← HI.out.all]; exact (readG_step (HSP.out.trans (by rw [HPR.out]))).symm)
                      clear HPL HPR HSP HFAIL
                      go_upto_region 41 with (go_at_call 34; refine (HLN.out _).mono ?_; rintro e w10 ⟨rfl, hG10⟩; have x0 := hG10.cell x0; have x1 := hG10.cell x1)
                      have HI10 := Lib.hid (HI9.out.up hG10)
                      have HX10 := Lib.hid (HX9.out.gr hG10)
                      clear HI2 HI3 HI5 HI6 HI9 HX9 hG10 HLN
                      have hne := Ne.symm (own_bk HI10.out.row HX10.out ne_span_rpiece)
                      have p0 := gx_cell (r := (Value.slice A1 0 c1).ownBlock) x0 hne
                      have p1 := gx_cell (r := (Value.slice A1 0 c1).ownBlock) x1 hne
                      have b0 : 0 ≤ xt - xf := by omega
                      have b1 : xt - xf ≤ (r4.length : Int) := by omega
                      refine wp_region_mix [0, 1, 2, 3, 4, 5] ((Value.slice A1 0 c1).ownBlock) 5 (by kernel_rfl) rfl (by kernel_rfl) (fun o _ _ _ _ h => by cases o <;> exact h) ?_
                      simp only [pickOps, List.filterMap_cons, List.filterMap_nil, List.getElem?_cons_zero, List.getElem?_cons_succ]
                      repeat (first | (refine wpGq_step (fun K hK => ?_); go_simp; refine hK _ ?_; clear hK K) | (refine wpGq_step (fun K hK => ?_); go_simp; simp only [↓IntWalk.iteOmega]; go_simp; refine hK _ ?_; clear hK K) | (refine wpGq_step (fun K hK => ?_); go_simp; apply Exists.intro; refine ⟨fun _ => ?_, hK _ ?_⟩; fail; clear hK K))
                      refine wpGq_nil ?_
                      refine wpG_one 6 (by kernel_rfl) rfl rfl (fun K hK wa hga => ?_)
                      refine op_toByts (l := r4.take (xt - xf).toNat) _ rfl rfl (by rw [List.length_take]; omega) ?_
                      intro cb wb csb frb hBy hGab hBk
                      have hlt : (r4.take (xt - xf).toNat).length = (xt - xf).toNat := by rw [List.length_take]; omega
                      rw [hlt] at hBy
                      clear hlt
                      have hHBy := Lib.hid hBy
                      have hHBk := Lib.hid hBk
                      have hGb : Gr w10 wb := Gr.tr hga hGab
                      refine hK _ _ (hGb.by _) ?_
                      clear hK K hBy hBk hga hGab
                      generalize wa.heap.size = bb at *
                      refine wpG_one 7 (by kernel_rfl) rfl rfl (fun K hK wc hgc => ?_)
                      go_simp
                      have hGc : Gr w10 wc := Gr.tr hGb hgc
                      refine hK _ _ (hGc.by _) ?_
                      clear hK K
                      refine wpG_one 8 (by kernel_rfl) rfl rfl (fun K hK wd hgd => ?_)
                      go_simp
                      have hGd : Gr w10 wd := Gr.tr hGc hgd
                      refine hK _ _ ((Gr.al hGd _).by _) ?_
                      clear hK K
                      refine wpG_one 9 (by kernel_rfl) rfl rfl (fun K hK we hge => ?_)
                      have hGe := Gr.tr (Gr.al hGd _) hge
                      have hGbe := Gr.tr (Gr.al (Gr.tr hgc hgd) _) hge
                      refine op_appS (W0 := w) (n := ([] : List (PieceT × Value)).length) (m := 1) (xs := flatQ ([] : List (PieceT × Value))) (news := [.int .i64 xf, .int .i64 xt, .int .i64 xn, .slice (some ⟨bb, 0, none⟩) (xt - xf).toNat cb]) elemRPiece _ _ rfl rfl rfl ?_ (HI10.out.row.gr hGe) (Sl.gr (sl_lit _ _ _ 1 (by decide)) hge) rfl (one_piece _ _ _ _ _ _) ?_ (by decide) ?_
                      · exact (Gr.tr HI10.out.gr hGe).size
                      · first | omega | (simp only [List.length_nil]; omega)
                      intro v' wf hOwn hApp
                      have HOwn := Lib.hid hOwn
                      have HApp := Lib.hid hApp
                      obtain ⟨A4, c4, rfl⟩ := hOwn.form
                      refine hK _ _ (by_trans (hGe.by _) hApp.grown) ?_
                      clear hK K hOwn hApp
                      refine wpG_one 10 (by kernel_rfl) rfl rfl (fun K hK wg hgg => ?_)
                      go_simp
                      refine hK _ _ (by_tr (by_trans (hGe.by _) HApp.out.grown) hgg) ?_
                      clear hK K
                      refine wpG_done (by kernel_rfl) (fun wh hgh => ?_)
                      go_wp2_with fail
                      go_roundg ((r4.drop (xt - xf).toNat).length + 1)
                      case measure => rw [hgk, List.length_drop]; omega
                      case rel =>
                        refine ⟨([] : List (PieceT × Value)) ++ [(((xf, xt, xn), r4.take (xt - xf).toNat), .slice (some ⟨bb, 0, none⟩) (xt - xf).toNat cb)], r4.drop (xt - xf).toNat, rfl, rfl, ?_⟩
                        refine (RfI.app (HI10.out.up hGe) HApp.out HOwn.out ⟨hHBy.out.gr hGbe, bb, _, _, rfl, hHBk.out.gr hGbe⟩ ?_ (by rw [List.map_append]; exact HRR.out)).up (Gr.tr hgg hgh)
                        rw [List.length_append, List.length_drop]; simp only [List.length_cons, List.length_nil]; omega
      · have hln : 0 < L.length := List.length_pos_iff.2 hL
        have HNE := Lib.hid (show L.map (·.1) ≠ [] from by simpa using hL)
        have dl : decide (0 < (L.length : Int)) = true := decide_eq_true (by omega)
        have hlm : (L.map (·.1)).length ≠ 0 := by simpa using hL
        clear hL
        by_cases h2 : s.length < 2
        · have d2 : decide ((s.length : Int) < 2) = true := decide_eq_true (by omega)
          have HR := Lib.hid (show readG bnd [] s0 = .inl 13 from by rw [← HI.out.all]; exact readG_end (step_ahead (by unfold aheadR; rw [if_neg hlm, if_pos h2])))
          go_wp2_with fail
          go_ret2
          rw [HR.out]
          exact ⟨HI.out.gr, rfl⟩
        have d2 : decide ((s.length : Int) < 2) = false := decide_eq_false (by omega)
        by_cases hc2 : ¬ s.take 2 = [13, 10]
        · have kc : (s.take 2 == [13, 10]) = false := by simpa using hc2
          have HR := Lib.hid (show readG bnd [] s0 = .inl 2 from by rw [← HI.out.all]; exact readG_end (step_ahead (by unfold aheadR; rw [if_neg hlm, if_neg h2, if_neg hc2])))
          go_wp2_with fail
          go_ret2
          rw [HR.out]
          exact ⟨HI.out.gr, rfl⟩
        replace hc2 : s.take 2 = [13, 10] := Classical.not_not.1 hc2
        have kc : (s.take 2 == [13, 10]) = true := by simpa using hc2
        have HA := Lib.hid (show aheadR (L.map (·.1)).length s = .inr (s.drop 2) from by unfold aheadR; rw [if_neg hlm, if_neg h2, if_pos hc2])
        have hl1 : (s.drop 2).length ≤ s.length := by rw [List.length_drop]; omega
        clear hc2 hlm
        go_upto_region 11 with fail
        generalize s.drop 2 = s1 at *
        have HLN := Lib.hid (fun (w : World) => refLine11_any s1 w (by omega))
        cases h1 : lnL s1 with
        | none =>
          have hv : lnV s1 = .tuple #[str [], str [], .bool false] := by unfold lnV; rw [h1]
          rw [hv] at HLN
          have HR := Lib.hid (show readG bnd [] s0 = .inl 13 from by rw [← HI.out.all]; exact readG_end (step_noline HA.out h1))
          clear hv h1
          go_wp2_with (go_at_call 34; refine (HLN.out _).mono ?_; rintro e w2 ⟨rfl, hG2⟩)
          go_ret2
          rw [HR.out]
          exact ⟨Gr.tr HI.out.gr hG2, rfl⟩
        | some x =>
          obtain ⟨t, r⟩ := x
          have hv : lnV s1 = .tuple #[str t, str r, .bool true] := by unfold lnV; rw [h1]
          rw [hv] at HLN
          have l1 : r.length + 2 ≤ s1.length := by obtain ⟨_, _, _, _, h, _⟩ := lnL_some h1; exact h
          have lt1 : t.length ≤ s1.length := by obtain ⟨i, hi, ht, _⟩ := lnL_some h1; rw [ht, List.length_take]; omega
          have HL1 := Lib.hid h1
          clear hv h1
          go_upto_region 12 with (go_at_call 34; refine (HLN.out _).mono ?_; rintro e w2 ⟨rfl, hG2⟩)
          have HI2 := Lib.hid (HI.out.up hG2)
          clear HLN hG2
          by_cases hcl : t = [45, 45] ++ bnd ++ [45, 45]
          · have kt : (t == [45, 45] ++ bnd ++ [45, 45]) = true := by simpa using hcl
            have kt2 : (t == 45 :: 45 :: (bnd ++ [45, 45])) = true := by simpa using hcl
            have HST := Lib.hid (step_close (bnd := bnd) HA.out HL1.out HNE.out hcl)
            clear hcl
            by_cases hr0 : r = []
            · have HR := Lib.hid (show readG bnd [] s0 = .inr (L.map (·.1)) from by rw [← HI.out.all, readG_end HST.out, if_pos hr0])
              subst hr0
              go_wp2_with fail
              go_ret2
              rw [HR.out]
              exact ⟨HI2.out.gr, _, rfl, L, rfl, HI2.out.row.sl (by decide), fun x hx => (HI2.out.byts x hx).1⟩
            · have HR := Lib.hid (show readG bnd [] s0 = .inl 2 from by rw [← HI.out.all, readG_end HST.out, if_neg hr0])
              have kr : r.isEmpty = false := by simpa using hr0
              clear hr0
              go_wp2_with fail
              go_ret2
              rw [HR.out]
              exact ⟨HI2.out.gr, rfl⟩
          have kt : (t == [45, 45] ++ bnd ++ [45, 45]) = false := by simpa using hcl
          have kt2 : (t == 45 :: 45 :: (bnd ++ [45, 45])) = false := by simpa using hcl
          by_cases hd : ¬ t = [45, 45] ++ bnd
          · have kd : (t == [45, 45] ++ bnd) = false := by simpa using hd
            have kd2 : (t == 45 :: 45 :: bnd) = false := by simpa using hd
            have HR := Lib.hid (show readG bnd [] s0 = .inl 2 from by rw [← HI.out.all]; exact readG_end (step_odd HA.out HL1.out (fun hh => hcl hh.2) hd))
            go_wp2_with fail
            go_ret2
            rw [HR.out]
            exact ⟨HI2.out.gr, rfl⟩
          replace hd : t = [45, 45] ++ bnd := Classical.not_not.1 hd
          have kd : (t == [45, 45] ++ bnd) = true := by simpa using hd
          have kd2 : (t == 45 :: 45 :: bnd) = true := by simpa using hd
          have HSP := Lib.hid (step_piece (bnd := bnd) HA.out HL1.out hd)
          rw [show (L.map (·.1)).isEmpty = false from by cases L with | nil => simp at hln | cons a b => rfl] at HSP
          have HFAIL := Lib.hid (fun n (h : pieceL false (totOf (L.map (·.1))) r = .inl n) => show readG bnd [] s0 = .inl n from by rw [← HI.out.all]; exact readG_end (HSP.out.trans (by rw [h])))
          clear hd HL1 HA
          have HLN := Lib.hid (fun (w : World) => refLine11_any r w (by omega))
          cases h2 : lnL r with
          | none =>
            have hv : lnV r = .tuple #[str [], str [], .bool false] := by unfold lnV; rw [h2]
            rw [hv] at HLN
            have HR := Lib.hid (HFAIL.out 13 (by unfold pieceL; rw [h2]))
            clear hv h2
            go_wp2_with (go_at_call 34; refine (HLN.out _).mono ?_; rintro e w3 ⟨rfl, hG3⟩)
            go_ret2
            rw [HR.out]
            exact ⟨Gr.tr HI2.out.gr hG3, rfl⟩
          | some x =>
            obtain ⟨t2, r2⟩ := x
            have hv : lnV r = .tuple #[str t2, str r2, .bool true] := by unfold lnV; rw [h2]
            rw [hv] at HLN
            have l2 : r2.length + 2 ≤ r.length := by obtain ⟨_, _, _, _, h, _⟩ := lnL_some h2; exact h
            have lt2 : t2.length ≤ r.length := by obtain ⟨i, hi, ht, _⟩ := lnL_some h2; rw [ht, List.length_take]; omega
            have H2 := Lib.hid h2
            clear hv h2
            go_upto_region 23 with (go_at_call 34; refine (HLN.out _).mono ?_; rintro e w3 ⟨rfl, hG3⟩)
            have HI3 := Lib.hid (HI2.out.up hG3)
            clear HLN hG3
            have HAF := Lib.hid (fun (w : World) => refAfter_any t2 typeN w (by omega) (by decide))
            cases hk1 : stripL typeN t2 with
            | none =>
              have hv : stripV typeN t2 = .tuple #[str [], .bool false] := by unfold stripV; rw [hk1]
              rw [hv] at HAF
              have HR := Lib.hid (HFAIL.out 2 (by unfold pieceL; rw [H2.out]; simp only; rw [if_pos (by unfold kindLn; rw [hk1])]))
              clear hv hk1
              go_wp2_with (go_at_call 35; refine (HAF.out _).mono ?_; rintro e w4 ⟨rfl, hG4⟩)
              go_ret2
              rw [HR.out]
              exact ⟨Gr.tr HI3.out.gr hG4, rfl⟩
            | some kd =>
              have hv : stripV typeN t2 = .tuple #[str kd, .bool true] := by unfold stripV; rw [hk1]
              rw [hv] at HAF
              have lkd : kd.length ≤ t2.length := by unfold stripL at hk1; split at hk1; (simp only [Option.some.injEq] at hk1; rw [← hk1, List.length_drop]; omega); cases hk1
              have HKL := Lib.hid (show kindLn t2 = kindB kd from by unfold kindLn; rw [hk1])
              have HKI := Lib.hid (fun (w : World) => refKinds_any kd w (by omega))
              clear hv hk1
              cases hkb : kindB kd with
              | false =>
                rw [hkb] at HKI HKL
                have HR := Lib.hid (HFAIL.out 2 (by unfold pieceL; rw [H2.out]; simp only; rw [if_pos HKL.out]))
                go_wp2_with (first | (go_at_call 35; refine (HAF.out _).mono ?_; rintro e w4 ⟨rfl, hG4⟩) | (go_at_call 36; refine (HKI.out _).mono ?_; rintro e w5 ⟨rfl, hG5⟩))
                go_ret2
                rw [HR.out]
                exact ⟨Gr.tr (Gr.tr HI3.out.gr hG4) hG5, rfl⟩
              | true =>
                rw [hkb] at HKI HKL
                clear hkb
                go_upto_region 26 with (first | (go_at_call 35; refine (HAF.out _).mono ?_; rintro e w4 ⟨rfl, hG4⟩) | (go_at_call 36; refine (HKI.out _).mono ?_; rintro e w5 ⟨rfl, hG5⟩))
                have HI5 := Lib.hid (HI3.out.up (Gr.tr hG4 hG5))
                clear HAF HKI hG4 hG5
                have HLN := Lib.hid (fun (w : World) => refLine11_any r2 w (by omega))
                cases h3 : lnL r2 with
                | none =>
                  have hv : lnV r2 = .tuple #[str [], str [], .bool false] := by unfold lnV; rw [h3]
                  rw [hv] at HLN
                  have HR := Lib.hid (HFAIL.out 13 (by unfold pieceL; rw [H2.out]; simp only; rw [HKL.out, if_neg (by simp), h3]))
                  clear hv h3
                  go_wp2_with (go_at_call 34; refine (HLN.out _).mono ?_; rintro e w6 ⟨rfl, hG6⟩)
                  go_ret2
                  rw [HR.out]
                  exact ⟨Gr.tr HI5.out.gr hG6, rfl⟩
                | some x =>
                  obtain ⟨t3, r3⟩ := x
                  have hv : lnV r2 = .tuple #[str t3, str r3, .bool true] := by unfold lnV; rw [h3]
                  rw [hv] at HLN
                  have l3 : r3.length + 2 ≤ r2.length := by obtain ⟨_, _, _, _, h, _⟩ := lnL_some h3; exact h
                  have lt3 : t3.length ≤ r2.length := by obtain ⟨i, hi, ht, _⟩ := lnL_some h3; rw [ht, List.length_take]; omega
                  have HPL := Lib.hid (show pieceL false (totOf (L.map (·.1))) r = match rangeLn false (totOf (L.map (·.1))) t3 with
                    | none => .inl 2
                    | some x => match lnL r3 with
                      | none => .inl 13
                      | some (t3, s3) => if t3 ≠ [] then .inl 2 else dataL x s3 from by unfold pieceL; rw [H2.out]; simp only; rw [HKL.out, if_neg (by simp), h3]; simp only; cases rangeLn false (totOf (L.map (·.1))) t3 with | none => rfl | some x => (cases lnL r3 with | none => rfl | some y => rfl))
                  clear hv h3 H2 HKL
                  go_upto_region 29 with (go_at_call 34; refine (HLN.out _).mono ?_; rintro e w6 ⟨rfl, hG6⟩)
                  have HI6 := Lib.hid (HI5.out.up hG6)
                  clear HLN hG6
                  have HAF := Lib.hid (fun (w : World) => refAfter_any t3 rangeN w (by omega) (by decide))
                  obtain ⟨vl, isb, hva, lvl, hisb⟩ : ∃ vl isb, stripV rangeN t3 = .tuple #[str vl, .bool isb] ∧ vl.length ≤ t3.length ∧ rangeLn false (totOf (L.map (·.1))) t3 = (if isb then (match rangeR vl with | none => none | some x => if false || (x.2.2 == (totOf (L.map (·.1)))) then some x else none) else none) := by
                    unfold stripV rangeLn
                    cases hs : stripL rangeN t3 with
                    | none => exact ⟨[], false, rfl, Nat.zero_le _, rfl⟩
                    | some x =>
                      refine ⟨x, true, rfl, ?_, rfl⟩
                      unfold stripL at hs
                      split at hs
                      · simp only [Option.some.injEq] at hs; rw [← hs, List.length_drop]; omega
                      · cases hs
                  rw [hva] at HAF
                  rw [hisb] at HPL
                  clear hva hisb
                  have HRG := Lib.hid (fun (w : World) => refRange_any vl w (by omega))
                  rw [rangeV_eq] at HRG
                  have HBD := Lib.hid (fun x (h : rangeR vl = some x) => cont_parts (cont_yes (f := x.1) (t := x.2.1) (n := x.2.2) (by rw [(rangeR_some h).1]; exact (rangeR_some h).2)))
                  generalize rangeR vl = rr at *
                  go_upto_region 31 with (first | (go_at_call 35; refine (HAF.out _).mono ?_; rintro e w7 ⟨rfl, hG7⟩) | (go_at_call 11; refine (HRG.out _).mono ?_; rintro e w8 ⟨rfl, hG8⟩))
                  have hbx := Bk.new w8 23 #[.int .i64 (rF rr), .int .i64 (rT rr)] (0, 0)
                  have HI9 := Lib.hid (HI6.out.up (Gr.tr (Gr.tr hG7 hG8) (Gr.al (Gr.refl w8) (Obj.cells #[.int .i64 (rF rr), .int .i64 (rT rr)] 23))))
                  generalize w8.alloc (Obj.cells #[.int .i64 (rF rr), .int .i64 (rT rr)] 23) = w9 at *
                  generalize w8.heap.size = bx at *
                  have HX9 := Lib.hid hbx
                  clear hbx HAF HRG hG7 hG8
                  cases isb with
                  | false =>
                    have HR := Lib.hid (HFAIL.out 2 (by rw [HPL.out]; rfl))
                    go_wp2_with fail
                    go_ret2
                    rw [HR.out]
                    exact ⟨HI9.out.gr, rfl⟩
                  | true =>
                  cases rr with
                  | none =>
                    have HR := Lib.hid (HFAIL.out 2 (by rw [HPL.out]; rfl))
                    simp only [rF, rT, rN, rE] at *
                    go_wp2_with fail
                    go_ret2
                    rw [HR.out]
                    exact ⟨HI9.out.gr, rfl⟩
                  | some x =>
                  obtain ⟨xf, xt, xn⟩ := x
                  have hbd := HBD.out _ rfl
                  simp only at hbd
                  clear HBD
                  simp only [rF, rT, rN, rE] at *
                  obtain ⟨ba, hba, hca⟩ := rd_at HI9.out.row hln
                  subst hba
                  have y2 := rd_get HI9.out.row (flatQ_tot hln)
                  by_cases htt : ¬ xn = totOf (L.map (·.1))
                  · have kt : (xn == totOf (L.map (·.1))) = false := by simpa using htt
                    have ktn : (xn != totOf (L.map (·.1))) = true := by simpa using htt
                    have HR := Lib.hid (HFAIL.out 2 (by rw [HPL.out]; simp only [if_pos, Bool.false_or]; rw [kt]; rfl))
                    go_wp2_with fail
                    go_ret2
                    rw [HR.out]
                    exact ⟨HI9.out.gr, rfl⟩
                  replace htt : xn = totOf (L.map (·.1)) := Classical.not_not.1 htt
                  have kt : (xn == totOf (L.map (·.1))) = true := by simpa using htt
                  have ktn : (xn != totOf (L.map (·.1))) = false := by simpa using htt
                  have HPL := Lib.hid (show pieceL false (totOf (L.map (·.1))) r = (match lnL r3 with
                      | none => .inl 13
                      | some (t3, s3) => if t3 ≠ [] then .inl 2 else dataL (xf, xt, xn) s3) from by rw [HPL.out]; simp only [if_pos, Bool.false_or]; rw [kt]; rfl)
                  clear htt
                  have HLN := Lib.hid (fun (w : World) => refLine11_any r3 w (by omega))
                  cases h4 : lnL r3 with
                  | none =>
                    have hv : lnV r3 = .tuple #[str [], str [], .bool false] := by unfold lnV; rw [h4]
                    rw [hv] at HLN
                    have HR := Lib.hid (HFAIL.out 13 (by rw [HPL.out, h4]))
                    clear hv h4
                    go_wp2_with (go_at_call 34; refine (HLN.out _).mono ?_; rintro e w10 ⟨rfl, hG10⟩)
                    go_ret2
                    rw [HR.out]
                    exact ⟨Gr.tr HI9.out.gr hG10, rfl⟩
                  | some x =>
                    obtain ⟨t4, r4⟩ := x
                    have hv : lnV r3 = .tuple #[str t4, str r4, .bool true] := by unfold lnV; rw [h4]
                    rw [hv] at HLN
                    have l4 : r4.length + 2 ≤ r3.length := by obtain ⟨_, _, _, _, h, _⟩ := lnL_some h4; exact h
                    rw [h4] at HPL
                    simp only at HPL
                    clear hv h4
                    by_cases ht4 : ¬ t4 = []
                    · have k4 : t4.isEmpty = false := by simpa using ht4
                      have HR := Lib.hid (HFAIL.out 2 (by rw [HPL.out, if_pos ht4]))
                      clear ht4
                      go_wp2_with (go_at_call 34; refine (HLN.out _).mono ?_; rintro e w10 ⟨rfl, hG10⟩)
                      go_ret2
                      rw [HR.out]
                      exact ⟨Gr.tr HI9.out.gr hG10, rfl⟩
                    replace ht4 : t4 = [] := Classical.not_not.1 ht4
                    subst ht4
                    rw [if_neg (by simp)] at HPL
                    obtain ⟨x0, x1⟩ := HX9.out.cells2
                    by_cases hlong : r4.length < (xt - xf).toNat
                    · have kl : decide ((r4.length : Int) < xt - xf) = true := decide_eq_true (by omega)
                      have HR := Lib.hid (HFAIL.out 13 (by rw [HPL.out]; exact if_pos hlong))
                      go_wp2_with (go_at_call 34; refine (HLN.out _).mono ?_; rintro e w10 ⟨rfl, hG10⟩; have x0 := hG10.cell x0; have x1 := hG10.cell x1)
                      go_ret2
                      rw [HR.out]
                      exact ⟨Gr.tr HI9.out.gr hG10, rfl⟩
                    · have kl : decide ((r4.length : Int) < xt - xf) = false := decide_eq_false (by omega)
                      have HPR := Lib.hid (show pieceL false (totOf (L.map (·.1))) r = .inr (((xf, xt, xn), r4.take (xt - xf).toNat), r4.drop (xt - xf).toNat) from by rw [HPL.out]; exact if_neg hlong)
                      have HRR := Lib.hid (show readG bnd (L.map (·.1) ++ [((xf, xt, xn), r4.take (xt - xf).toNat)]) (r4.drop (xt - xf).toNat) = readG bnd [] s0 from by rw [← HI.out.all]; exact (readG_step (HSP.out.trans (by rw [HPR.out]))).symm)
                      clear HPL HPR HSP HFAIL
                      go_upto_region 41 with (go_at_call 34; refine (HLN.out _).mono ?_; rintro e w10 ⟨rfl, hG10⟩; have x0 := hG10.cell x0; have x1 := hG10.cell x1)
                      have HI10 := Lib.hid (HI9.out.up hG10)
                      have HX10 := Lib.hid (HX9.out.gr hG10)
                      clear HI2 HI3 HI5 HI6 HI9 HX9 hG10 HLN
                      have hne := Ne.symm (own_bk HI10.out.row HX10.out ne_span_rpiece)
                      have p0 := gx_cell (r := (Value.slice (some ⟨ba, 0, none⟩) L.length c1).ownBlock) x0 hne
                      have p1 := gx_cell (r := (Value.slice (some ⟨ba, 0, none⟩) L.length c1).ownBlock) x1 hne
                      have b0 : 0 ≤ xt - xf := by omega
                      have b1 : xt - xf ≤ (r4.length : Int) := by omega
                      refine wp_region_mix [0, 1, 2, 3, 4, 5] ((Value.slice (some ⟨ba, 0, none⟩) L.length c1).ownBlock) 5 (by kernel_rfl) rfl (by kernel_rfl) (fun o _ _ _ _ h => by cases o <;> exact h) ?_
                      simp only [pickOps, List.filterMap_cons, List.filterMap_nil, List.getElem?_cons_zero, List.getElem?_cons_succ]
                      repeat (first | (refine wpGq_step (fun K hK => ?_); go_simp; refine hK _ ?_; clear hK K) | (refine wpGq_step (fun K hK => ?_); go_simp; simp only [↓IntWalk.iteOmega]; go_simp; refine hK _ ?_; clear hK K) | (refine wpGq_step (fun K hK => ?_); go_simp; apply Exists.intro; refine ⟨fun _ => ?_, hK _ ?_⟩; fail; clear hK K))
                      refine wpGq_nil ?_
                      refine wpG_one 6 (by kernel_rfl) rfl rfl (fun K hK wa hga => ?_)
                      refine op_toByts (l := r4.take (xt - xf).toNat) _ rfl rfl (by rw [List.length_take]; omega) ?_
                      intro cb wb csb frb hBy hGab hBk
                      have hlt : (r4.take (xt - xf).toNat).length = (xt - xf).toNat := by rw [List.length_take]; omega
                      rw [hlt] at hBy
                      clear hlt
                      have hHBy := Lib.hid hBy
                      have hHBk := Lib.hid hBk
                      have hGb : Gr w10 wb := Gr.tr hga hGab
                      refine hK _ _ (hGb.by _) ?_
                      clear hK K hBy hBk hga hGab
                      generalize wa.heap.size = bb at *
                      refine wpG_one 7 (by kernel_rfl) rfl rfl (fun K hK wc hgc => ?_)
                      go_simp
                      have hGc : Gr w10 wc := Gr.tr hGb hgc
                      refine hK _ _ (hGc.by _) ?_
                      clear hK K
                      refine wpG_one 8 (by kernel_rfl) rfl rfl (fun K hK wd hgd => ?_)
                      go_simp
                      have hGd : Gr w10 wd := Gr.tr hGc hgd
                      refine hK _ _ ((Gr.al hGd _).by _) ?_
                      clear hK K
                      refine wpG_one 9 (by kernel_rfl) rfl rfl (fun K hK we hge => ?_)
                      have hGe := Gr.tr (Gr.al hGd _) hge
                      have hGbe := Gr.tr (Gr.al (Gr.tr hgc hgd) _) hge
                      refine op_appS (W0 := w) (n := L.length) (m := 1) (xs := flatQ L) (news := [.int .i64 xf, .int .i64 xt, .int .i64 xn, .slice (some ⟨bb, 0, none⟩) (xt - xf).toNat cb]) elemRPiece _ _ rfl rfl rfl ?_ (HI10.out.row.gr hGe) (Sl.gr (sl_lit _ _ _ 1 (by decide)) hge) rfl (one_piece _ _ _ _ _ _) ?_ (by decide) ?_
                      · exact (Gr.tr HI10.out.gr hGe).size
                      · first | omega | (simp only [List.length_nil]; omega)
                      intro v' wf hOwn hApp
                      have HOwn := Lib.hid hOwn
                      have HApp := Lib.hid hApp
                      obtain ⟨A4, c4, rfl⟩ := hOwn.form
                      refine hK _ _ (by_trans (hGe.by _) hApp.grown) ?_
                      clear hK K hOwn hApp
                      refine wpG_one 10 (by kernel_rfl) rfl rfl (fun K hK wg hgg => ?_)
                      go_simp
                      refine hK _ _ (by_tr (by_trans (hGe.by _) HApp.out.grown) hgg) ?_
                      clear hK K
                      refine wpG_done (by kernel_rfl) (fun wh hgh => ?_)
                      go_wp2_with fail
                      go_roundg ((r4.drop (xt - xf).toNat).length + 1)
                      case measure => rw [hgk, List.length_drop]; omega
                      case rel =>
                        refine ⟨L ++ [(((xf, xt, xn), r4.take (xt - xf).toNat), .slice (some ⟨bb, 0, none⟩) (xt - xf).toNat cb)], r4.drop (xt - xf).toNat, rfl, rfl, ?_⟩
                        refine (RfI.app (HI10.out.up hGe) HApp.out HOwn.out ⟨hHBy.out.gr hGbe, bb, _, _, rfl, hHBk.out.gr hGbe⟩ ?_ (by rw [List.map_append]; exact HRR.out)).up (Gr.tr hgg hgh)
                        rw [List.length_append, List.length_drop]; simp only [List.length_cons, List.length_nil]; omega
end Go.Proofs.YtnmfmcmokdoieaaDoor
