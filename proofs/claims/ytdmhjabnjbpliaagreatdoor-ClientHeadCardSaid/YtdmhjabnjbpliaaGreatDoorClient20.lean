/- Layers 7 and 12: the document's Put of any head. Contracts; conditions: lengths that memory holds. -/
import Derived.Test.YtdmhjabnjbpliaaGreatDoorJHead3
import Derived.Test.YtdmhjabnjbpliaaGreatDoorJPut
set_option linter.unusedVariables false
set_option linter.unusedSimpArgs false
namespace Go.Proofs.YtdmhjabnjbpliaaGreatDoor
open Go.RowKit
theorem byt_ofNat20 (k : Nat) (h : k < 256) : byt (UInt8.ofNat k) = .int .u8 (k : Int) := by
  unfold byt; rw [UInt8.toNat_ofNat']; congr 1; omega
theorem right_lens {f : Fld} (h : right f = true) : f.1.length ≤ 200 ∧ f.2.length ≤ 8192 := by
  unfold right at h
  simp only [Bool.and_eq_true, decide_eq_true_eq] at h
  omega
theorem lines_right : ∀ {l : List Fld}, l.all right = true → (lines l).length ≤ 8396 * l.length
  | [], _ => by simp [lines]
  | f :: l, h => by
    simp only [List.all_cons, Bool.and_eq_true] at h
    have h1 := right_lens h.1
    have h2 := lines_right h.2
    have e : lines (f :: l) = putL f ++ lines l := rfl
    rw [e, List.length_append, putL_len, List.length_cons]
    omega
set_option maxHeartbeats 4000000 in
set_option maxRecDepth 100000 in
theorem refPutN (u : Value) (xs : List Fld) (w : World) (hu : Flds w u xs) (hs : Short2 xs) (_h1 : xs.length ≤ 140737488355328) :
    Calls Tryz.prog 49 #[u] w fun e w' => e = .returned (.tuple #[str (put xs).1, .int .i64 (put xs).2]) ∧ Gr w w' := by
  obtain ⟨A, c, rfl, hc, hx, hA⟩ := hu.open
  have HA := Lib.hid hA; have HS := Lib.hid hs; clear hA hu hs
  go_enter Tryz.func49, Tryz.ntmps49
  go_wp2_with fail
  go_loopw [2, 3, 4, 6, 9] (fun x2 x3 out x6 i wr => ∃ (k : Nat), k ≤ xs.length ∧ i = .int .i64 k ∧ Gr w wr ∧ out = str (lines (xs.take k)) ∧ (xs.take k).all right = true) (fun _ _ _ _ i _ => xs.length - (intOf i).toNat)
  case atStart => exact ⟨0, Nat.zero_le _, rfl, Gr.refl _, rfl, rfl⟩
  case round =>
    obtain ⟨k, hk, rfl, hG, rfl, hE⟩ := hrel
    have HE := Lib.hid hE; clear hE
    by_cases hlt : k < xs.length
    · obtain ⟨b1, o1, rfl, hb1, hc1, hc1'⟩ := HA.out k hlt
      obtain ⟨hB1, hB2⟩ := HS.out.at k hlt
      have hc2 := Gr.cell hG hc1
      have hc2' := Gr.cell hG hc1'
      have hls := Lib.hid (lines_succ xs k hlt)
      have hln : (lines (xs.take k)).length ≤ 1300000000000000000 := by have := lines_right HE.out; rw [List.length_take] at this; omega
      clear HA HS
      go_upto_region 5 with fail
      obtain ⟨hGb, cf0, cf1⟩ := box2 wr (str xs[k].1) (str xs[k].2) 98
      have hG := Gr.tr hG hGb
      generalize wr.alloc (Obj.cells #[str xs[k].1, str xs[k].2] 98) = wb at *
      clear hGb hc2 hc2'
      cases hr : right (xs[k].1, xs[k].2) with
      | false =>
        have hp := Lib.hid (put_bad xs k hlt hr)
        go_wp2_with (go_at_call 80; refine (refRight_any _ _ _ (by omega) (by omega)).mono ?_; rintro e w1 ⟨rfl, hG1⟩)
        go_ret2
        exact ⟨by rw [hp.out]; rfl, Gr.tr hG hG1⟩
      | true =>
        go_wp2_with (go_at_call 80; refine (refRight_any _ _ _ (by omega) (by omega)).mono ?_; rintro e w1 ⟨rfl, hG1⟩; have cf0 := Gr.cell hG1 cf0; have cf1 := Gr.cell hG1 cf1)
        exact ⟨⟨k + 1, by omega, by go_num, Gr.tr hG hG1, by rw [hls.out]; simp, all_take_succ right xs k hlt HE.out hr⟩, by simp [intOf]; omega⟩
    · have hp := put_all xs k hlt HE.out
      have htk : xs.take k = xs := List.take_of_length_le (by omega)
      rw [htk]
      have hbl := block_len xs
      have hll : (lines xs).length ≤ 8396 * xs.length := by have := lines_right HE.out; rw [htk] at this; exact this
      by_cases hc1 : 100 < xs.length
      · rw [if_pos (.inl hc1)] at hp
        have hp := Lib.hid hp
        have hd : decide (100 < (xs.length : Int)) = true := decide_eq_true (by omega)
        have hlq : (lines xs).length ≤ 1300000000000000000 := by omega
        clear hbl hll htk
        go_wp2_with fail
        go_ret2
        exact ⟨by rw [hp.out]; rfl, hG⟩
      · have hd : decide (100 < (xs.length : Int)) = false := decide_eq_false (by omega)
        by_cases hc2 : 65536 < (block xs).length
        · rw [if_pos (.inr hc2)] at hp
          have hp := Lib.hid hp
          have hd2 : decide (65536 < ((lines xs).length : Int) + 2) = true := decide_eq_true (by omega)
          have hlq : (lines xs).length ≤ 1300000000000000000 := by omega
          clear hc2 hbl hll htk
          go_wp2_with fail
          go_ret2
          exact ⟨by rw [hp.out]; rfl, hG⟩
        · rw [if_neg (by omega)] at hp
          have hp := Lib.hid hp
          have hd2 : decide (65536 < ((lines xs).length : Int) + 2) = false := decide_eq_false (by omega)
          have hlq : (lines xs).length ≤ 1300000000000000000 := by omega
          clear hc2 hbl hll htk
          go_wp2_with fail
          go_ret2
          exact ⟨by rw [hp.out]; rfl, hG⟩
set_option maxHeartbeats 4000000 in
set_option maxRecDepth 100000 in
theorem refPut12N (T : HeadT) (A : Option Addr) (c : Nat) (w : World) (hu : Flds w (.slice A T.2.2.2.length c) T.2.2.2) (hs : Short2 T.2.2.2) (h1 : T.1.length ≤ 140737488355328) (h2 : T.2.1.length ≤ 140737488355328) (h3 : T.2.2.2.length ≤ 140737488355328) :
    Calls Tryz.prog 27 #[.agg #[str T.1, str T.2.1, .int .i64 T.2.2.1, .slice A T.2.2.2.length c]] w fun e w' => e = .returned (.tuple #[str (putH T).1, .int .i64 (putH T).2]) ∧ Gr w w' := by
  obtain ⟨m, o, st, fs⟩ := T
  simp only at hu hs h1 h2 h3 ⊢
  have hG1 := Gr.al (Gr.refl w) (Obj.cells #[str m, str o, .int .i64 st, .slice A fs.length c] 52)
  have hb1 := Lib.hid (Bk.new w 52 #[str m, str o, .int .i64 st, .slice A fs.length c] (0, 0))
  have HU := Lib.hid hu
  have HO := Lib.hid (fun (w : World) => refObject_any o w (by omega))
  have HF := Lib.hid (fun (w : World) (h : Flds w (.slice A fs.length c) fs) => refPutN (.slice A fs.length c) fs w h hs h3)
  have hpl := put_len fs
  clear hu hs
  go_enter Tryz.func27, Tryz.ntmps27
  go_upto_region 1 with fail
  generalize w.alloc (Obj.cells #[str m, str o, .int .i64 st, .slice A fs.length c] 52) = w1 at *
  generalize w.heap.size = g at *
  obtain ⟨q0, q1, q2, q3⟩ := hb1.out.cells4
  cases ht : tellsB m o st with
  | true =>
    obtain ⟨rfl, rfl, hs1, hs2⟩ := tells_of ht
    obtain ⟨N, rfl⟩ : ∃ N : Nat, st = (N : Int) := ⟨st.toNat, by omega⟩
    have HLN := Lib.hid (show lineP ([], [], (N : Int), fs) = httpB ++ [32] ++ Lib.itoa N ++ [32] ++ reason N from lineP_tells ht)
    have HFL := Lib.hid (show (tellsB [] [] (N : Int) || asksB [] [] (N : Int)) = true from by rw [ht]; rfl)
    have HI := Lib.hid (itoa3 (N : Int) (by omega) (by omega))
    clear ht
    have hrl := reason_len N
    have k1 : (([] : List UInt8) == [71, 69, 84]) = false := rfl
    have k2 : (([] : List UInt8) == [72, 69, 65, 68]) = false := rfl
    have k3 : decide (100 ≤ (N : Int)) = true := decide_eq_true (by omega)
    have k4 : decide ((N : Int) ≤ 599) = true := decide_eq_true (by omega)
    go_upto_region 6 with fail
    have q2' := gx_cell (r := none) q2 (by simp)
    have e1 : IntKind.i64.wrap ((N : Int) / 100) = (N : Int) / 100 := IntWalk.i64_in _ (by omega)
    have e2 : IntKind.i64.wrap (48 + (N : Int) / 100) = 48 + (N : Int) / 100 := IntWalk.i64_in _ (by omega)
    have e3 : IntKind.u8.wrap (48 + (N : Int) / 100) = 48 + (N : Int) / 100 := by rw [IntKind.wrap_u8]; omega
    have f1 : IntKind.i64.wrap ((N : Int) / 10) = (N : Int) / 10 := IntWalk.i64_in _ (by omega)
    have f2 : ((N : Int) / 10).tmod 10 = (N : Int) / 10 % 10 := by rw [Int.tmod_eq_emod_of_nonneg (by omega)]
    have f3 : IntKind.i64.wrap (48 + (N : Int) / 10 % 10) = 48 + (N : Int) / 10 % 10 := IntWalk.i64_in _ (by omega)
    have f4 : IntKind.u8.wrap (48 + (N : Int) / 10 % 10) = 48 + (N : Int) / 10 % 10 := by rw [IntKind.wrap_u8]; omega
    have g2 : ((N : Int)).tmod 10 = (N : Int) % 10 := by rw [Int.tmod_eq_emod_of_nonneg (by omega)]
    have g3 : IntKind.i64.wrap (48 + (N : Int) % 10) = 48 + (N : Int) % 10 := IntWalk.i64_in _ (by omega)
    have g4 : IntKind.u8.wrap (48 + (N : Int) % 10) = 48 + (N : Int) % 10 := by rw [IntKind.wrap_u8]; omega
    refine wp_region_mix [0, 1, 2, 3, 4, 5, 6, 7, 8, 9, 10, 11, 12, 13, 14, 15, 20, 21, 22] none 6 (by kernel_rfl) rfl (by kernel_rfl) (fun o _ _ _ _ h => by cases o <;> exact h) ?_
    simp only [pickOps, List.filterMap_cons, List.filterMap_nil, List.getElem?_cons_zero, List.getElem?_cons_succ]
    repeat (first | (refine wpGq_step (fun K hK => ?_); go_simp; refine hK _ ?_; clear hK K) | (refine wpGq_step (fun K hK => ?_); go_simp; simp only [↓IntWalk.iteOmega]; go_simp; refine hK _ ?_; clear hK K) | (refine wpGq_step (fun K hK => ?_); go_simp; apply Exists.intro; refine ⟨fun _ => ?_, hK _ ?_⟩; (go_at_call 48; exact refReason_any _ _); clear hK K))
    refine wpGq_nil ?_
    clear q2' e1 e2 e3 f1 f2 f3 f4 g2 g3 g4
    have HD := Lib.hid (show #[Value.int .u8 (48 + (N : Int) / 100), .int .u8 (48 + (N : Int) / 10 % 10), .int .u8 (48 + (N : Int) % 10)] = ((Lib.itoa (N : Int)).map byt).toArray from by
      rw [HI.out]
      simp only [Int.toNat_natCast, List.map_cons, List.map_nil]
      rw [byt_ofNat20 _ (by omega), byt_ofNat20 _ (by omega), byt_ofNat20 _ (by omega)]
      simp only [Int.natCast_add, Int.natCast_ediv, Int.natCast_emod]
      rfl)
    have hil : (Lib.itoa (N : Int)).length = 3 := by rw [HI.out]; rfl
    have HIL := Lib.hid hil
    have hil' : (Lib.itoa (N : Int)).length ≤ 3 := by omega
    clear hil
    refine wpG_one 16 (by kernel_rfl) rfl rfl (fun K hK wa hga => ?_)
    go_simp
    refine hK _ _ ?_ ?_
    · exact (Gr.al hga _).by _
    clear hK K
    have hby : Byts (wa.alloc (.cells #[Value.int .u8 (48 + (N : Int) / 100), .int .u8 (48 + (N : Int) / 10 % 10), .int .u8 (48 + (N : Int) % 10)] 5)) (.slice (some ⟨wa.heap.size, 0, none⟩) 3 3) (Lib.itoa (N : Int)) := by
      have := byts_new wa (Lib.itoa (N : Int)) 5 (0, 0) _ HD.out (by omega)
      rw [HIL.out] at this
      exact this
    refine wpG_one 17 (by kernel_rfl) rfl rfl (fun K hK wb hgb => ?_)
    have hcv := (hby.gr hgb).toStr
    go_simp
    refine hK _ _ ?_ ?_
    · exact (Gr.tr (Gr.al hga _) hgb).by _
    clear hK K hcv
    refine wpG_one 18 (by kernel_rfl) rfl rfl (fun K hK wc hgc => ?_)
    go_simp
    rw [if_neg (by simp; omega)]
    go_simp
    refine hK _ _ ?_ ?_
    · exact (Gr.tr (Gr.tr (Gr.al hga _) hgb) hgc).by _
    clear hK K
    refine wpG_one 19 (by kernel_rfl) rfl rfl (fun K hK wd hgd => ?_)
    go_simp
    rw [if_neg (by simp; omega)]
    go_simp
    refine hK _ _ ?_ ?_
    · exact (Gr.tr (Gr.tr (Gr.tr (Gr.al hga _) hgb) hgc) hgd).by _
    clear hK K
    refine wpG_one 23 (by kernel_rfl) rfl rfl (fun K hK we hge => ?_)
    go_simp
    rw [if_neg (by simp; omega)]
    go_simp
    refine hK _ _ ?_ ?_
    · exact (Gr.tr (Gr.tr (Gr.tr (Gr.tr (Gr.al hga _) hgb) hgc) hgd) hge).by _
    clear hK K
    refine wpG_one 24 (by kernel_rfl) rfl rfl (fun K hK wf hgf => ?_)
    go_simp
    refine hK _ _ ?_ ?_
    · exact (Gr.tr (Gr.tr (Gr.tr (Gr.tr (Gr.tr (Gr.al hga _) hgb) hgc) hgd) hge) hgf).by _
    clear hK K
    refine wpG_done (by kernel_rfl) (fun wg hgg => ?_)
    have hGa := Gr.tr (Gr.tr (Gr.tr (Gr.tr (Gr.tr (Gr.tr (Gr.al hga _) hgb) hgc) hgd) hge) hgf) hgg
    have hGW := Gr.tr hG1 hGa
    have q3 := Gr.cell hGa q3
    clear hby hga hgb hgc hgd hge hgf hgg hGa HD HIL wb wc wd we wf
    rcases put_zero fs with hz | hz
    · have HR := Lib.hid (show putH ([], [], (N : Int), fs) = (lineP ([], [], (N : Int), fs) ++ [13, 10] ++ (put fs).1, 0) from putH_good HFL.out hz)
      rw [hz] at HF
      clear hz
      generalize (put fs).1 = blk at *
      go_wp2_with (go_at_call 49; refine (HF.out _ (HU.out.gr hGW)).mono ?_; rintro e w7 ⟨rfl, hG7⟩)
      go_ret2
      rw [HR.out, HLN.out]
      exact ⟨by simp [httpB], Gr.tr hGW hG7⟩
    · have HR := Lib.hid (show putH ([], [], (N : Int), fs) = ([], (put fs).2) from putH_bad HFL.out hz)
      have hne : (((put fs).2 : Int) != 0) = true := by simp; exact hz
      generalize put fs = p at *
      go_wp2_with (go_at_call 49; refine (HF.out _ (HU.out.gr hGW)).mono ?_; rintro e w7 ⟨rfl, hG7⟩)
      go_ret2
      rw [HR.out]
      exact ⟨rfl, Gr.tr hGW hG7⟩
  | false =>
    have HA := Lib.hid (show asksB m o st = ((m == [71, 69, 84] || m == [72, 69, 65, 68]) && objB o && (st == 0)) from rfl)
    have HTB := Lib.hid (show tellsB m o st = (m.isEmpty && o.isEmpty && decide (100 ≤ st) && decide (st ≤ 599)) from rfl)
    have HTF := Lib.hid ht
    clear ht
    go_upto_region 3 with fail
    go_cut [7] (fun s7 wx => s7 = .bool (asksB m o st) ∧ Gr w1 wx)
    case first =>
      cases c1 : (m == [71, 69, 84]) <;> cases c2 : (m == [72, 69, 65, 68]) <;> cases c3 : objB o <;> cases c4 : (st == 0)
      all_goals
        rw [c1, c2, c3, c4] at HA
        rw [c3] at HO
        go_wp2_with (go_at_call 30; refine (HO.out _).mono ?_; rintro e w2 ⟨rfl, hG2⟩; have q2 := Gr.cell hG2 q2)
        go_meet
      all_goals first
        | exact ⟨by rw [HA.out]; rfl, Gr.refl _⟩
        | exact ⟨by rw [HA.out]; rfl, hG2⟩
    case rest =>
      obtain ⟨rfl, hGc⟩ := hcut
      have q0 := Gr.cell hGc q0
      have q1 := Gr.cell hGc q1
      have q2 := Gr.cell hGc q2
      have q3 := Gr.cell hGc q3
      have hGW := Gr.tr hG1 hGc
      clear HA HO hb1
      cases ha : asksB m o st with
      | false =>
        have HR := Lib.hid (show putH (m, o, st, fs) = ([], 1) from putH_none HTF.out ha)
        rw [HTB.out] at HTF
        clear ha
        go_upto_region 5 with fail
        go_cut [33] (fun s33 wx => s33 = .bool false ∧ wc = wx)
        case first =>
          cases c1 : m.isEmpty <;> cases c2 : o.isEmpty <;> cases c3 : decide (100 ≤ st) <;> cases c4 : decide (st ≤ 599)
          all_goals
            rw [c1, c2, c3, c4] at HTF
            first
              | exact absurd HTF.out (by decide)
              | (go_wp2_with fail; go_meet; exact ⟨rfl, rfl⟩)
        case rest =>
          obtain ⟨rfl, rfl⟩ := hcut
          go_wp2_with fail
          go_ret2
          rw [HR.out]
          exact ⟨rfl, hGW⟩
      | true =>
        have HLN := Lib.hid (show lineP (m, o, st, fs) = m ++ [32] ++ o ++ [32] ++ httpB from lineP_asks HTF.out)
        have HFL := Lib.hid (show (tellsB m o st || asksB m o st) = true from by rw [ha, Bool.or_true])
        clear ha
        rcases put_zero fs with hz | hz
        · have HR := Lib.hid (show putH (m, o, st, fs) = (lineP (m, o, st, fs) ++ [13, 10] ++ (put fs).1, 0) from putH_good HFL.out hz)
          rw [hz] at HF
          clear hz
          generalize (put fs).1 = blk at *
          go_wp2_with (go_at_call 49; refine (HF.out _ (HU.out.gr hGW)).mono ?_; rintro e w7 ⟨rfl, hG7⟩)
          go_ret2
          rw [HR.out, HLN.out]
          exact ⟨by simp [httpB], Gr.tr hGW hG7⟩
        · have HR := Lib.hid (show putH (m, o, st, fs) = ([], (put fs).2) from putH_bad HFL.out hz)
          have hne : (((put fs).2 : Int) != 0) = true := by simp; exact hz
          generalize put fs = p at *
          go_wp2_with (go_at_call 49; refine (HF.out _ (HU.out.gr hGW)).mono ?_; rintro e w7 ⟨rfl, hG7⟩)
          go_ret2
          rw [HR.out]
          exact ⟨rfl, Gr.tr hGW hG7⟩
end Go.Proofs.YtdmhjabnjbpliaaGreatDoor
