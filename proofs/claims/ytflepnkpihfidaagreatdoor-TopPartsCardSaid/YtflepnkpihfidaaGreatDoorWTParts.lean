/- The theorem TopParts: told part by part, an answer's body comes to its parts: the walk. Conditions: the library's own variables hold what their types allow; lengths that memory holds. -/
import Derived.Test.YtflepnkpihfidaaGreatDoorJTopD
import Derived.Test.YtflepnkpihfidaaGreatDoorJPa
set_option linter.unusedVariables false
set_option linter.unusedSimpArgs false
namespace Go.Proofs.YtflepnkpihfidaaGreatDoor.wtparts
open Go.RowKit
theorem told_tx {obj : List UInt8} : ∀ {L : List PartT} {p : PartT}, p ∈ L → p.1.length ≤ (fillL obj L).length
  | x :: L, p, h => by
    rw [fillL_cons, List.length_append]
    rcases List.mem_cons.1 h with rfl | h
    · unfold toldB
      split
      · rename_i hx; rw [hx]; simp
      · omega
    · have := told_tx (obj := obj) h; omega
theorem flatQ_at7 (L : List (PieceT × Value)) (k : Nat) (h : k < L.length) : (flatQ L)[k * 4]? = some (.int .i64 L[k].1.1.1) ∧ (flatQ L)[k * 4 + 1]? = some (.int .i64 L[k].1.1.2.1) ∧ (flatQ L)[k * 4 + 2]? = some (.int .i64 L[k].1.1.2.2) ∧ (flatQ L)[k * 4 + 3]? = some L[k].2 := by
  induction L generalizing k with
  | nil => simp at h
  | cons x L ih =>
    rw [show flatQ (x :: L) = .int .i64 x.1.1.1 :: .int .i64 x.1.1.2.1 :: .int .i64 x.1.1.2.2 :: x.2 :: flatQ L from rfl]
    cases k with
    | zero => simp
    | succ k =>
      have := ih k (by simpa using h)
      rw [show (k + 1) * 4 = k * 4 + 1 + 1 + 1 + 1 from by omega]
      simpa using this
theorem pieces_open {w : World} {v : Value} {ps : List PieceT} (h : Pieces w v ps) : ∃ A c, v = .slice A ps.length c ∧ ps.length ≤ c ∧ ps.length ≤ 9223372036854775807 ∧ ∀ (k : Nat) (hk : k < ps.length), ∃ b o u, A = some ⟨b, o, none⟩ ∧ w.cell? ⟨b, o + k * 4, none⟩ = some (.int .i64 ps[k].1.1) ∧ w.cell? ⟨b, o + k * 4 + 1, none⟩ = some (.int .i64 ps[k].1.2.1) ∧ w.cell? ⟨b, o + k * 4 + 2, none⟩ = some (.int .i64 ps[k].1.2.2) ∧ w.cell? ⟨b, o + k * 4 + 3, none⟩ = some u ∧ Byts w u ps[k].2 := by
  obtain ⟨L, hL, hs, hb⟩ := h
  obtain ⟨A, c, hv, hc, hm, ho⟩ := Sl.open hs
  subst hL
  refine ⟨A, c, by rw [List.length_map]; exact hv, by rw [List.length_map]; exact hc, by rw [List.length_map]; exact hm, fun k hk => ?_⟩
  have hk' : k < L.length := by simpa using hk
  obtain ⟨e1, e2, e3, e4⟩ := flatQ_at7 L k hk'
  obtain ⟨b, o, hA, hb', hj⟩ := ho _ _ e1
  simp only [List.getElem_map]
  exact ⟨b, o, L[k].2, hA, hj _ _ e1, by rw [Nat.add_assoc]; exact hj _ _ e2, by rw [Nat.add_assoc]; exact hj _ _ e3, by rw [Nat.add_assoc]; exact hj _ _ e4, hb _ (List.getElem_mem hk')⟩
theorem piecesL_at (tot : Int) (obj : List UInt8) (W : List (Int × Int)) (k : Nat) (h1 : k < (piecesL tot obj W).length) (h2 : k < W.length) : (piecesL tot obj W)[k] = ((W[k].1, W[k].2, tot), objL obj W[k]) := List.getElem_map (fun s : Int × Int => ((s.1, s.2, tot), objL obj s))
theorem lie_of {w3 w4 w9 : World} {gb bl g12 : Nat} (h34 : Gr w3 w4) (h49 : w4.heap.size ≤ w9.heap.size) (hgb : gb < w4.heap.size) (hlo : w3.heap.size ≤ gb) (hbl : bl = gb ∨ bl < w4.heap.size) (hblo : w3.heap.size ≤ bl) (h12 : w4.heap.size ≤ g12) (h12' : g12 < w9.heap.size) : Lie w3 w4 w9 gb bl g12 :=
  ⟨h34, h49, ⟨hgb, hlo⟩, ⟨by omega, hblo⟩, ⟨h12, h12'⟩⟩
set_option maxHeartbeats 64000000 in
set_option maxRecDepth 100000 in
theorem walk (q : ReqT) (vs vm vn : Value) (u : Value) (obj : List UInt8) (vh : Value) (H : List SpT) (w : World) (hv : Vars w) (hz : Tz w) (ha : ReqA w q vs vm vn) (hl : ReqLow q) (hy : Byts w u obj) (hh : Spans w vh H) :
    Calls Tryz.prog 3 #[reqV q vs vm vn, u, vh] w fun e w' => e = .returned (.bool true) ∧ Gr w w' := by
  obtain ⟨A0, c0, rfl, hc0, hm0, -⟩ := id hy.open
  obtain ⟨As, cs, rfl, -, -, -⟩ := id ha.specs.open
  obtain ⟨Am, cm, rfl, -, -, -⟩ := id ha.mt.open
  obtain ⟨An, cn, rfl, -, -, -⟩ := id ha.no.open
  obtain ⟨Ah, ch, rfl, hch, hmh, hhA⟩ := id hh.open
  have HHA := Lib.hid hhA
  have HRT := Lib.hid (fun (x : World) (g : Gr w x) => topRight_any q _ _ _ x (ha.gr g) hl)
  have HAL := Lib.hid (fun (x : World) (g : Gr w x) => topAlive_any x (hv.gr g))
  have HAN := Lib.hid (fun (x : World) (g : Gr w x) (h : topR q = true) (h8 : obj.length ≤ 80) => answer_any q _ _ _ _ obj 7 x (ha.gr g) hl (hy.gr g) h8 (topR_ten h).1 (by decide) (hv.gr g) (hz.gr g))
  have HSP := Lib.hid (fun (h : topR q = true) (hd : q.1 = false) (h8 : obj.length ≤ 80) => shape_parts (oc := checkL q (mS obj.length)) (seed := 7) hd (topR_ten h).1 h8)
  have HY := Lib.hid hy
  have HV := Lib.hid hv
  have HZ := Lib.hid hz
  generalize shapeL q (mS obj.length) (checkL q (mS obj.length)) 8 7 = SL at *
  generalize topR q = R at *
  clear ha hl hy hv hz hh hhA
  obtain ⟨hd, ob, sp, cd⟩ := q
  unfold reqV at *
  simp only at HRT HAN HSP ⊢
  generalize Value.slice As sp.length cs = vs at *
  generalize Value.slice Am cd.mt.length cm = vm at *
  generalize Value.slice An cd.no.length cn = vn at *
  go_enter Tryz.func3, Tryz.ntmps3
  go_upto_region 1 with fail
  have b0 := Bk.new w 29 #[.bool hd, str ob, vs, vm, vn, .bool cd.am, .bool cd.an, .int .i64 cd.si, .int .i64 cd.un, str cd.rg.1, .bool cd.rg.2] (0, 0)
  have hg0 := Gr.al (Gr.refl w) (Obj.cells #[.bool hd, str ob, vs, vm, vn, .bool cd.am, .bool cd.an, .int .i64 cd.si, .int .i64 cd.un, str cd.rg.1, .bool cd.rg.2] 29)
  refine at_world (P := Code.wp _ _ _ _) (w0 := w.alloc (Obj.cells #[.bool hd, str ob, vs, vm, vn, .bool cd.am, .bool cd.an, .int .i64 cd.si, .int .i64 cd.un, str cd.rg.1, .bool cd.rg.2] 29)) ?_
  intro w0 hw0
  rw [← hw0] at b0 hg0
  clear hw0
  generalize w.heap.size = g at *
  have r0 : ∀ x, Gr w0 x → x.cell? ⟨g, 0, none⟩ = some (.bool hd) := fun x h => (b0.gr h).cell 0
  have r1 : ∀ x, Gr w0 x → x.cell? ⟨g, 1, none⟩ = some (str ob) := fun x h => (b0.gr h).cell 1
  have r2 : ∀ x, Gr w0 x → x.cell? ⟨g, 2, none⟩ = some (vs) := fun x h => (b0.gr h).cell 2
  have r3 : ∀ x, Gr w0 x → x.cell? ⟨g, 3, none⟩ = some (vm) := fun x h => (b0.gr h).cell 3
  have r4 : ∀ x, Gr w0 x → x.cell? ⟨g, 4, none⟩ = some (vn) := fun x h => (b0.gr h).cell 4
  have r5 : ∀ x, Gr w0 x → x.cell? ⟨g, 5, none⟩ = some (.bool cd.am) := fun x h => (b0.gr h).cell 5
  have r6 : ∀ x, Gr w0 x → x.cell? ⟨g, 6, none⟩ = some (.bool cd.an) := fun x h => (b0.gr h).cell 6
  have r7 : ∀ x, Gr w0 x → x.cell? ⟨g, 7, none⟩ = some (.int .i64 cd.si) := fun x h => (b0.gr h).cell 7
  have r8 : ∀ x, Gr w0 x → x.cell? ⟨g, 8, none⟩ = some (.int .i64 cd.un) := fun x h => (b0.gr h).cell 8
  have r9 : ∀ x, Gr w0 x → x.cell? ⟨g, 9, none⟩ = some (str cd.rg.1) := fun x h => (b0.gr h).cell 9
  have r10 : ∀ x, Gr w0 x → x.cell? ⟨g, 10, none⟩ = some (.bool cd.rg.2) := fun x h => (b0.gr h).cell 10
  have h00 : Gr w0 w0 := Gr.refl w0
  have HG0 := Lib.hid hg0
  clear b0 hg0
  have q0 := r0 _ h00
  have q1 := r1 _ h00
  have q2 := r2 _ h00
  have q3 := r3 _ h00
  have q4 := r4 _ h00
  have q5 := r5 _ h00
  have q6 := r6 _ h00
  have q7 := r7 _ h00
  have q8 := r8 _ h00
  have q9 := r9 _ h00
  have q10 := r10 _ h00
  cases R with
  | false =>
    go_wp2_with (first | (go_at_call 7; refine (HRT.out _ HG0.out).mono ?_; rintro e w1 ⟨rfl, h01⟩; have q0 := r0 _ h01; have HG1 := Lib.hid (Gr.tr HG0.out h01)) | (go_at_call 8; refine (HAL.out _ HG1.out).mono ?_; rintro e wz ⟨rfl, hgz⟩))
    go_ret
    exact ⟨rfl, Gr.tr HG1.out hgz⟩
  | true =>
  cases hd with
  | true =>
    go_wp2_with (first | (go_at_call 7; refine (HRT.out _ HG0.out).mono ?_; rintro e w1 ⟨rfl, h01⟩; have q0 := r0 _ h01; have HG1 := Lib.hid (Gr.tr HG0.out h01)) | (go_at_call 8; refine (HAL.out _ HG1.out).mono ?_; rintro e wz ⟨rfl, hgz⟩))
    go_ret
    exact ⟨rfl, Gr.tr HG1.out hgz⟩
  | false =>
  by_cases k8 : obj.length ≤ 80
  case neg =>
    have n8 : 80 < obj.length := by omega
    have d8 : decide (80 < (obj.length : Int)) = true := decide_eq_true (by omega)
    go_wp2_with (first | (go_at_call 7; refine (HRT.out _ HG0.out).mono ?_; rintro e w1 ⟨rfl, h01⟩; have q0 := r0 _ h01; have HG1 := Lib.hid (Gr.tr HG0.out h01)) | (go_at_call 8; refine (HAL.out _ HG1.out).mono ?_; rintro e wz ⟨rfl, hgz⟩))
    go_ret
    exact ⟨rfl, Gr.tr HG1.out hgz⟩
  have n8 : ¬ 80 < obj.length := by omega
  have d8 : decide (80 < (obj.length : Int)) = false := decide_eq_false (by omega)
  by_cases k12 : H.length ≤ 12
  case neg =>
    have n12 : 12 < H.length := by omega
    have d12 : decide (12 < (H.length : Int)) = true := decide_eq_true (by omega)
    go_wp2_with (first | (go_at_call 7; refine (HRT.out _ HG0.out).mono ?_; rintro e w1 ⟨rfl, h01⟩; have q0 := r0 _ h01; have HG1 := Lib.hid (Gr.tr HG0.out h01)) | (go_at_call 8; refine (HAL.out _ HG1.out).mono ?_; rintro e wz ⟨rfl, hgz⟩))
    go_ret
    exact ⟨rfl, Gr.tr HG1.out hgz⟩
  have n12 : ¬ 12 < H.length := by omega
  have d12 : decide (12 < (H.length : Int)) = false := decide_eq_false (by omega)
  have HAX := Lib.hid (fun (x : World) (g : Gr w x) => HAN.out x g rfl k8)
  have hps := HSP.out rfl rfl k8
  obtain ⟨st, F, PS, sz⟩ := SL
  have HPA := Lib.hid hps
  have HK8 := Lib.hid k8
  have HK12 := Lib.hid k12
  clear hps HSP HAN
  go_upto_region 3 with (go_at_call 7; refine (HRT.out _ HG0.out).mono ?_; rintro e w1 ⟨rfl, h01⟩; have q0 := r0 _ h01)
  clear q0 q1 q2 q3 q4 q5 q6 q7 q8 q9 q10 n8 d8 n12 d12 k8 k12
  have HG1 := Lib.hid (Gr.tr HG0.out h01)
  have q0 := r0 _ h01
  have q1 := r1 _ h01
  have q2 := r2 _ h01
  have q3 := r3 _ h01
  have q4 := r4 _ h01
  have q5 := r5 _ h01
  have q6 := r6 _ h01
  have q7 := r7 _ h01
  have q8 := r8 _ h01
  have q9 := r9 _ h01
  have q10 := r10 _ h01
  go_upto_region 4 with (go_at_call 9; refine (HAX.out _ HG1.out).mono ?_; rintro e w2 ⟨A2, c2, vp, rfl, hO2, hp2, hn2, hg2⟩; obtain ⟨A3, c3, rfl, -, -, -⟩ := id hp2.open)
  have h02 := Gr.tr h01 hg2
  have hba := Bk.new w2 37 #[.int .i64 st, .slice A2 F.length c2, .slice A3 PS.length c3, .int .i64 sz] (0, 0)
  have hga := Gr.al (Gr.refl w2) (Obj.cells #[.int .i64 st, .slice A2 F.length c2, .slice A3 PS.length c3, .int .i64 sz] 37)
  have h03 := Gr.tr h02 hga
  have hps := hp2.gr hga
  generalize w2.alloc (Obj.cells #[.int .i64 st, .slice A2 F.length c2, .slice A3 PS.length c3, .int .i64 sz] 37) = w3 at *
  generalize w2.heap.size = gA at *
  have HG3 := Lib.hid (Gr.tr HG0.out h03)
  have s0 : ∀ x, Gr w3 x → x.cell? ⟨gA, 0, none⟩ = some (.int .i64 st) := fun x h => (hba.gr h).cell 0
  have s1 : ∀ x, Gr w3 x → x.cell? ⟨gA, 1, none⟩ = some (.slice A2 F.length c2) := fun x h => (hba.gr h).cell 1
  have s2 : ∀ x, Gr w3 x → x.cell? ⟨gA, 2, none⟩ = some (.slice A3 PS.length c3) := fun x h => (hba.gr h).cell 2
  have s3 : ∀ x, Gr w3 x → x.cell? ⟨gA, 3, none⟩ = some (.int .i64 sz) := fun x h => (hba.gr h).cell 3
  have HPS := Lib.hid hps
  have HNW := Lib.hid (asNew_any _ PS obj w3 hps HPA.out.inn HPA.out.norm (by have := HK8.out; omega) (by have h := HPA.out.few; simp only at h; omega))
  clear q0 q1 q2 q3 q4 q5 q6 q7 q8 q9 q10 hps hba hga hO2 hp2 hn2 hg2 h02 HAX HRT HG1 h01 h03 h00 r0 r1 r2 r3 r4 r5 r6 r7 r8 r9 r10
  have h33 := Gr.refl w3
  have t2 := s2 _ h33
  go_upto_region 5 with (go_at_call 10; refine HNW.out.mono ?_; rintro e w4 ⟨gb, rfl, hN4⟩)
  obtain ⟨bl, hB4, hgb, hbl, hblo⟩ := bdy_new hN4
  have HB4 := Lib.hid hB4
  have H34 := Lib.hid hN4.gr
  have HGB := Lib.hid (show gb < w4.heap.size ∧ w3.heap.size ≤ gb from ⟨hgb, hN4.lo⟩)
  have HBL := Lib.hid (show (bl = gb ∨ bl < w4.heap.size) ∧ w3.heap.size ≤ bl from ⟨hbl, hblo⟩)
  clear hN4 hB4 hgb hbl hblo t2 HNW h33
  go_upto_region 7 with fail
  have hs := sl_lit w4 48 [.int .i64 0, .int .i64 (obj.length : Int)] 1 (by decide)
  have hgl := Gr.al (Gr.refl w4) (Obj.cells [.int .i64 0, .int .i64 (obj.length : Int)].toArray 48)
  have HOF := Lib.hid (rangesOf_any _ [(0, (obj.length : Int))] _ (show Spans _ _ [(0, (obj.length : Int))] from hs) (by simp))
  have HAL1 := Lib.hid (show (setL [(0, (obj.length : Int))]).length ≤ 1 from setL_le _)
  generalize setL [(0, (obj.length : Int))] = AL at *
  have HGL := Lib.hid hgl
  clear hs hgl
  go_upto_region 8 with (go_at_call 11; refine HOF.out.mono ?_; rintro e w5 ⟨A5, c5, rfl, hO5, hg5⟩)
  have b10 := Bk.new w5 45 #[.slice A5 AL.length c5] (0, 0)
  have hg6 := Gr.al (Gr.refl w5) (Obj.cells #[.slice A5 AL.length c5] 45)
  have hO5 := (own_bz (W0 := w4) hO5 HGL.out.size).gr hg6
  have h46 := Gr.tr (Gr.tr HGL.out hg5) hg6
  have h10 : w4.heap.size ≤ w5.heap.size := (Gr.tr HGL.out hg5).size
  refine at_world (P := Code.wp _ _ _ _) (w0 := w5.alloc (Obj.cells #[.slice A5 AL.length c5] 45)) ?_
  intro w6 hw6
  rw [← hw6] at b10 hO5 h46
  clear hw6 hg6 hg5 HOF HGL
  generalize w5.heap.size = g10 at *
  go_upto_region 10 with fail
  have b12 := Bk.new w6 45 #[.slice none 0 0] (0, 0)
  have hg9 := Gr.al (Gr.refl w6) (Obj.cells #[.slice none 0 0] 45)
  refine at_world (P := Code.wp _ _ _ _) (w0 := w6.alloc (Obj.cells #[.slice none 0 0] 45)) ?_
  intro w9 hw9
  rw [← hw9] at b12 hg9
  clear hw9
  have h1012 : g10 < w6.heap.size := b10.lt
  generalize hg12 : w6.heap.size = g12 at *
  have h49 := Gr.tr h46 hg9
  have HLI := Lib.hid (lie_of H34.out h49.size HGB.out.1 HGB.out.2 HBL.out.1 HBL.out.2 (by have := h46.size; omega) b12.lt)
  have HB10 := Lib.hid (show Bk w9 g10 45 #[.slice A5 AL.length c5] (0, 0) ∧ g10 < g12 ∧ w4.heap.size ≤ g10 from ⟨b10.gr hg9, h1012, h10⟩)
  have HO10 := Lib.hid (hO5.gr hg9)
  have HR9 := Lib.hid (show Rnd w3 w4 w9 gb bl g12 obj PS PS [] [] none 0 (.slice none 0 0) w9 from ⟨ToldP.start HPA.out.inn, Own.nil _ _ _ _, HB4.out.to h49, b12, Own.nil _ _ _ _, Kr.refl (Nat.le_refl _)⟩)
  have HG9 := Lib.hid (Gr.tr HG3.out (Gr.tr H34.out h49))
  have HG34 := Lib.hid (Gr.tr HG3.out H34.out)
  have HR9b := Lib.hid b12
  clear b10 b12 hg9 hO5 h46 h10 h1012 hg12 h49 HB4 HGB HBL
  go_wp2_with fail
  go_loopw [11, 13, 14, 15, 61] (fun vo x13 x14 x15 iv wr => ∃ k : Nat, k ≤ 400 ∧ iv = .int .i64 k ∧ ∃ (L : List PartT) (O : List UInt8) (S : List SpT) (A : Option Addr) (c : Nat), S.length ≤ 1 + 2 * min k 12 ∧ Rnd w3 w4 w9 gb bl g12 obj PS L O S A c vo wr) (fun _ _ _ _ iv _ => 400 - (intOf iv).toNat)
  case atStart => exact ⟨0, by omega, rfl, PS, [], [], none, 0, by simp, HR9.out⟩
  case round =>
    obtain ⟨k, hk, rfl, L, O, S, A, c, hS, hR⟩ := hrel
    obtain ⟨Ao, co, rfl⟩ := hR.out.form
    have HR := Lib.hid hR
    have HS := Lib.hid hS
    have HGr := Lib.hid (show Gr w wr from Gr.tr HG3.out hR.body.old)
    clear hR hS HR9
    by_cases hlt : k < 400
    case neg =>
      have HDN := Lib.hid (asDone_any w3 wr gb bl L O.length HR.out.body)
      cases hLe : L.isEmpty with
      | false =>
        rw [hLe] at HDN
        go_wp2_with (first | (go_at_call 16; refine HDN.out.mono ?_; rintro e wn ⟨rfl, hgn⟩; have HGn := Lib.hid (Gr.tr HGr.out hgn)) | (go_at_call 8; refine (HAL.out _ HGn.out).mono ?_; rintro e wz ⟨rfl, hgz⟩))
        go_ret
        exact ⟨rfl, Gr.tr HGn.out hgz⟩
      | true =>
      rw [hLe] at HDN
      obtain rfl : L = [] := List.isEmpty_iff.1 hLe
      have hOe := HR.out.told.all
      go_upto_region 27 with (go_at_call 16; refine HDN.out.mono ?_; rintro e wn ⟨rfl, hgn⟩)
      have h3n := Gr.tr HR.out.body.old hgn
      have HGn := Lib.hid (Gr.tr HG3.out h3n)
      have HBn := Lib.hid (HR.out.body.to hgn)
      have HOn := Lib.hid (own_byts (HR.out.out.gr hgn))
      have hfl := HPA.out.fill
      have hsz := HPA.out.size
      have hmany := HPA.out.many
      simp only at hfl hsz hmany
      rw [← hOe] at hfl hsz hmany
      have HSZ := Lib.hid hsz
      have HMY := Lib.hid hmany
      have HFL := Lib.hid hfl
      have HIN := Lib.hid (show PartsIn obj PS from HPA.out.inn)
      have HFW := Lib.hid (show fillL obj PS = O from hOe.symm)
      have HFT := Lib.hid (fun (j : Nat) => show (fillL obj (PS.take j)).length ≤ 10000 from by have h1 := fillL_take obj PS j; rw [← hOe] at h1; omega)
      have h3n' := Lib.hid h3n
      have HFEW := Lib.hid (show PS.length ≤ 30 from HPA.out.few)
      obtain ⟨A3', c3', hv3, hpc, hpm, hPO⟩ := id HPS.out.open
      simp only [Value.slice.injEq, true_and] at hv3
      obtain ⟨rfl, rfl⟩ := hv3
      have HPO := Lib.hid hPO
      clear hPO hfl hsz hmany hgn HDN hLe hOe hlt HR HS
      have t2 := s2 _ h3n
      clear h3n
      go_wp2_with fail
      go_loopw [16, 18, 143] (fun ws x18 jv wq => ∃ j : Nat, j ≤ PS.length ∧ jv = .int .i64 j ∧ ws = str (fillL obj (PS.take j)) ∧ Gr wn wq) (fun _ _ jv _ => PS.length - (intOf jv).toNat)
      case atStart => exact ⟨0, Nat.zero_le _, rfl, rfl, Gr.refl _⟩
      case round =>
        clear t2
        obtain ⟨j, hj, rfl, rfl, hGq⟩ := hrel
        have hft := HFT.out j
        have HGq := Lib.hid hGq
        have h3q := Gr.tr h3n'.out hGq
        have H3q := Lib.hid h3q
        clear hGq
        by_cases hjl : j < PS.length
        case pos =>
          obtain ⟨b1, o1, rfl, hb1, p0, p1, p2⟩ := HPO.out j hjl
          have p0 := Gr.cell h3q p0; have p1 := Gr.cell h3q p1; have p2 := Gr.cell h3q p2
          have hsn : fillL obj (PS.take (j + 1)) = fillL obj (PS.take j) ++ (if PS[j].1 = [] then objL obj PS[j].2 else PS[j].1) := by
            rw [List.take_succ_eq_append_getElem hjl, fillL_snoc]
          have hft2 := HFT.out (j + 1)
          have hin := HIN.out _ (List.getElem_mem hjl)
          have HSN := Lib.hid hsn
          rw [hsn, List.length_append] at hft2
          clear hsn
          generalize PS[j] = p at *
          obtain ⟨tx, pf, pt⟩ := p
          simp only at p0 p1 p2 hin hft2
          obtain ⟨T, hT⟩ : ∃ T, T = fillL obj (PS.take j) := ⟨_, rfl⟩
          rw [← hT] at hft hft2
          have HTE := Lib.hid hT
          have HINX := Lib.hid hin
          rw [← hT]
          clear hT hin h3q
          go_upto_region 31 with fail
          have hbp := Bk.new wr 51 #[str tx, .int .i64 pf, .int .i64 pt] (0, 0)
          have hGb := Gr.al (Gr.refl wr) (Obj.cells #[str tx, .int .i64 pf, .int .i64 pt] 51)
          refine at_world (P := Code.wp _ _ _ _) (w0 := wr.alloc (Obj.cells #[str tx, .int .i64 pf, .int .i64 pt] 51)) ?_
          intro wb hwb
          rw [← hwb] at hbp hGb
          clear hwb
          generalize wr.heap.size = gp at *
          obtain ⟨y0, y1, y2⟩ := hbp.cells3
          have HGb := Lib.hid (Gr.tr HGq.out hGb)
          have HYB := Lib.hid (HY.out.gr (Gr.tr HGn.out (Gr.tr HGq.out hGb)))
          clear hbp hGb p0 p1 p2
          cases kt : tx.isEmpty with
          | false =>
            have htn : tx ≠ [] := by intro h; rw [h] at kt; cases kt
            rw [if_neg htn] at HSN hft2
            have htl : tx.length ≤ 10000 := by omega
            clear htn hft2
            go_wp2_with fail
            exact ⟨⟨j + 1, by omega, by go_num, by rw [HSN.out, ← HTE.out], HGb.out⟩, by simp [intOf]; omega⟩
          | true =>
            obtain rfl : tx = [] := List.isEmpty_iff.1 kt
            obtain ⟨i0, i1, i2⟩ := HINX.out rfl
            rw [if_pos rfl] at HSN hft2
            have he : objL obj (pf, pt) = (obj.drop pf.toNat).take (pt.toNat - pf.toNat) := by unfold objL; congr 1; simp only; omega
            have HOE := Lib.hid he
            have hxl : ((obj.drop pf.toNat).take (pt.toNat - pf.toNat)).length ≤ 10000 := by rw [← he]; omega
            clear he hft2 kt
            go_wp2_with (first
              | (refine wpList_slLH _ _ _ rfl rfl rfl rfl rfl HYB.out ?_ ?_ ?_ ?_; omega; omega; omega; intro A9 hA9; have HA9 := Lib.hid hA9; clear hA9; generalize (obj.drop pf.toNat).take (pt.toNat - pf.toNat) = X at *)
              | (refine wpList_toStr _ rfl rfl rfl HA9.out ?_))
            exact ⟨⟨j + 1, by omega, by go_num, by rw [HSN.out, ← HTE.out, HOE.out], HGb.out⟩, by simp [intOf]; omega⟩
        case neg =>
        have hte : PS.take j = PS := List.take_of_length_le (by omega)
        rw [hte, HFW.out]
        clear hte hft h3q
        have HSE := Lib.hid (fun (y : World) (g : Gr wn y) => asSent_any w3 y gb bl [] O.length (HBn.out.to g))
        have hgi : ∀ i, Gr wn (gx wr none i) := fun i => Gr.tr HGq.out (gr_none (gx_by wr none i))
        have tS1 := fun i => (HOn.out.gr (hgi i)).toStr
        have z3 := fun i => s3 _ (Gr.tr h3n'.out (hgi i))
        rw [HSZ.out] at z3
        go_upto_region 35 with fail
        refine wp_region_all [0, 1, 2, 3, 4, 5, 6, 7, 8, 9, 10, 11, 12, 13, 14, 15, 16, 17] (by kernel_rfl) (by kernel_rfl) rfl (by kernel_rfl) (fun o _ _ _ _ h => by cases o <;> exact h) ?_
        repeat (first | (refine wpGq_step (fun K hK => ?_); go_simp; refine hK _ ?_; clear hK K) | (refine wpGq_step (fun K hK => ?_); go_simp; simp only [↓IntWalk.iteOmega]; go_simp; refine hK _ ?_; clear hK K) | (refine wpGq_step (fun K hK => ?_); go_simp; apply Exists.intro; refine ⟨fun _ => ?_, hK _ ?_⟩; (exact HSE.out _ (hgi _)); clear hK K))
        refine wpGq_nil ?_
        refine wpG_done (by kernel_rfl) (fun wx hgx => ?_)
        clear hgi tS1 z3
        have hnx := Gr.tr HGq.out hgx
        have h3x := Gr.tr h3n'.out hnx
        have HNX := Lib.hid hnx
        have H3X := Lib.hid h3x
        have HGX := Lib.hid (Gr.tr HGn.out hnx)
        have z0 := s0 _ h3x
        have z1 := s1 _ h3x
        have z2 := s2 _ h3x
        have z3 := s3 _ h3x
        have HSPN := Lib.hid (fun (y : World) (g : Gr w3 y) => spans_any st sz (.slice A2 F.length c2) _ PS y (HPS.out.gr g) (by have := HFEW.out; omega))
        have HWI := Lib.hid (show ∀ s ∈ spansP PS, InS obj.length s from fun s hs => by
          unfold spansP at hs
          obtain ⟨p, hp, rfl⟩ := List.mem_map.1 hs
          obtain ⟨hp1, hp2⟩ := List.mem_filter.1 hp
          obtain ⟨i0, i1, i2⟩ := HIN.out p hp1 (List.isEmpty_iff.1 hp2)
          exact ⟨i0, i1, i2⟩)
        have HWL := Lib.hid (show (spansP PS).length ≤ 30 from by have h1 := List.length_filter_le (fun p : PartT => p.1.isEmpty) PS; have h2 := HFEW.out; unfold spansP; rw [List.length_map]; omega)
        generalize spansP PS = W at HSPN HWI HMY HWL
        clear hgx hnx HGq h3x HSE H3q
        by_cases h2 : W.length < 2
        case pos =>
          go_wp2_with (first | (go_at_call 18; refine (HSPN.out _ H3X.out).mono ?_; rintro e wy ⟨A9, c9, rfl, hO9, hg9⟩; have HGY := Lib.hid (Gr.tr HGX.out hg9)) | (go_at_call 8; refine (HAL.out _ HGY.out).mono ?_; rintro e wz ⟨rfl, hgz⟩))
          go_ret
          exact ⟨rfl, Gr.tr HGY.out hgz⟩
        case neg =>
        go_upto_region 39 with (go_at_call 18; refine (HSPN.out _ H3X.out).mono ?_; rintro e wy ⟨A9, c9, rfl, hO9, hg9⟩)
        have HNY := Lib.hid (Gr.tr HNX.out hg9)
        have HPLE := Lib.hid (HMY.out (by omega))
        have HBO := Lib.hid (fun (y : World) (g : Gr wn y) => boundary_any 7 y (HZ.out.gr (Gr.tr HGn.out g)))
        have HRE := Lib.hid (fun (y : World) (g : Gr wn y) => show Calls Tryz.prog 19 #[.slice Ao O.length co, str (boundN 7)] y (fun e w' => Gr y w' ∧ ∃ v, e = .returned (.tuple #[v, .int .i64 0]) ∧ Pieces w' v (piecesL obj.length obj W)) from by
          have h := read_any (.slice Ao O.length co) O (boundN 7) y (HV.out.gr (Gr.tr HGn.out g)) (HOn.out.gr g) (by have := HFL.out; omega) (by rw [boundN_len]; decide)
          rw [HPLE.out] at h
          exact h)
        obtain ⟨PL, hPL⟩ : ∃ PL, PL = piecesL obj.length obj W := ⟨_, rfl⟩
        rw [← hPL] at HRE
        have HPLl := Lib.hid (show PL.length = W.length from by rw [hPL]; unfold piecesL; rw [List.length_map])
        have HPLk := Lib.hid (fun (k : Nat) (h1 : k < PL.length) (h2 : k < W.length) => show PL[k] = ((W[k].1, W[k].2, (obj.length : Int)), objL obj W[k]) from by subst hPL; exact piecesL_at _ _ _ k h1 h2)
        clear hPL hO9 hg9 z0 z1 z2 z3 h2
        go_upto_region 40 with (first
          | (go_at_call 20; refine (HBO.out _ HNY.out).mono ?_; rintro e wb ⟨rfl, hgb⟩; have HNB := Lib.hid (Gr.tr HNY.out hgb))
          | (go_at_call 19; refine (HRE.out _ HNB.out).mono ?_; rintro e wp ⟨hgp, v, rfl, hpp⟩; obtain ⟨Ap, cp, rfl, hpc, hpm, hpo⟩ := pieces_open hpp))
        have HNP := Lib.hid (Gr.tr HNB.out hgp)
        have HPO2 := Lib.hid hpo
        have h3p := Gr.tr h3n'.out HNP.out
        have H3P := Lib.hid h3p
        have z0 := s0 _ h3p
        have z1 := s1 _ h3p
        have z2 := s2 _ h3p
        have z3 := s3 _ h3p
        have dne : ((PL.length : Int) != (W.length : Int)) = false := by rw [HPLl.out]; simp
        clear hgp hpp hpo hgb
        go_upto_region 42 with (go_at_call 18; refine (HSPN.out _ H3P.out).mono ?_; rintro e wq ⟨A9, c9, rfl, hO9, hg9⟩)
        have HPQ := Lib.hid hg9
        have h3q := Gr.tr h3p hg9
        have H3Q := Lib.hid h3q
        clear z0 z1 z2 z3 dne hO9 hg9 h3p
        have z0 := s0 _ h3q
        have z1 := s1 _ h3q
        have z2 := s2 _ h3q
        have z3 := s3 _ h3q
        clear h3q
        go_wp2_with (go_at_call 18; refine (HSPN.out _ H3Q.out).mono ?_; rintro e wz ⟨A9, c9, rfl, hO9, hg9⟩; have HPZ := Lib.hid (Gr.tr HPQ.out hg9); have hs9 := hO9.sl (by decide); have HS9 := Lib.hid hs9; clear hO9 hg9 hs9)
        obtain ⟨A9', c9', hv9, hc9, hm9, ho9⟩ := id (show Spans wz _ W from HS9.out).open
        simp only [Value.slice.injEq, true_and] at hv9
        obtain ⟨rfl, rfl⟩ := hv9
        have HO9 := Lib.hid ho9
        have HGZ := Lib.hid (Gr.tr HGn.out (Gr.tr HNP.out HPZ.out))
        have HYO := Lib.hid (HY.out.gr HGZ.out)
        have hWl := HWL.out
        clear ho9 z0 z1 z2 z3 s0 s1 s2 s3
        go_loopw [21, 22, 208] (fun x21 x22 i wr => ∃ k : Nat, k ≤ W.length ∧ i = .int .i64 k ∧ Gr wz wr) (fun _ _ i _ => W.length - (intOf i).toNat)
        case atStart => exact ⟨0, Nat.zero_le _, rfl, Gr.refl _⟩
        case round =>
          obtain ⟨k, hk, rfl, hG⟩ := hrel
          by_cases hlt : k < W.length
          case neg =>
            have HGz := Lib.hid (Gr.tr HGZ.out hG)
            go_wp2_with (go_at_call 8; refine (HAL.out _ HGz.out).mono ?_; rintro e wv ⟨rfl, hgz⟩)
            go_ret
            exact ⟨rfl, Gr.tr HGz.out hgz⟩
          have k2 : k < PL.length := by have := HPLl.out; omega
          obtain ⟨b3, o3, rfl, -, c3a, c3b⟩ := HO9.out k hlt
          obtain ⟨b2, o2, u2, rfl, d0, d1, d2, d3, hy2⟩ := HPO2.out k k2
          rw [HPLk.out k k2 hlt] at d0 d1 d2 hy2
          have hin := HWI.out _ (List.getElem_mem hlt)
          have hzr := Gr.tr HPZ.out hG
          have p0 := Gr.cell hG c3a
          have p1 := Gr.cell hG c3b
          generalize W[k] = ps at *
          obtain ⟨pf, pt⟩ := ps
          simp only at c3a c3b d0 d1 d2 hy2 p0 p1
          have HIS := Lib.hid hin
          clear hin
          go_upto_region 45 with fail
          obtain ⟨hGb, cf0, cf1⟩ := box2 wr (.int .i64 pf) (.int .i64 pt) 48
          have hG := Gr.tr hG hGb
          have hzr := Gr.tr hzr hGb
          generalize wr.alloc (Obj.cells #[.int .i64 pf, .int .i64 pt] 48) = wb at *
          generalize wr.heap.size = gq at *
          clear hGb p0 p1
          obtain ⟨i0, i1, i2⟩ := HIS.out
          simp only at i0 i1 i2
          obtain ⟨A5', n5, rfl, hn5, hm5, -⟩ := id hy2.open
          obtain ⟨A6', hse, hs5⟩ := HYO.out.sliced pf.toNat pt.toNat c0 (by omega) (by omega) (by omega) (Nat.le_refl _)
          have he : objL obj (pf, pt) = (obj.drop pf.toNat).take (pt.toNat - pf.toNat) := by unfold objL; congr 1; simp only; omega
          rw [← he] at hs5
          have hgi : ∀ i, Gr wz (gx wb none i) := fun i => Gr.tr hG (gr_none (gx_by wb none i))
          have hpi : ∀ i, Gr wp (gx wb none i) := fun i => Gr.tr hzr (gr_none (gx_by wb none i))
          have hgb : ∀ i, Gr wb (gx wb none i) := fun i => gr_none (gx_by wb none i)
          have tS1 := fun i => (hy2.gr (hpi i)).toStr
          have tS2 := fun i => (hs5.gr (hgi i)).toStr
          rw [← hse] at tS2
          simp only [sliced, Nat.mul_one] at tS2
          have q1 := fun i => (hgb i).cell cf0
          have q2 := fun i => (hgb i).cell cf1
          have q3 := fun i => Gr.cell (hpi i) d0
          have q4 := fun i => Gr.cell (hpi i) d1
          have q5 := fun i => Gr.cell (hpi i) d2
          have q6 := fun i => Gr.cell (hpi i) d3
          have hc0b : pt ≤ (c0 : Int) := by omega
          have hft : pf ≤ pt := by omega
          have HG := Lib.hid hG
          obtain ⟨OB, hOB⟩ : ∃ OB, OB = objL obj (pf, pt) := ⟨_, rfl⟩
          rw [← hOB] at tS1 tS2 q6
          clear hy2 hs5 hse he hOB c3a c3b d0 d1 d2 d3 hgi hpi hgb hG hzr cf0 cf1 HPO2 HO9
          refine wp_region_all [0, 1, 2, 3, 4, 5, 6, 7, 8, 9, 10, 11, 12, 13, 14, 15, 16, 17, 18, 19, 20, 21, 22, 23, 24, 25, 26, 27, 28, 29, 30, 31, 32] (by kernel_rfl) (by kernel_rfl) rfl (by kernel_rfl) (fun o _ _ _ _ h => by cases o <;> exact h) ?_
          repeat (first | (refine wpGq_step (fun K hK => ?_); go_simp; refine hK _ ?_; clear hK K) | (refine wpGq_step (fun K hK => ?_); go_simp; simp only [↓IntWalk.iteOmega]; go_simp; refine hK _ ?_; clear hK K))
          refine wpGq_nil ?_
          refine wpG_done (by kernel_rfl) (fun wv hgv => ?_)
          go_wp2_with fail
          exact ⟨⟨k + 1, by omega, by go_num, Gr.tr HG.out hgv⟩, by simp [intOf]; omega⟩
    go_upto_if 67 with fail
    go_cut [] (fun wx => ∃ (S' : List SpT) (A' : Option Addr) (c' : Nat), S'.length ≤ 1 + 2 * min (k + 1) 12 ∧ Rnd w3 w4 w9 gb bl g12 obj PS L O S' A' c' (.slice Ao O.length co) wx)
    case first =>
      have x10 : wr.cell? ⟨g10, 0, none⟩ = some (.slice A5 AL.length c5) := (HR.out.kr.bk HB10.out.1 (by have h1 := HLI.out.g12; have h2 := HB10.out.2; omega) (by have h1 := HLI.out.gb; have h2 := HLI.out.bl; have h3 := HB10.out.2; simp; omega)).cell 0
      have HALL := Lib.hid (own_krs HO10.out HR.out.kr (own_lt HO10.out) (fun b hb => by have h1 := HLI.out.gb; have h2 := HLI.out.bl; have h3 := own_lo HO10.out b hb; have h4 := own_ne_ty HO10.out HR9b.out (by decide); simp only [List.mem_cons, List.not_mem_nil, or_false]; rintro (h | h | h); omega; omega; exact h4 (by rw [hb, h])))
      by_cases hkh : k < H.length
      · obtain ⟨bh, oh, rfl, hbh, e0, e1⟩ := HHA.out k hkh
        have hb12 : bh ≠ g12 := by have h0 : bh < w.heap.size := World.block_lt_of_cell? w _ e0; have h1 := HLI.out.g12; have h2 := HG34.out.size; omega
        have e0 := Gr.cell HGr.out e0
        have e1 := Gr.cell HGr.out e1
        generalize H[k] = x at *
        obtain ⟨hf, ht⟩ := x
        simp only at e0 e1
        have hkm : 1 + 2 * min k 12 + 2 ≤ 1 + 2 * min (k + 1) 12 := by have := HK12.out; omega
        have HKM := Lib.hid hkm
        have HSX := Lib.hid (show (setL [(hf, ht)]).length ≤ 1 from setL_le _)
        have z0 := gx_cell (r := some g12) e0 (by simp only [ne_eq, Option.some.injEq]; exact hb12)
        have z1 := gx_cell (r := some g12) e1 (by simp only [ne_eq, Option.some.injEq]; exact hb12)
        have z2 := gx_cell (r := some g12) x10 (by have := HB10.out.2.1; simp only [ne_eq, Option.some.injEq]; omega)
        clear e0 e1 x10 hkm hb12
        go_upto_region 14 with fail
        refine wp_region_mix [1, 2, 3, 4, 7] (some g12) 6 (by kernel_rfl) rfl (by kernel_rfl) (fun o _ _ _ _ h => by cases o <;> exact h) ?_
        simp only [pickOps, List.filterMap_cons, List.filterMap_nil, List.getElem?_cons_zero, List.getElem?_cons_succ]
        repeat (first | (refine wpGq_step (fun K hK => ?_); go_simp; refine hK _ ?_; clear hK K) | (refine wpGq_step (fun K hK => ?_); go_simp; simp only [↓IntWalk.iteOmega]; go_simp; refine hK _ ?_; clear hK K) | (refine wpGq_step (fun K hK => ?_); go_simp; apply Exists.intro; refine ⟨fun _ => ?_, hK _ ?_⟩; fail; clear hK K))
        refine wpGq_nil ?_
        clear z0 z1 z2
        refine wpG_two 0 5 (by kernel_rfl) rfl rfl rfl rfl (fun K hK wa hga => ?_) (fun K hK wa hga => ?_)
        · have g14_1 := hga
          have y12 : wa.cell? ⟨g12, 0, none⟩ = some (.slice A S.length c) := (HR.out.box.gr g14_1).cell 0
          go_simp
          refine hK _ _ (g14_1.by _) ?_
          clear hK K y12
          refine wpG_one 5 (by kernel_rfl) rfl rfl (fun K hK wx5 hgx5 => ?_)
          have g14_2 := Gr.tr g14_1 hgx5
          go_simp
          refine hK _ _ ((Gr.al g14_2 _).by _) ?_
          clear hK K
          have hs := sl_lit wx5 48 [.int .i64 hf, .int .i64 ht] 1 (by decide)
          have gl_2 := Gr.al g14_2 (Obj.cells [.int .i64 hf, .int .i64 ht].toArray 48)
          refine wpG_one 6 (by kernel_rfl) rfl rfl (fun K hK wx6 hgx6 => ?_)
          have g14_3 := Gr.tr gl_2 hgx6
          have hs := Sl.gr hs hgx6
          go_simp
          refine (rangesOf_any _ [(hf, ht)] _ (show Spans _ _ [(hf, ht)] from hs) (by simp)).mono ?_
          rintro e wof ⟨A6, c6, rfl, hO6, hgof⟩
          refine hK _ _ ((Gr.tr g14_3 hgof).by _) ?_
          clear hK K hs
          have go_3 := Gr.tr g14_3 hgof
          refine wpG_one 8 (by kernel_rfl) rfl rfl (fun K hK wx8 hgx8 => ?_)
          have g14_4 := Gr.tr go_3 hgx8
          have hO6 := hO6.gr hgx8
          go_simp
          refine (setAnd_any _ _ _ AL _ (hO6.sl (by decide)) ((HALL.out.gr g14_4).sl (by decide)) (by have h1 := HAL1.out; have h2 := HSX.out; omega)).mono ?_
          rintro e wan ⟨L7, A7, c7, hL7, rfl, hO7, hgan⟩
          refine hK _ _ ((Gr.tr g14_4 hgan).by _) ?_
          clear hK K hO6
          have ga_4 := Gr.tr g14_4 hgan
          refine wpG_one 9 (by kernel_rfl) rfl rfl (fun K hK wu hgu => ?_)
          have gu := Gr.tr ga_4 hgu
          have hO7 := hO7.gr hgu
          go_simp
          refine (setOr_any _ _ S L7 _ ((HR.out.set.gr gu).sl (by decide)) (hO7.sl (by decide)) (by have h1 := HS.out; have h2 := HAL1.out; have h3 := HSX.out; omega)).mono ?_
          rintro e wor ⟨L8, A8, c8, hL8, rfl, hO8, hgor⟩
          refine hK _ _ ((Gr.tr gu hgor).by _) ?_
          clear hK K hO7
          refine wpG_one 10 (by kernel_rfl) rfl rfl (fun K hK wt hgt => ?_)
          have gt := Gr.tr (Gr.tr gu hgor) hgt
          have y12 : wt.cell? ⟨g12, 0, none⟩ = some (.slice A S.length c) := (HR.out.box.gr gt).cell 0
          have f12 := (HR.out.box.gr gt).free 0 (.inr (Nat.zero_le _))
          have HRZ := Lib.hid (HR.out.there HLI.out gt rfl (own_bz (W0 := w4) (hO8.gr hgt) (by have h1 := HR.out.kr.size; have h2 := HLI.out.h49; have h3 := gu.size; omega)))
          have HL8 := Lib.hid (show L8.length ≤ 1 + 2 * min (k + 1) 12 from by have h1 := HS.out; have h2 := HAL1.out; have h3 := HSX.out; have h4 := HKM.out; omega)
          go_simp
          refine hK _ _ (by_st (gt.by _) _ _) ?_
          clear hK K y12 f12 hO8
          refine wpG_done (by kernel_rfl) (fun wz hgz => ?_)
          go_wp2_with fail
          go_meet
          exact ⟨L8, A8, c8, HL8.out, HRZ.out.to hgz⟩
        · have g14_5 := hga
          go_simp
          refine hK _ _ ((Gr.al g14_5 _).by _) ?_
          clear hK K
          have hs := sl_lit wa 48 [.int .i64 hf, .int .i64 ht] 1 (by decide)
          have gl_5 := Gr.al g14_5 (Obj.cells [.int .i64 hf, .int .i64 ht].toArray 48)
          refine wpG_two 0 6 (by kernel_rfl) rfl rfl rfl rfl (fun K hK wa hga => ?_) (fun K hK wa hga => ?_)
          · have g14_6 := Gr.tr gl_5 hga
            have hs := Sl.gr hs hga
            have y12 : wa.cell? ⟨g12, 0, none⟩ = some (.slice A S.length c) := (HR.out.box.gr g14_6).cell 0
            go_simp
            refine hK _ _ (g14_6.by _) ?_
            clear hK K y12
            refine wpG_one 6 (by kernel_rfl) rfl rfl (fun K hK wx6 hgx6 => ?_)
            have g14_7 := Gr.tr g14_6 hgx6
            have hs := Sl.gr hs hgx6
            go_simp
            refine (rangesOf_any _ [(hf, ht)] _ (show Spans _ _ [(hf, ht)] from hs) (by simp)).mono ?_
            rintro e wof ⟨A6, c6, rfl, hO6, hgof⟩
            refine hK _ _ ((Gr.tr g14_7 hgof).by _) ?_
            clear hK K hs
            have go_7 := Gr.tr g14_7 hgof
            refine wpG_one 8 (by kernel_rfl) rfl rfl (fun K hK wx8 hgx8 => ?_)
            have g14_8 := Gr.tr go_7 hgx8
            have hO6 := hO6.gr hgx8
            go_simp
            refine (setAnd_any _ _ _ AL _ (hO6.sl (by decide)) ((HALL.out.gr g14_8).sl (by decide)) (by have h1 := HAL1.out; have h2 := HSX.out; omega)).mono ?_
            rintro e wan ⟨L7, A7, c7, hL7, rfl, hO7, hgan⟩
            refine hK _ _ ((Gr.tr g14_8 hgan).by _) ?_
            clear hK K hO6
            have ga_8 := Gr.tr g14_8 hgan
            refine wpG_one 9 (by kernel_rfl) rfl rfl (fun K hK wu hgu => ?_)
            have gu := Gr.tr ga_8 hgu
            have hO7 := hO7.gr hgu
            go_simp
            refine (setOr_any _ _ S L7 _ ((HR.out.set.gr gu).sl (by decide)) (hO7.sl (by decide)) (by have h1 := HS.out; have h2 := HAL1.out; have h3 := HSX.out; omega)).mono ?_
            rintro e wor ⟨L8, A8, c8, hL8, rfl, hO8, hgor⟩
            refine hK _ _ ((Gr.tr gu hgor).by _) ?_
            clear hK K hO7
            refine wpG_one 10 (by kernel_rfl) rfl rfl (fun K hK wt hgt => ?_)
            have gt := Gr.tr (Gr.tr gu hgor) hgt
            have y12 : wt.cell? ⟨g12, 0, none⟩ = some (.slice A S.length c) := (HR.out.box.gr gt).cell 0
            have f12 := (HR.out.box.gr gt).free 0 (.inr (Nat.zero_le _))
            have HRZ := Lib.hid (HR.out.there HLI.out gt rfl (own_bz (W0 := w4) (hO8.gr hgt) (by have h1 := HR.out.kr.size; have h2 := HLI.out.h49; have h3 := gu.size; omega)))
            have HL8 := Lib.hid (show L8.length ≤ 1 + 2 * min (k + 1) 12 from by have h1 := HS.out; have h2 := HAL1.out; have h3 := HSX.out; have h4 := HKM.out; omega)
            go_simp
            refine hK _ _ (by_st (gt.by _) _ _) ?_
            clear hK K y12 f12 hO8
            refine wpG_done (by kernel_rfl) (fun wz hgz => ?_)
            go_wp2_with fail
            go_meet
            exact ⟨L8, A8, c8, HL8.out, HRZ.out.to hgz⟩
          · have g14_9 := Gr.tr gl_5 hga
            have hs := Sl.gr hs hga
            go_simp
            refine (rangesOf_any _ [(hf, ht)] _ (show Spans _ _ [(hf, ht)] from hs) (by simp)).mono ?_
            rintro e wof ⟨A6, c6, rfl, hO6, hgof⟩
            refine hK _ _ ((Gr.tr g14_9 hgof).by _) ?_
            clear hK K hs
            have go_9 := Gr.tr g14_9 hgof
            refine wpG_two 0 8 (by kernel_rfl) rfl rfl rfl rfl (fun K hK wa hga => ?_) (fun K hK wa hga => ?_)
            · have g14_10 := Gr.tr go_9 hga
              have hO6 := hO6.gr hga
              have y12 : wa.cell? ⟨g12, 0, none⟩ = some (.slice A S.length c) := (HR.out.box.gr g14_10).cell 0
              go_simp
              refine hK _ _ (g14_10.by _) ?_
              clear hK K y12
              refine wpG_one 8 (by kernel_rfl) rfl rfl (fun K hK wx8 hgx8 => ?_)
              have g14_11 := Gr.tr g14_10 hgx8
              have hO6 := hO6.gr hgx8
              go_simp
              refine (setAnd_any _ _ _ AL _ (hO6.sl (by decide)) ((HALL.out.gr g14_11).sl (by decide)) (by have h1 := HAL1.out; have h2 := HSX.out; omega)).mono ?_
              rintro e wan ⟨L7, A7, c7, hL7, rfl, hO7, hgan⟩
              refine hK _ _ ((Gr.tr g14_11 hgan).by _) ?_
              clear hK K hO6
              have ga_11 := Gr.tr g14_11 hgan
              refine wpG_one 9 (by kernel_rfl) rfl rfl (fun K hK wu hgu => ?_)
              have gu := Gr.tr ga_11 hgu
              have hO7 := hO7.gr hgu
              go_simp
              refine (setOr_any _ _ S L7 _ ((HR.out.set.gr gu).sl (by decide)) (hO7.sl (by decide)) (by have h1 := HS.out; have h2 := HAL1.out; have h3 := HSX.out; omega)).mono ?_
              rintro e wor ⟨L8, A8, c8, hL8, rfl, hO8, hgor⟩
              refine hK _ _ ((Gr.tr gu hgor).by _) ?_
              clear hK K hO7
              refine wpG_one 10 (by kernel_rfl) rfl rfl (fun K hK wt hgt => ?_)
              have gt := Gr.tr (Gr.tr gu hgor) hgt
              have y12 : wt.cell? ⟨g12, 0, none⟩ = some (.slice A S.length c) := (HR.out.box.gr gt).cell 0
              have f12 := (HR.out.box.gr gt).free 0 (.inr (Nat.zero_le _))
              have HRZ := Lib.hid (HR.out.there HLI.out gt rfl (own_bz (W0 := w4) (hO8.gr hgt) (by have h1 := HR.out.kr.size; have h2 := HLI.out.h49; have h3 := gu.size; omega)))
              have HL8 := Lib.hid (show L8.length ≤ 1 + 2 * min (k + 1) 12 from by have h1 := HS.out; have h2 := HAL1.out; have h3 := HSX.out; have h4 := HKM.out; omega)
              go_simp
              refine hK _ _ (by_st (gt.by _) _ _) ?_
              clear hK K y12 f12 hO8
              refine wpG_done (by kernel_rfl) (fun wz hgz => ?_)
              go_wp2_with fail
              go_meet
              exact ⟨L8, A8, c8, HL8.out, HRZ.out.to hgz⟩
            · have g14_12 := Gr.tr go_9 hga
              have hO6 := hO6.gr hga
              go_simp
              refine (setAnd_any _ _ _ AL _ (hO6.sl (by decide)) ((HALL.out.gr g14_12).sl (by decide)) (by have h1 := HAL1.out; have h2 := HSX.out; omega)).mono ?_
              rintro e wan ⟨L7, A7, c7, hL7, rfl, hO7, hgan⟩
              refine hK _ _ ((Gr.tr g14_12 hgan).by _) ?_
              clear hK K hO6
              have ga_12 := Gr.tr g14_12 hgan
              refine wpG_one 0 (by kernel_rfl) rfl rfl (fun K hK wa hga => ?_)
              have g14_13 := Gr.tr ga_12 hga
              have hO7 := hO7.gr hga
              have y12 : wa.cell? ⟨g12, 0, none⟩ = some (.slice A S.length c) := (HR.out.box.gr g14_13).cell 0
              go_simp
              refine hK _ _ (g14_13.by _) ?_
              clear hK K y12
              refine wpG_one 9 (by kernel_rfl) rfl rfl (fun K hK wu hgu => ?_)
              have gu := Gr.tr g14_13 hgu
              have hO7 := hO7.gr hgu
              go_simp
              refine (setOr_any _ _ S L7 _ ((HR.out.set.gr gu).sl (by decide)) (hO7.sl (by decide)) (by have h1 := HS.out; have h2 := HAL1.out; have h3 := HSX.out; omega)).mono ?_
              rintro e wor ⟨L8, A8, c8, hL8, rfl, hO8, hgor⟩
              refine hK _ _ ((Gr.tr gu hgor).by _) ?_
              clear hK K hO7
              refine wpG_one 10 (by kernel_rfl) rfl rfl (fun K hK wt hgt => ?_)
              have gt := Gr.tr (Gr.tr gu hgor) hgt
              have y12 : wt.cell? ⟨g12, 0, none⟩ = some (.slice A S.length c) := (HR.out.box.gr gt).cell 0
              have f12 := (HR.out.box.gr gt).free 0 (.inr (Nat.zero_le _))
              have HRZ := Lib.hid (HR.out.there HLI.out gt rfl (own_bz (W0 := w4) (hO8.gr hgt) (by have h1 := HR.out.kr.size; have h2 := HLI.out.h49; have h3 := gu.size; omega)))
              have HL8 := Lib.hid (show L8.length ≤ 1 + 2 * min (k + 1) 12 from by have h1 := HS.out; have h2 := HAL1.out; have h3 := HSX.out; have h4 := HKM.out; omega)
              go_simp
              refine hK _ _ (by_st (gt.by _) _ _) ?_
              clear hK K y12 f12 hO8
              refine wpG_done (by kernel_rfl) (fun wz hgz => ?_)
              go_wp2_with fail
              go_meet
              exact ⟨L8, A8, c8, HL8.out, HRZ.out.to hgz⟩
      · by_cases hk2 : 200 ≤ k
        · have f12 := HR.out.box.free 0 (.inr (Nat.zero_le _))
          have y12 : wr.cell? ⟨g12, 0, none⟩ = some (.slice A S.length c) := HR.out.box.cell 0
          go_wp2_with fail
          go_meet
          exact ⟨AL, A5, c5, by have := HAL1.out; omega, HR.out.there HLI.out (Gr.refl wr) rfl HALL.out⟩
        · go_wp2_with fail
          go_meet
          exact ⟨S, A, c, by have := HS.out; omega, HR.out⟩
    case rest =>
    obtain ⟨S', A', c', hS', hR'⟩ := hcut
    have HR' := Lib.hid hR'
    have HS' := Lib.hid hS'
    have hlen := hR'.told.len
    have hfl := HPA.out.fill
    simp only at hfl
    obtain ⟨m9, hm9⟩ : ∃ m9 : Nat, m9 = k % 9 := ⟨_, rfl⟩
    obtain ⟨MO, hMO⟩ : ∃ MO : Nat, MO = 1 + m9 := ⟨_, rfl⟩
    have HNX := Lib.hid (asNext_any w3 wc gb bl L O.length (MO : Int) (.slice A' S'.length c') S' obj hR'.body (hR'.set.sl (by decide)) (by omega) (by omega) (by omega) (fun p hp => by have h1 := told_tx (obj := obj) hp; have h2 := congrArg List.length hR'.told.bytes; rw [List.length_append] at h2; omega) hR'.told.inn (by have := HK8.out; omega))
    have HTN := Lib.hid (fun (t : PartT) (L' : List PartT) (n : Int) (h : nextL L S' (MO : Int) = some (t, L', n)) => hR'.told.next (by omega) (by have := HK8.out; omega) h)
    have x12 : wc.cell? ⟨g12, 0, none⟩ = some (.slice A' S'.length c') := hR'.box.cell 0
    have em1 : (k : Int) % 9 = (m9 : Int) := by omega
    have em0 : (k : Int).tmod 9 = (m9 : Int) := by rw [Int.tmod_eq_emod_of_nonneg (by omega)]; exact em1
    have em2 : (1 : Int) + (m9 : Int) = (MO : Int) := by omega
    have hm8 : m9 ≤ 8 := by omega
    have HLN := Lib.hid (show O.length ≤ 10000 from by omega)
    clear hR' hS' hlen hfl hMO HR HS hm9
    cases hnx : nextL L S' (MO : Int) with
    | none =>
      have HNY := Lib.hid (show Calls Tryz.prog 14 #[.pointer (some ⟨gb, 0, none⟩), .agg #[.slice A' S'.length c'], .int .i64 (MO : Int)] wc (fun e w' => Kr [gb, bl] wc.heap.size wc w' ∧ e = .returned (.tuple #[.agg #[str [], .int .i64 0, .int .i64 0], .bool false]) ∧ BdyAt w3 gb bl L O.length w') from by have h := HNX.out; rw [hnx] at h; exact h)
      clear hnx HTN HNX
      go_upto_region 18 with (go_at_call 14; refine HNY.out.mono ?_; rintro e w7 ⟨hk7, rfl, hB7⟩)
      obtain ⟨o7, x7, q7, k7⟩ := HR'.out.tell (L' := L) (O' := O) HLI.out hk7
      have HRN := Lib.hid (show Rnd w3 w4 w9 gb bl g12 obj PS L O S' A' c' (.slice Ao O.length co) w7 from ⟨HR'.out.told, o7, hB7, x7, q7, k7⟩)
      have hg8 := Gr.al (Gr.refl w7) (Obj.cells #[str [], .int .i64 0, .int .i64 0] 51)
      refine at_world (P := Code.wp _ _ _ _) (w0 := w7.alloc (Obj.cells #[str [], .int .i64 0, .int .i64 0] 51)) ?_
      intro w8 hw8
      rw [← hw8] at hg8
      have HRW := Lib.hid (HRN.out.to hg8)
      clear hw8 hg8 o7 x7 q7 k7 hk7 hB7 HRN x12 em0 em1 em2 hm8
      go_wp2_with fail
      exact ⟨⟨k + 1, by omega, by go_num, L, O, S', A', c', HS'.out, HRW.out⟩, by simp [intOf]; omega⟩
    | some rr =>
      obtain ⟨t, L', n⟩ := rr
      obtain ⟨ht1, ht2, ht3⟩ := HTN.out t L' n hnx
      have HNY := Lib.hid (show Calls Tryz.prog 14 #[.pointer (some ⟨gb, 0, none⟩), .agg #[.slice A' S'.length c'], .int .i64 (MO : Int)] wc (fun e w' => Kr [gb, bl] wc.heap.size wc w' ∧ e = .returned (.tuple #[.agg #[str t.1, .int .i64 t.2.1, .int .i64 t.2.2], .bool true]) ∧ BdyAt w3 gb bl L' ((O.length : Int) + n) w') from by have h := HNX.out; rw [hnx] at h; exact h)
      rw [← ht2] at HNY
      have HT1 := Lib.hid ht1
      have HT3 := Lib.hid ht3
      have HLT := Lib.hid (show (O ++ toldB obj t).length ≤ 10000 from by have h1 := ht1.len; have h2 := HPA.out.fill; simp only at h2; omega)
      clear hnx HTN HNX ht1 ht2 ht3
      obtain ⟨tx, tf, tt⟩ := t
      simp only at HNY HT3
      go_upto_region 18 with (go_at_call 14; refine HNY.out.mono ?_; rintro e w7 ⟨hk7, rfl, hB7⟩)
      obtain ⟨o7, x7, q7, k7⟩ := HR'.out.tell (L' := L) (O' := O) HLI.out hk7
      have hbp := Bk.new w7 51 #[str tx, .int .i64 tf, .int .i64 tt] (0, 0)
      have hg8 := Gr.al (Gr.refl w7) (Obj.cells #[str tx, .int .i64 tf, .int .i64 tt] 51)
      refine at_world (P := Code.wp _ _ _ _) (w0 := w7.alloc (Obj.cells #[str tx, .int .i64 tf, .int .i64 tt] 51)) ?_
      intro w8 hw8
      rw [← hw8] at hbp hg8
      clear hw8
      generalize w7.heap.size = gp at *
      obtain ⟨y0, y1, y2⟩ := hbp.cells3
      have hG8 : Gr w w8 := Gr.tr HG3.out (hB7.to hg8).old
      have HB8 := Lib.hid (hB7.to hg8)
      have HO8 := Lib.hid (o7.gr hg8)
      have HX8 := Lib.hid (x7.gr hg8)
      have HQ8 := Lib.hid (q7.gr hg8)
      have HK8r := Lib.hid (k7.gr hg8)
      have HZ8 := Lib.hid (show w9.heap.size ≤ w8.heap.size from (k7.gr hg8).size)
      have hol := HLN.out
      clear hbp hg8 o7 x7 q7 k7 hk7 hB7 x12 em0 em1 em2 hm8
      cases kt : tx.isEmpty with
      | false =>
        have htn : tx ≠ [] := by intro h; rw [h] at kt; cases kt
        have htb : toldB obj (tx, tf, tt) = tx := by unfold toldB; rw [if_neg htn]
        rw [htb] at HT1 HB8 HLT
        have htl : tx.length ≤ 10000 := by have := HLT.out; rw [List.length_append] at this; omega
        clear htn htb
        go_wp2_with (at_builtin; refine wpList_appT (W0 := w9) rfl _ _ rfl rfl rfl HZ8.out HO8.out (by omega) ?_; intro v9 w10 hO9 hby9; have HO9 := Lib.hid hO9; have HBY9 := Lib.hid hby9; clear hO9 hby9)
        exact ⟨⟨k + 1, by omega, by go_num, L', O ++ tx, S', A', c', HS'.out, rnd_app HT1.out HB8.out HX8.out HQ8.out HK8r.out HLI.out HO8.out HBY9.out (by rw [List.length_append, List.map_append]; exact HO9.out)⟩, by simp [intOf]; omega⟩
      | true =>
        obtain rfl : tx = [] := List.isEmpty_iff.1 kt
        obtain ⟨hh, i0, i1, i2⟩ := HT3.out rfl
        have htb : toldB obj ([], tf, tt) = objL obj (tf, tt) := by unfold toldB; rw [if_pos rfl]
        rw [htb] at HT1 HB8 HLT
        have HHO := Lib.hid (setHolds_yes (.slice A' S'.length c') S' tf tt w8 (HQ8.out.sl (by decide)) (by have := HS'.out; omega) hh i1)
        have z12 : w8.cell? ⟨g12, 0, none⟩ = some (.slice A' S'.length c') := HX8.out.cell 0
        have hgt : ¬ (obj.length : Int) < tt := by omega
        have dgt : decide ((obj.length : Int) < tt) = false := decide_eq_false hgt
        have hge : ¬ tt ≤ tf := by omega
        have dge : decide (tt ≤ tf) = false := decide_eq_false hge
        have HYB := Lib.hid (HY.out.gr hG8)
        have htl : (objL obj (tf, tt)).length = tt.toNat - tf.toNat := by unfold objL; rw [List.length_take, List.length_drop]; simp only; omega
        have HTLN := Lib.hid htl
        have he : objL obj (tf, tt) = (obj.drop tf.toNat).take (tt.toNat - tf.toNat) := by unfold objL; congr 1; simp only; omega
        have HOE := Lib.hid he
        have hsl : tt.toNat - tf.toNat ≤ 1000000 := by have := HK8.out; omega
        clear htb hh kt he htl
        go_upto_region 23 with (go_at_call 15; refine HHO.out.mono ?_; rintro e wh ⟨rfl, hgh⟩; have y1 := hgh.cell y1; have y2 := hgh.cell y2)
        have HB8 := Lib.hid (HB8.out.to hgh)
        have HO8 := Lib.hid (HO8.out.gr hgh)
        have HX8 := Lib.hid (HX8.out.gr hgh)
        have HQ8 := Lib.hid (HQ8.out.gr hgh)
        have HK8r := Lib.hid (HK8r.out.gr hgh)
        have HZ8 := Lib.hid (Nat.le_trans HZ8.out hgh.size)
        have HYB := Lib.hid (HYB.out.gr hgh)
        clear hgt dgt hge dge z12 hgh
        go_wp2_with (first
          | (refine wpList_slLH _ _ _ rfl rfl rfl rfl rfl HYB.out ?_ ?_ ?_ ?_; omega; omega; omega; intro A3 hA3; have HA3 := Lib.hid hA3; clear hA3)
          | (at_builtin; refine wpList_appS (W0 := w9) (n := O.length) (m := (tt.toNat - tf.toNat)) (news := ((obj.drop tf.toNat).take (tt.toNat - tf.toNat)).map byt) elemByte rfl _ _ rfl rfl rfl HZ8.out HO8.out (sl_of HA3.out (by rw [← HOE.out]; exact HTLN.out)) (by rw [List.length_map, ← HOE.out, HTLN.out]; omega) (one_byt _) (by omega) (by decide) ?_; intro v9 w10 hO9 happ9; have HO9 := Lib.hid hO9; have HBY9 := Lib.hid happ9.grown; clear hO9 happ9))
        exact ⟨⟨k + 1, by omega, by go_num, L', O ++ objL obj (tf, tt), S', A', c', HS'.out, rnd_app HT1.out HB8.out HX8.out HQ8.out HK8r.out HLI.out HO8.out HBY9.out (by rw [List.length_append, List.map_append, HTLN.out, HOE.out]; exact HO9.out)⟩, by simp [intOf]; omega⟩
end Go.Proofs.YtflepnkpihfidaaGreatDoor.wtparts
