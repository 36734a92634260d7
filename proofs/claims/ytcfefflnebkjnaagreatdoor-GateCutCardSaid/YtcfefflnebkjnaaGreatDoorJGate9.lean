/- Several texts in one (their own heads say what each is). No conditions but those that each theorem names. -/
import Derived.Test.YtcfefflnebkjnaaGreatDoorJGate3
import Derived.Test.YtcfefflnebkjnaaGreatDoorJGate6
import Derived.Test.YtcfefflnebkjnaaGreatDoorJGate8
set_option linter.unusedVariables false
set_option linter.unusedSimpArgs false
/- XGate9 -/
namespace Go.Proofs.YtcfefflnebkjnaaGreatDoor
open Go.RowKit
def q45 : ReqT := (false, [47, 97], [(0, 4)], CondT.none0)
def b45 : List UInt8 := [71, 69, 84, 32, 47, 97, 32, 72, 84, 84, 80, 47, 49, 46, 49, 13, 10, 82, 97, 110, 103, 101, 58, 32, 98, 121, 116, 101, 115, 61, 48, 45, 52, 13, 10, 13, 10]
def f45 : List Fld := [([88], [121])]
def p45 : List PartT := [([], 1, 3), ([33], 0, 0)]
def w45 : List UInt8 := [72, 84, 84, 80, 47, 49, 46, 49, 32, 50, 48, 54, 32, 80, 97, 114, 116, 105, 97, 108, 32, 67, 111, 110, 116, 101, 110, 116, 13, 10, 88, 58, 32, 121, 13, 10, 84, 114, 97, 110, 115, 102, 101, 114, 45, 69, 110, 99, 111, 100, 105, 110, 103, 58, 32, 99, 104, 117, 110, 107, 101, 100, 13, 10, 13, 10, 51, 13, 10, 98, 99, 33, 13, 10, 48, 13, 10, 13, 10]
theorem put45 : putQ q45 = (b45, 0) := by decide +kernel
theorem whole45 : wholeR 206 f45 p45 (-1) [97, 98, 99, 100] = (w45, 0) := by decide +kernel
theorem head45 : headR 99 [] 0 = ([], 1) := by decide +kernel
theorem body45 : gBody (-1) [122] = [49, 13, 10, 122, 13, 10] := by decide +kernel
theorem end45 : gEnd (-1) false = [] := by decide +kernel
theorem ask45 : askQ (b45 ++ [109, 111, 114, 101]) = (q45, b45.length, 0) := by
  have h := askQ_back (q := q45) (by rw [put45]) [109, 111, 114, 101]
  rw [put45] at h
  exact h
/-- the walk -/
theorem none45 (x : World) : Calls Tryz.prog 38 #[] x (fun e w' => e = .returned (.agg #[.slice none 0 0, .slice none 0 0, .bool false, .bool false, .int .i64 (-1), .int .i64 (-1), str [], .bool false]) ∧ Gr x w') := condNone_any x
theorem low45 : ReqLow q45 := ⟨by decide, by decide, fun t h => absurd h (by simp [q45, CondT.none0]), fun t h => absurd h (by simp [q45, CondT.none0])⟩
theorem cput45 (A : Option Addr) (c : Nat) (w : World) (hp : Pw w) (hs : Specs w (.slice A 1 c) [(0, 4)]) : Calls Tryz.prog 16 #[.agg #[.bool false, str [47, 97], .slice A 1 c, .slice none 0 0, .slice none 0 0, .bool false, .bool false, .int .i64 (-1), .int .i64 (-1), str [], .bool false]] w (PutM w (b45, 0)) := by
  have h := gatePut_any q45 (.slice A 1 c) (.slice none 0 0) (.slice none 0 0) w hp ⟨hs, Tags.nil _, Tags.nil _⟩ low45 (by decide) (by decide)
  rw [put45] at h
  exact h
theorem cask45 (v : Value) (w : World) (hm : Ml w) (hb : Byts w v (b45 ++ [109, 111, 114, 101])) : Calls Tryz.prog 12 #[v] w fun e w' => ∃ us um un, e = .returned (.tuple #[.agg #[.bool false, str [47, 97], us, um, un, .bool false, .bool false, .int .i64 (-1), .int .i64 (-1), str [], .bool false], .int .i64 (b45.length : Nat), .int .i64 0]) ∧ ReqA w' q45 us um un ∧ Gr w w' := by
  have h := gateAsk_any v (b45 ++ [109, 111, 114, 101]) w hb hm (by decide)
  rw [ask45] at h
  refine h.mono ?_
  rintro e w' ⟨us, um, un, he, hA, hg, _⟩
  exact ⟨us, um, un, he, hA, hg⟩
theorem csame45 (v1 v2 v3 u1 u2 u3 : Value) (w : World) (h : ReqA w q45 v1 v2 v3) (k : ReqA w q45 u1 u2 u3) : Calls Tryz.prog 14 #[.agg #[.bool false, str [47, 97], v1, v2, v3, .bool false, .bool false, .int .i64 (-1), .int .i64 (-1), str [], .bool false], .agg #[.bool false, str [47, 97], u1, u2, u3, .bool false, .bool false, .int .i64 (-1), .int .i64 (-1), str [], .bool false]] w fun e w' => e = .returned (.bool true) ∧ Gr w w' := refSame45_eq q45 v1 v2 v3 u1 u2 u3 w h k
set_option maxRecDepth 100000 in
theorem cwhole45 (A1 A2 A3 : Option Addr) (c1 c2 c3 : Nat) (w : World) (hp : Pw w) (hz : Tz w) (hf : Flds w (.slice A1 1 c1) f45) (hu : Parts w (.slice A2 2 c2) p45) (hb : Byts w (.slice A3 4 c3) [97, 98, 99, 100]) : Calls Tryz.prog 26 #[.agg #[.int .i64 206, .slice A1 1 c1, .slice A2 2 c2, .int .i64 (-1)], .slice A3 4 c3] w (WEnd w (w45, 0)) := by
  have h := gateWhole_any 206 (-1) f45 (.slice A3 4 c3) A1 A2 c1 c2 p45 [97, 98, 99, 100] w hp hz hf (fun f h => by simp only [f45, List.mem_singleton] at h; subst h; simp) (by decide) (by decide) hu hb (by decide) (by decide) (fun p h => by simp only [p45, List.mem_cons, List.not_mem_nil, or_false] at h; rcases h with rfl | rfl <;> simp)
  rw [whole45] at h
  exact h
theorem chead45 (w : World) (hp : Pw w) : Calls Tryz.prog 20 #[.agg #[.int .i64 99, .slice none 0 0, .slice none 0 0, .int .i64 0]] w (PutM w ([], 1)) := by
  have h := gateHead_any 99 0 [] none 0 (.slice none 0 0) w hp (nil_fld _) (fun f h => absurd h (by simp)) (by decide) (by decide)
  rw [head45] at h
  exact h
theorem cbody45 (A1 A2 A3 : Option Addr) (c1 c2 c3 : Nat) (w : World) (hz : Tz w) (hb : Byts w (.slice A3 1 c3) [122]) : Calls Tryz.prog 22 #[.agg #[.int .i64 206, .slice A1 1 c1, .slice A2 2 c2, .int .i64 (-1)], .slice A3 1 c3] w fun e w' => ∃ A c, e = .returned (.slice A 6 c) ∧ Byts w' (.slice A 6 c) [49, 13, 10, 122, 13, 10] ∧ Gr w w' := by
  have h := gateBody_any 206 (-1) (.slice A1 1 c1) (.slice A2 2 c2) [122] (.slice A3 1 c3) w hz hb (by decide)
  rw [body45] at h
  exact h
theorem cend45 (A1 A2 : Option Addr) (c1 c2 : Nat) (w : World) : Calls Tryz.prog 24 #[.agg #[.int .i64 206, .slice A1 1 c1, .slice A2 2 c2, .int .i64 (-1)], .bool false] w fun e w' => ∃ A c, e = .returned (.slice A 0 c) ∧ Byts w' (.slice A 0 c) [] ∧ Gr w w' := by
  have h := gateEnd_any 206 (-1) (.slice A1 1 c1) (.slice A2 2 c2) false w
  rw [end45] at h
  exact h
end Go.Proofs.YtcfefflnebkjnaaGreatDoor
/- XGate9W -/
namespace Go.Proofs.YtcfefflnebkjnaaGreatDoor
open Go.RowKit
theorem sl_litF (w : World) (t : TypeId) (cs : List Value) (n : Nat) (fr : Nat × Nat) (hn : n ≤ 1000) : Sl (w.alloc (.cells cs.toArray t fr)) (.slice (some ⟨w.heap.size, 0, none⟩) n n) n cs := by
  refine ⟨_, _, rfl, Nat.le_refl _, by omega, .inr ⟨w.heap.size, 0, rfl, (Bk.new w t cs.toArray fr).lt, fun j u hu => ?_⟩⟩
  rw [Nat.zero_add, (Bk.new w t cs.toArray fr).cell j]; simpa using hu
set_option maxHeartbeats 16000000 in
set_option maxRecDepth 100000 in
theorem awake45_any (w : World) (hm : Ml w) (hp : Pw w) (hz : Tz w) : Calls Tryz.prog 11 #[] w fun e w' => e = .returned (.bool true) ∧ Gr w w' := by
  have HM := Lib.hid (fun (x : World) (g : Gr w x) => hm.gr g)
  have HP := Lib.hid (fun (x : World) (g : Gr w x) => hp.gr g)
  have HZ := Lib.hid (fun (x : World) (g : Gr w x) => hz.gr g)
  clear hm hp hz
  go_enter Tryz.func11, Tryz.ntmps11
  go_upto_region 1 with fail
  have hgs := Gr.al (Gr.refl w) (Obj.cells #[.int .i64 0, .int .i64 4] 74)
  have HS := Lib.hid (show Specs (w.alloc (Obj.cells #[.int .i64 0, .int .i64 4] 74)) (.slice (some ⟨w.heap.size, 0, none⟩) 1 1) [(0, 4)] from sl_lit w 74 [.int .i64 0, .int .i64 4] 1 (by decide))
  go_upto_region 2 with (go_at_call 38; refine (none45 _).mono ?_; rintro e w1 ⟨rfl, hg1⟩)
  refine at_world (P := Code.wp _ _ _ _) (w0 := w1.alloc (Obj.cells #[.bool false, str [47, 97], .slice (some ⟨w.heap.size, 0, none⟩) 1 1, .slice none 0 0, .slice none 0 0, .bool false, .bool false, .int .i64 (-1), .int .i64 (-1), str [], .bool false] 31)) ?_
  intro w2 hw2
  have hbq : Bk w2 w1.heap.size 31 #[.bool false, str [47, 97], .slice (some ⟨w.heap.size, 0, none⟩) 1 1, .slice none 0 0, .slice none 0 0, .bool false, .bool false, .int .i64 (-1), .int .i64 (-1), str [], .bool false] (0, 0) := by rw [hw2]; exact Bk.new w1 _ _ _
  have hg2 : Gr w1 w2 := by rw [hw2]; exact Gr.al (Gr.refl w1) _
  have HS2 := Lib.hid (HS.out.gr (Gr.tr hg1 hg2))
  have HG02 := Lib.hid (Gr.tr hgs (Gr.tr hg1 hg2))
  clear hw2 hg1 hg2 hgs HS
  generalize w1.heap.size = gq at *
  generalize w.heap.size = gs at *
  have q0 : ∀ x, Gr w2 x → x.cell? ⟨gq, 0, none⟩ = some (.bool false) := fun x h => (hbq.gr h).cell 0
  have q1 : ∀ x, Gr w2 x → x.cell? ⟨gq, 1, none⟩ = some (str [47, 97]) := fun x h => (hbq.gr h).cell 1
  have q2 : ∀ x, Gr w2 x → x.cell? ⟨gq, 2, none⟩ = some (.slice (some ⟨gs, 0, none⟩) 1 1) := fun x h => (hbq.gr h).cell 2
  have q3 : ∀ x, Gr w2 x → x.cell? ⟨gq, 3, none⟩ = some (.slice none 0 0) := fun x h => (hbq.gr h).cell 3
  have q4 : ∀ x, Gr w2 x → x.cell? ⟨gq, 4, none⟩ = some (.slice none 0 0) := fun x h => (hbq.gr h).cell 4
  have q5 : ∀ x, Gr w2 x → x.cell? ⟨gq, 5, none⟩ = some (.bool false) := fun x h => (hbq.gr h).cell 5
  have q6 : ∀ x, Gr w2 x → x.cell? ⟨gq, 6, none⟩ = some (.bool false) := fun x h => (hbq.gr h).cell 6
  have q7 : ∀ x, Gr w2 x → x.cell? ⟨gq, 7, none⟩ = some (.int .i64 (-1)) := fun x h => (hbq.gr h).cell 7
  have q8 : ∀ x, Gr w2 x → x.cell? ⟨gq, 8, none⟩ = some (.int .i64 (-1)) := fun x h => (hbq.gr h).cell 8
  have q9 : ∀ x, Gr w2 x → x.cell? ⟨gq, 9, none⟩ = some (str []) := fun x h => (hbq.gr h).cell 9
  have q10 : ∀ x, Gr w2 x → x.cell? ⟨gq, 10, none⟩ = some (.bool false) := fun x h => (hbq.gr h).cell 10
  have h22 : Gr w2 w2 := Gr.refl w2
  have HPQ := Lib.hid (cput45 (some ⟨gs, 0, none⟩) 1 w2 (HP.out _ HG02.out) HS2.out)
  clear hbq
  go_upto_region 3 with (go_at_call 16; refine HPQ.out.mono ?_; rintro e w3 hp3; obtain ⟨A3, c3, rfl, hB3, hg3, -⟩ := hp3.byts; have HB3 := Lib.hid hB3; clear hp3 hB3)
  have hG3a := Gr.al (Gr.refl w3) (Obj.cells #[] 5)
  have hbl : b45.length = 37 := by decide
  have HBL := Lib.hid hbl
  go_upto_region 4 with (first
    | (at_builtin; refine wpList_appS (W0 := w3) (n := 0) (m := b45.length) (news := b45.map byt) elemByte rfl _ _ rfl rfl rfl hG3a.size (own_nil0 w3 5 1) (HB3.out.gr hG3a) (by simp) (one_byt b45) (by rw [HBL.out]; decide) (by decide) ?_; intro v4 w4 hown4 happ4; rw [Nat.zero_add, List.nil_append] at hown4; obtain ⟨A4, c4, rfl⟩ := hown4.form; have hG34 := happ4.gr hG3a (own_nil0 w3 5 1); have HO4 := Lib.hid hown4; clear hown4 happ4)
    | (at_builtin; refine wpList_appT (W0 := w3) (s := [109, 111, 114, 101]) rfl _ _ rfl rfl rfl hG34.size HO4.out (by rw [HBL.out]; decide) ?_; intro v5 w5 hown5 hgr5; rw [← List.map_append, ← List.length_append] at hown5; obtain ⟨A5, c5, rfl⟩ := hown5.form; have hG35 := gr_append hG34 HO4.out hgr5; have HB5 := Lib.hid (own_byts hown5); have hG25 := Gr.tr hg3 hG35; clear hown5 hgr5)
    | (go_at_call 12; refine (cask45 _ _ (HM.out _ (Gr.tr HG02.out hG25)) HB5.out).mono ?_; rintro e w6 ⟨us, um, un, rfl, hA6, hg6⟩; obtain ⟨D1, d1, rfl, -, -, -⟩ := id hA6.specs.open; obtain ⟨D2, d2, rfl, -, -, -⟩ := id hA6.mt.open; obtain ⟨D3, d3, rfl, -, -, -⟩ := id hA6.no.open; have HA6 := Lib.hid hA6; clear hA6))
  have hG36 := Gr.tr hG35 hg6
  refine at_world (P := Code.wp _ _ _ _) (w0 := w6.alloc (Obj.cells #[.bool false, str [47, 97], .slice D1 (q45.2.2.1.length) d1, .slice D2 (q45.2.2.2.mt.length) d2, .slice D3 (q45.2.2.2.no.length) d3, .bool false, .bool false, .int .i64 (-1), .int .i64 (-1), str [], .bool false] 31)) ?_
  intro w7 hw7
  have hbr : Bk w7 w6.heap.size 31 #[.bool false, str [47, 97], .slice D1 (q45.2.2.1.length) d1, .slice D2 (q45.2.2.2.mt.length) d2, .slice D3 (q45.2.2.2.no.length) d3, .bool false, .bool false, .int .i64 (-1), .int .i64 (-1), str [], .bool false] (0, 0) := by rw [hw7]; exact Bk.new w6 _ _ _
  have hg7 : Gr w6 w7 := by rw [hw7]; exact Gr.al (Gr.refl w6) _
  have HA7 := Lib.hid (HA6.out.gr hg7)
  have HB7 := Lib.hid (HB3.out.gr (Gr.tr hG36 hg7))
  have h27 : Gr w2 w7 := Gr.tr hg3 (Gr.tr hG36 hg7)
  clear hw7 hG3a HB3 HA6 HPQ hG34 hG35 hG25 hg6 hg7 hG36 hg3 hbl
  generalize w6.heap.size = gr at *
  have t0 : ∀ x, Gr w7 x → x.cell? ⟨gr, 0, none⟩ = some (.bool false) := fun x h => (hbr.gr h).cell 0
  have t1 : ∀ x, Gr w7 x → x.cell? ⟨gr, 1, none⟩ = some (str [47, 97]) := fun x h => (hbr.gr h).cell 1
  have t2 : ∀ x, Gr w7 x → x.cell? ⟨gr, 2, none⟩ = some (.slice D1 (q45.2.2.1.length) d1) := fun x h => (hbr.gr h).cell 2
  have t3 : ∀ x, Gr w7 x → x.cell? ⟨gr, 3, none⟩ = some (.slice D2 (q45.2.2.2.mt.length) d2) := fun x h => (hbr.gr h).cell 3
  have t4 : ∀ x, Gr w7 x → x.cell? ⟨gr, 4, none⟩ = some (.slice D3 (q45.2.2.2.no.length) d3) := fun x h => (hbr.gr h).cell 4
  have t5 : ∀ x, Gr w7 x → x.cell? ⟨gr, 5, none⟩ = some (.bool false) := fun x h => (hbr.gr h).cell 5
  have t6 : ∀ x, Gr w7 x → x.cell? ⟨gr, 6, none⟩ = some (.bool false) := fun x h => (hbr.gr h).cell 6
  have t7 : ∀ x, Gr w7 x → x.cell? ⟨gr, 7, none⟩ = some (.int .i64 (-1)) := fun x h => (hbr.gr h).cell 7
  have t8 : ∀ x, Gr w7 x → x.cell? ⟨gr, 8, none⟩ = some (.int .i64 (-1)) := fun x h => (hbr.gr h).cell 8
  have t9 : ∀ x, Gr w7 x → x.cell? ⟨gr, 9, none⟩ = some (str []) := fun x h => (hbr.gr h).cell 9
  have t10 : ∀ x, Gr w7 x → x.cell? ⟨gr, 10, none⟩ = some (.bool false) := fun x h => (hbr.gr h).cell 10
  have h77 : Gr w7 w7 := Gr.refl w7
  clear hbr
  go_upto_region 5 with fail
  refine at_world (P := Code.wp _ _ _ _) (w0 := ((w7.alloc (Obj.cells #[str [88], str [121]] 77)).alloc (Obj.cells #[str [], .int .i64 1, .int .i64 3, str [33], .int .i64 0, .int .i64 0] 80)).alloc (Obj.cells #[.int .i64 206, .slice (some ⟨w7.heap.size, 0, none⟩) 1 1, .slice (some ⟨w7.heap.size + 1, 0, none⟩) 2 2, .int .i64 (-1)] 45)) ?_
  intro w8 hw8
  have hgf : Gr w7 (w7.alloc (Obj.cells #[str [88], str [121]] 77)) := Gr.al (Gr.refl w7) _
  have hsz : (w7.alloc (Obj.cells #[str [88], str [121]] 77)).heap.size = w7.heap.size + 1 := by simp
  have hsz2 : ((w7.alloc (Obj.cells #[str [88], str [121]] 77)).alloc (Obj.cells #[str [], .int .i64 1, .int .i64 3, str [33], .int .i64 0, .int .i64 0] 80)).heap.size = w7.heap.size + 2 := by simp
  have hgp : Gr (w7.alloc (Obj.cells #[str [88], str [121]] 77)) ((w7.alloc (Obj.cells #[str [88], str [121]] 77)).alloc (Obj.cells #[str [], .int .i64 1, .int .i64 3, str [33], .int .i64 0, .int .i64 0] 80)) := Gr.al (Gr.refl _) _
  have hga : Gr ((w7.alloc (Obj.cells #[str [88], str [121]] 77)).alloc (Obj.cells #[str [], .int .i64 1, .int .i64 3, str [33], .int .i64 0, .int .i64 0] 80)) w8 := by rw [hw8]; exact Gr.al (Gr.refl _) _
  have HF8 := Lib.hid (show Flds w8 (.slice (some ⟨w7.heap.size, 0, none⟩) 1 1) f45 from Flds.gr (show Flds (w7.alloc (Obj.cells #[str [88], str [121]] 77)) (.slice (some ⟨w7.heap.size, 0, none⟩) 1 1) f45 from sl_lit w7 77 [str [88], str [121]] 1 (by decide)) (Gr.tr hgp hga))
  have HP8 := Lib.hid (show Parts w8 (.slice (some ⟨w7.heap.size + 1, 0, none⟩) 2 2) p45 from Parts.gr (by have := sl_lit (w7.alloc (Obj.cells #[str [88], str [121]] 77)) 80 [str [], .int .i64 1, .int .i64 3, str [33], .int .i64 0, .int .i64 0] 2 (by decide); rw [hsz] at this; exact this) hga)
  have hba : Bk w8 (w7.heap.size + 2) 45 #[.int .i64 206, .slice (some ⟨w7.heap.size, 0, none⟩) 1 1, .slice (some ⟨w7.heap.size + 1, 0, none⟩) 2 2, .int .i64 (-1)] (0, 0) := by rw [hw8, ← hsz2]; exact Bk.new _ _ _ _
  have h78 : Gr w7 w8 := Gr.tr hgf (Gr.tr hgp hga)
  clear hw8 hgf hsz hsz2 hgp hga
  generalize w7.heap.size = gf at *
  have a0 : ∀ x, Gr w8 x → x.cell? ⟨gf + 2, 0, none⟩ = some (.int .i64 206) := fun x h => (hba.gr h).cell 0
  have a1 : ∀ x, Gr w8 x → x.cell? ⟨gf + 2, 1, none⟩ = some (.slice (some ⟨gf, 0, none⟩) 1 1) := fun x h => (hba.gr h).cell 1
  have a2 : ∀ x, Gr w8 x → x.cell? ⟨gf + 2, 2, none⟩ = some (.slice (some ⟨gf + 1, 0, none⟩) 2 2) := fun x h => (hba.gr h).cell 2
  have a3 : ∀ x, Gr w8 x → x.cell? ⟨gf + 2, 3, none⟩ = some (.int .i64 (-1)) := fun x h => (hba.gr h).cell 3
  have h88 : Gr w8 w8 := Gr.refl w8
  have h28 := Gr.tr h27 h78
  have HB8 := Lib.hid (HB7.out.gr h78)
  have HA8 := Lib.hid (HA7.out.gr h78)
  clear hba HB7 HA7
  have kc := fun (w : World) (C : Array Value) (n c : Nat) => Lib.run_convert_bytes_const (P := Tryz.prog) w 22 5 C n c Tryz.underlying22 Tryz.underlying5
  have HLT := Lib.hid (show Byts (w8.alloc (Obj.cells #[.int .u8 97, .int .u8 98, .int .u8 99, .int .u8 100] 5 (4, 5))) (.slice (some ⟨w8.heap.size, 0, none⟩) 4 4) [97, 98, 99, 100] from sl_litF w8 5 [.int .u8 97, .int .u8 98, .int .u8 99, .int .u8 100] 4 (4, 5) (by decide))
  have hGl := Gr.al (Gr.refl w8) (Obj.cells #[.int .u8 97, .int .u8 98, .int .u8 99, .int .u8 100] 5 (4, 5))
  go_upto_region 6 with (go_at_call 26; refine (cwhole45 _ _ _ _ _ _ _ (HP.out _ (Gr.tr HG02.out (Gr.tr h28 hGl))) (HZ.out _ (Gr.tr HG02.out (Gr.tr h28 hGl))) (HF8.out.gr hGl) (HP8.out.gr hGl) HLT.out).mono ?_; rintro e w9 ⟨A9, c9, rfl, hg9, hB9⟩; have HB9 := Lib.hid hB9; clear hB9)
  have h89 := Gr.tr hGl hg9
  have h29 := Gr.tr h28 h89
  go_upto_region 7 with (go_at_call 20; refine (chead45 _ (HP.out _ (Gr.tr HG02.out h29))).mono ?_; rintro e w10 hp10; obtain ⟨A10, c10, rfl, hg10, -⟩ := hp10)
  have h810 := Gr.tr h89 hg10
  have h710 := Gr.tr h78 h810
  have h210 := Gr.tr h27 h710
  have HB10 := Lib.hid (HB8.out.gr h810)
  have HC10 := Lib.hid (HB9.out.gr hg10)
  have HA10 := Lib.hid (HA8.out.gr h810)
  have HS10 := Lib.hid (HS2.out.gr h210)
  clear h28 h29 h89 HB8 HB9 HA8 HLT hGl hg9 hg10 HF8 HP8
  have s1 : (b45 == [71, 69, 84, 32, 47, 97, 32, 72, 84, 84, 80, 47, 49, 46, 49, 13, 10, 82, 97, 110, 103, 101, 58, 32, 98, 121, 116, 101, 115, 61, 48, 45, 52, 13, 10, 13, 10]) = true := by decide
  have s2 : (w45 == [72, 84, 84, 80, 47, 49, 46, 49, 32, 50, 48, 54, 32, 80, 97, 114, 116, 105, 97, 108, 32, 67, 111, 110, 116, 101, 110, 116, 13, 10, 88, 58, 32, 121, 13, 10, 84, 114, 97, 110, 115, 102, 101, 114, 45, 69, 110, 99, 111, 100, 105, 110, 103, 58, 32, 99, 104, 117, 110, 107, 101, 100, 13, 10, 13, 10, 51, 13, 10, 98, 99, 33, 13, 10, 48, 13, 10, 13, 10]) = true := by decide
  have t1 : (convert 22 9 (.slice A3 37 c3)).run Tryz.prog w10 = .ok (str b45) w10 := HB10.out.toStr
  have t2 : ∀ x, Gr w10 x → (convert 22 9 (.slice A9 w45.length c9)).run Tryz.prog x = .ok (str w45) x := fun x g => (HC10.out.gr g).toStr
  have h1010 : Gr w10 w10 := Gr.refl w10
  go_wp2_with (first
    | (go_at_call 14; refine (csame45 _ _ _ _ _ _ _ ⟨HS10.out, Tags.nil _, Tags.nil _⟩ HA10.out).mono ?_; rintro e w11 ⟨rfl, hg11⟩; have h811 := Gr.tr h810 hg11)
    | (go_at_call 22; refine (cbody45 _ _ _ _ _ _ _ (HZ.out _ (Gr.tr HG02.out (Gr.tr h210 (Gr.tr hg11 (Gr.al (Gr.refl w11) _))))) (sl_litF w11 5 [.int .u8 122] 1 (1, 2) (by decide))).mono ?_; rintro e w12 ⟨A12, c12, rfl, hB12, hg12⟩; have h1112 := Gr.tr (Gr.al (Gr.refl w11) _) hg12; have h812 := Gr.tr h811 h1112; have t3 := hB12.toStr; clear hB12)
    | (go_at_call 24; refine (cend45 _ _ _ _ _).mono ?_; rintro e w13 ⟨A13, c13, rfl, hB13, hg13⟩; clear hB13))
  go_ret
  exact ⟨rfl, Gr.tr HG02.out (Gr.tr h210 (Gr.tr hg11 (Gr.tr h1112 hg13)))⟩
end Go.Proofs.YtcfefflnebkjnaaGreatDoor
