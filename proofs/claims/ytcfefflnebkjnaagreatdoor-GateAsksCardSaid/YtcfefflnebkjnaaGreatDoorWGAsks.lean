/- The walk of the law GateAsks: any bytes are the request that the document says, or none's. Conditions: the library's tables and variables. -/
import Derived.Test.YtcfefflnebkjnaaGreatDoorGate9W
import Derived.Test.YtcfefflnebkjnaaGreatDoorGate6R
set_option linter.unusedVariables false
set_option linter.unusedSimpArgs false
namespace Go.Proofs.YtcfefflnebkjnaaGreatDoor.lgasks
open Go.RowKit
set_option maxHeartbeats 16000000 in
set_option maxRecDepth 100000 in
theorem walk (s : List UInt8) (v : Value) (w : World) (hm : Ml w) (hp : Pw w) (hz : Tz w) (hb : Byts w v s) (_hs : s.length ≤ 140737488355328) :
    Calls Tryz.prog 3 #[v] w fun e w' => e = .returned (.bool true) ∧ Gr w w' := by
  obtain ⟨Av, cv, rfl, _, _, _⟩ := id hb.open
  have HAW := Lib.hid (fun (x : World) (g : Gr w x) => awake45_any x (hm.gr g) (hp.gr g) (hz.gr g))
  have HBY := Lib.hid (fun (x : World) (g : Gr w x) => hb.gr g)
  have HMX := Lib.hid (fun (x : World) (g : Gr w x) => hm.gr g)
  have h00 : Gr w w := Gr.refl w
  clear hb hm hp hz
  go_enter Tryz.func3, Tryz.ntmps3
  by_cases k1 : 1200 < s.length
  · have d1 : decide (1200 < (s.length : Int)) = true := decide_eq_true (by omega)
    go_wp2_with (go_at_call 11; refine (HAW.out _ (by assumption)).mono ?_; rintro e wn ⟨rfl, hgn⟩; have hgg : Gr w wn := Gr.tr (by assumption) hgn; clear hgn)
    go_ret
    exact ⟨rfl, by assumption⟩
  have d1 : decide (1200 < (s.length : Int)) = false := decide_eq_false (by omega)
  have HAK := Lib.hid (fun (v : Value) (x : World) (g : Gr w x) (hb : Byts x v s) => gateAsk_any v s x hb (HMX.out x g) (by omega))
  have HRK := Lib.hid (fun (v : Value) (x : World) (hb : Byts x v s) => refAsk45_any v s x hb (by omega))
  generalize askQ s = R at *
  obtain ⟨q0, n, E⟩ := R
  go_upto_region 3 with (go_at_call 11; refine (HAW.out _ (by assumption)).mono ?_; rintro e wn ⟨rfl, hgn⟩; have hgg : Gr w wn := Gr.tr (by assumption) hgn; clear hgn)
  have hw1 : Gr w wn := by assumption
  have hG3a := Gr.al (Gr.refl wn) (Obj.cells #[] 5)
  go_upto_region 4 with (first
    | (at_builtin; refine wpList_appS (W0 := wn) (n := 0) (m := s.length) (news := s.map byt) elemByte rfl _ _ rfl rfl rfl hG3a.size (own_nil0 wn 5 1) (HBY.out _ (Gr.tr hw1 hG3a)) (by simp) (one_byt s) (by omega) (by decide) ?_; intro v4 w4 hown4 happ4; rw [Nat.zero_add, List.nil_append] at hown4; obtain ⟨A4, c4, rfl⟩ := hown4.form; have hG34 := happ4.gr hG3a (own_nil0 wn 5 1); have HB4 := Lib.hid (own_byts hown4); have hg4' := Gr.tr hw1 hG34; clear hown4 happ4)
    | (go_at_call 12; refine (HAK.out _ _ hg4' HB4.out).mono ?_; rintro e w5 ⟨us, um, un', rfl, hA5, hg5, hfa5, hfb5, hfc5⟩; obtain ⟨F1, F1', rfl, -, -, -⟩ := id hA5.specs.open; obtain ⟨F2, F2', rfl, -, -, -⟩ := id hA5.mt.open; obtain ⟨F3, F3', rfl, -, -, -⟩ := id hA5.no.open; have HA5 := Lib.hid hA5; clear hA5 hfa5 hfb5 hfc5))
  have hg5w := Gr.tr hg4' hg5
  refine at_world (P := Code.wp _ _ _ _) (w0 := w5.alloc (Obj.cells #[.bool q0.1, str q0.2.1, .slice F1 q0.2.2.1.length F1', .slice F2 q0.2.2.2.mt.length F2', .slice F3 q0.2.2.2.no.length F3', .bool q0.2.2.2.am, .bool q0.2.2.2.an, .int .i64 q0.2.2.2.si, .int .i64 q0.2.2.2.un, str q0.2.2.2.rg.1, .bool q0.2.2.2.rg.2] 31)) ?_
  intro w6 hw6
  have hb6 : Bk w6 w5.heap.size 31 #[.bool q0.1, str q0.2.1, .slice F1 q0.2.2.1.length F1', .slice F2 q0.2.2.2.mt.length F2', .slice F3 q0.2.2.2.no.length F3', .bool q0.2.2.2.am, .bool q0.2.2.2.an, .int .i64 q0.2.2.2.si, .int .i64 q0.2.2.2.un, str q0.2.2.2.rg.1, .bool q0.2.2.2.rg.2] (0, 0) := by rw [hw6]; exact Bk.new w5 _ _ _
  have hg6 : Gr w5 w6 := by rw [hw6]; exact Gr.al (Gr.refl w5) _
  clear hw6
  have HA6 := Lib.hid (HA5.out.gr hg6)
  have hw6 := Gr.tr hg5w hg6
  generalize w5.heap.size = g6 at *
  have t0 : ∀ x, Gr w6 x → x.cell? ⟨g6, 0, none⟩ = some (.bool q0.1) := fun x h => (hb6.gr h).cell 0
  have t1 : ∀ x, Gr w6 x → x.cell? ⟨g6, 1, none⟩ = some (str q0.2.1) := fun x h => (hb6.gr h).cell 1
  have t2 : ∀ x, Gr w6 x → x.cell? ⟨g6, 2, none⟩ = some (.slice F1 q0.2.2.1.length F1') := fun x h => (hb6.gr h).cell 2
  have t3 : ∀ x, Gr w6 x → x.cell? ⟨g6, 3, none⟩ = some (.slice F2 q0.2.2.2.mt.length F2') := fun x h => (hb6.gr h).cell 3
  have t4 : ∀ x, Gr w6 x → x.cell? ⟨g6, 4, none⟩ = some (.slice F3 q0.2.2.2.no.length F3') := fun x h => (hb6.gr h).cell 4
  have t5 : ∀ x, Gr w6 x → x.cell? ⟨g6, 5, none⟩ = some (.bool q0.2.2.2.am) := fun x h => (hb6.gr h).cell 5
  have t6 : ∀ x, Gr w6 x → x.cell? ⟨g6, 6, none⟩ = some (.bool q0.2.2.2.an) := fun x h => (hb6.gr h).cell 6
  have t7 : ∀ x, Gr w6 x → x.cell? ⟨g6, 7, none⟩ = some (.int .i64 q0.2.2.2.si) := fun x h => (hb6.gr h).cell 7
  have t8 : ∀ x, Gr w6 x → x.cell? ⟨g6, 8, none⟩ = some (.int .i64 q0.2.2.2.un) := fun x h => (hb6.gr h).cell 8
  have t9 : ∀ x, Gr w6 x → x.cell? ⟨g6, 9, none⟩ = some (str q0.2.2.2.rg.1) := fun x h => (hb6.gr h).cell 9
  have t10 : ∀ x, Gr w6 x → x.cell? ⟨g6, 10, none⟩ = some (.bool q0.2.2.2.rg.2) := fun x h => (hb6.gr h).cell 10
  have HRB := Lib.hid (HBY.out _ hw6)
  have h66 : Gr w6 w6 := Gr.refl w6
  clear hb6 HA5 hg6 hg5 hg5w
  go_upto_region 5 with (go_at_call 13; refine (HRK.out _ _ HRB.out).mono ?_; rintro e w7 ⟨us, um, un', rfl, hA7, hg7, hfa7, hfb7, hfc7⟩; obtain ⟨G1, G1', rfl, -, -, -⟩ := id hA7.specs.open; obtain ⟨G2, G2', rfl, -, -, -⟩ := id hA7.mt.open; obtain ⟨G3, G3', rfl, -, -, -⟩ := id hA7.no.open; have HA7 := Lib.hid hA7; clear hA7 hfa7 hfb7 hfc7)
  refine at_world (P := Code.wp _ _ _ _) (w0 := w7.alloc (Obj.cells #[.bool q0.1, str q0.2.1, .slice G1 q0.2.2.1.length G1', .slice G2 q0.2.2.2.mt.length G2', .slice G3 q0.2.2.2.no.length G3', .bool q0.2.2.2.am, .bool q0.2.2.2.an, .int .i64 q0.2.2.2.si, .int .i64 q0.2.2.2.un, str q0.2.2.2.rg.1, .bool q0.2.2.2.rg.2] 31)) ?_
  intro w8 hw8
  have hb8 : Bk w8 w7.heap.size 31 #[.bool q0.1, str q0.2.1, .slice G1 q0.2.2.1.length G1', .slice G2 q0.2.2.2.mt.length G2', .slice G3 q0.2.2.2.no.length G3', .bool q0.2.2.2.am, .bool q0.2.2.2.an, .int .i64 q0.2.2.2.si, .int .i64 q0.2.2.2.un, str q0.2.2.2.rg.1, .bool q0.2.2.2.rg.2] (0, 0) := by rw [hw8]; exact Bk.new w7 _ _ _
  have hg8 : Gr w7 w8 := by rw [hw8]; exact Gr.al (Gr.refl w7) _
  clear hw8
  have h68 := Gr.tr hg7 hg8
  have HSM := Lib.hid (show Calls Tryz.prog 14 #[.agg #[.bool q0.1, str q0.2.1, .slice F1 q0.2.2.1.length F1', .slice F2 q0.2.2.2.mt.length F2', .slice F3 q0.2.2.2.no.length F3', .bool q0.2.2.2.am, .bool q0.2.2.2.an, .int .i64 q0.2.2.2.si, .int .i64 q0.2.2.2.un, str q0.2.2.2.rg.1, .bool q0.2.2.2.rg.2], .agg #[.bool q0.1, str q0.2.1, .slice G1 q0.2.2.1.length G1', .slice G2 q0.2.2.2.mt.length G2', .slice G3 q0.2.2.2.no.length G3', .bool q0.2.2.2.am, .bool q0.2.2.2.an, .int .i64 q0.2.2.2.si, .int .i64 q0.2.2.2.un, str q0.2.2.2.rg.1, .bool q0.2.2.2.rg.2]] w8 (fun e w' => e = .returned (.bool true) ∧ Gr w8 w') from refSame45_eq q0 _ _ _ _ _ _ w8 (HA6.out.gr h68) (HA7.out.gr hg8))
  generalize w7.heap.size = g8 at *
  have u0 : ∀ x, Gr w8 x → x.cell? ⟨g8, 0, none⟩ = some (.bool q0.1) := fun x h => (hb8.gr h).cell 0
  have u1 : ∀ x, Gr w8 x → x.cell? ⟨g8, 1, none⟩ = some (str q0.2.1) := fun x h => (hb8.gr h).cell 1
  have u2 : ∀ x, Gr w8 x → x.cell? ⟨g8, 2, none⟩ = some (.slice G1 q0.2.2.1.length G1') := fun x h => (hb8.gr h).cell 2
  have u3 : ∀ x, Gr w8 x → x.cell? ⟨g8, 3, none⟩ = some (.slice G2 q0.2.2.2.mt.length G2') := fun x h => (hb8.gr h).cell 3
  have u4 : ∀ x, Gr w8 x → x.cell? ⟨g8, 4, none⟩ = some (.slice G3 q0.2.2.2.no.length G3') := fun x h => (hb8.gr h).cell 4
  have u5 : ∀ x, Gr w8 x → x.cell? ⟨g8, 5, none⟩ = some (.bool q0.2.2.2.am) := fun x h => (hb8.gr h).cell 5
  have u6 : ∀ x, Gr w8 x → x.cell? ⟨g8, 6, none⟩ = some (.bool q0.2.2.2.an) := fun x h => (hb8.gr h).cell 6
  have u7 : ∀ x, Gr w8 x → x.cell? ⟨g8, 7, none⟩ = some (.int .i64 q0.2.2.2.si) := fun x h => (hb8.gr h).cell 7
  have u8 : ∀ x, Gr w8 x → x.cell? ⟨g8, 8, none⟩ = some (.int .i64 q0.2.2.2.un) := fun x h => (hb8.gr h).cell 8
  have u9 : ∀ x, Gr w8 x → x.cell? ⟨g8, 9, none⟩ = some (str q0.2.2.2.rg.1) := fun x h => (hb8.gr h).cell 9
  have u10 : ∀ x, Gr w8 x → x.cell? ⟨g8, 10, none⟩ = some (.bool q0.2.2.2.rg.2) := fun x h => (hb8.gr h).cell 10
  have h88 : Gr w8 w8 := Gr.refl w8
  have s1 : ((n : Int) == n) = true := by simp
  have s2 : ((E : Int) == E) = true := by simp
  clear hb8 HA6 HA7 hg7 hg8
  go_wp2_with (go_at_call 14; refine HSM.out.mono ?_; rintro e w9 ⟨rfl, hg9⟩)
  go_ret
  exact ⟨by simp, Gr.tr hw6 (Gr.tr h68 hg9)⟩
end Go.Proofs.YtcfefflnebkjnaaGreatDoor.lgasks
