/- Layer 39: a size of any text, as the document says; the chapter's examples. The conditions: the tables lie where they were laid. -/
import Derived.Test.YtghopokdfjcjlaaDoorConf6
import Derived.Test.YtghopokdfjcjlaaDoorConf10
namespace Go.Proofs.YtghopokdfjcjlaaDoor
open Go.RowKit
set_option maxHeartbeats 2000000 in
theorem refSize39_any (s : List UInt8) (w : World) (hs : s.length ≤ 9223372036854775806) : Calls Tryd.prog 16 #[str s] w fun e w' => e = .returned (sizeV (sizeL s)) ∧ Gr w w' := by
  have HL := Lib.hid (fun (w : World) => refKind39_any s w hs)
  cases hk : kindL s with
  | none =>
    rw [hk] at HL
    have HS := Lib.hid (size_none hk)
    unfold optV at HL
    simp only [Option.getD_none, Option.isSome_none] at HL
    clear hk
    go_enter Tryd.func16, Tryd.ntmps16
    go_wp2_with (go_at_call 27; refine (HL.out _).mono ?_; rintro e w1 ⟨rfl, hG1⟩)
    go_ret2
    exact ⟨by rw [HS.out]; rfl, hG1⟩
  | some n =>
    rw [hk] at HL
    unfold optV at HL
    simp only [Option.getD_some, Option.isSome_some] at HL
    have hn := kind_le hk
    by_cases h2 : sizedL n = s
    · have HS := Lib.hid (size_yes hk h2)
      have e1 : (sizedL (n : Int) != s) = false := by simpa using h2
      have e2 : (sizedL (n : Int) == s) = true := by simpa using h2
      clear hk h2
      go_enter Tryd.func16, Tryd.ntmps16
      go_wp2_with (first | (go_at_call 27; refine (HL.out _).mono ?_; rintro e w1 ⟨rfl, hG1⟩) | (go_at_call 14; refine (refSized39_any _ _ (by omega)).mono ?_; rintro e w2 ⟨rfl, hG⟩))
      go_ret2
      exact ⟨by rw [HS.out]; rfl, Gr.tr hG1 hG⟩
    · have HS := Lib.hid (size_no hk h2)
      have e1 : (sizedL (n : Int) != s) = true := by simpa using h2
      have e2 : (sizedL (n : Int) == s) = false := by simpa using h2
      clear hk h2
      go_enter Tryd.func16, Tryd.ntmps16
      go_wp2_with (first | (go_at_call 27; refine (HL.out _).mono ?_; rintro e w1 ⟨rfl, hG1⟩) | (go_at_call 14; refine (refSized39_any _ _ (by omega)).mono ?_; rintro e w2 ⟨rfl, hG⟩))
      go_ret2
      exact ⟨by rw [HS.out]; rfl, Gr.tr hG1 hG⟩
/-- the chapter's example -/
def exL : List UInt8 := [110, 111, 100, 101, 32, 35, 32, 111, 110, 101, 10, 32, 32, 117, 110, 105, 116, 32, 56]
def exC : Cfg := ⟨8, 131072, 8388608, 16, 2, 2, 262144, 1073741824, 536870912, 32768⟩
theorem ex_parse : parseC exL = ([exC], 0, 0) := by kernel_rfl
theorem ex_lines : splitN exL = [[110, 111, 100, 101, 32, 35, 32, 111, 110, 101], [32, 32, 117, 110, 105, 116, 32, 56]] := by kernel_rfl
theorem ascii_of {s : List UInt8} (h : (s.all fun c => decide (c.toNat < 128)) = true) : Ascii s := fun c hc => of_decide_eq_true (List.all_eq_true.1 h c hc)
theorem ex_ascii : ∀ t ∈ splitN exL, Ascii (cleanL t) := by
  rw [ex_lines]
  intro t ht
  simp only [List.mem_cons, List.not_mem_nil, or_false] at ht
  rcases ht with rfl | rfl
  · exact ascii_of (by kernel_rfl)
  · exact ascii_of (by kernel_rfl)
theorem ex_sized : sizedL 1536 = [49, 53, 51, 54] ∧ sizedL 2048 = [50, 107] := ⟨by kernel_rfl, by kernel_rfl⟩
theorem dflt_right : Cfg.right ⟨65536, 131072, 8388608, 16, 2, 2, 262144, 1073741824, 536870912, 32768⟩ = true := by decide
theorem c_default_lit (w : World) : Calls Tryd.prog 11 #[] w fun e w' => e = .returned (.agg #[.int .i64 65536, .int .i64 131072, .int .i64 8388608, .int .i64 16, .int .i64 2, .int .i64 2, .int .i64 262144, .int .i64 1073741824, .int .i64 536870912, .int .i64 32768]) ∧ Gr w w' := c_default_any w
set_option maxHeartbeats 4000000 in
set_option maxRecDepth 100000 in
theorem alive39_any (w : World) (hp : Pw w) (hn : Nm w) : Calls Tryd.prog 8 #[] w fun e w' => e = .returned (.bool true) ∧ Gr w w' := by
  have HP := Lib.hid hp
  have HX := Lib.hid (c_parse_any exL w (by decide) ex_ascii hn)
  clear hp hn
  rw [ex_parse] at HX
  have s1 : (sizedL 1536 == [49, 53, 51, 54]) = true := by rw [ex_sized.1]; decide
  have s2 : (sizedL 2048 == [50, 107]) = true := by rw [ex_sized.2]; decide
  have s3 : (sizedL 0 == [48]) = true := by decide
  have s4 := dflt_right
  go_enter Tryd.func8, Tryd.ntmps8
  go_wp2_with (go_at_call 19; refine HX.out.mono ?_; rintro e w1 ⟨⟨v, rfl, hsl⟩, hG1⟩; obtain ⟨A, c, rfl, hc, hm, ho⟩ := hsl.open; obtain ⟨b, o, rfl, hb, hcell⟩ := ho 0 _ rfl; have q0 : w1.cell? ⟨b, o, none⟩ = some (.int .i64 8) := hcell 0 _ rfl; have q2 : w1.cell? ⟨b, o + 2, none⟩ = some (.int .i64 8388608) := hcell 2 _ rfl; clear hcell ho hsl)
  refine (c_default_lit _).mono ?_
  rintro e w2 ⟨rfl, hG2⟩
  have hbk := Bk.new w2 23 #[.int .i64 65536, .int .i64 131072, .int .i64 8388608, .int .i64 16, .int .i64 2, .int .i64 2, .int .i64 262144, .int .i64 1073741824, .int .i64 536870912, .int .i64 32768] (0, 0)
  have hGa := Gr.al (Gr.refl w2) (Obj.cells #[.int .i64 65536, .int .i64 131072, .int .i64 8388608, .int .i64 16, .int .i64 2, .int .i64 2, .int .i64 262144, .int .i64 1073741824, .int .i64 536870912, .int .i64 32768] 23)
  go_upto_region 3 with fail
  generalize w2.alloc (Obj.cells #[.int .i64 65536, .int .i64 131072, .int .i64 8388608, .int .i64 16, .int .i64 2, .int .i64 2, .int .i64 262144, .int .i64 1073741824, .int .i64 536870912, .int .i64 32768] 23) = w3 at *
  generalize w2.heap.size = g at *
  have hGw : Gr w w3 := Gr.tr hG1 (Gr.tr hG2 hGa)
  have r0 : ∀ x, Gr w3 x → x.cell? ⟨b, o, none⟩ = some (.int .i64 8) := fun x hx => hx.cell (hGa.cell (hG2.cell q0))
  have r2 : ∀ x, Gr w3 x → x.cell? ⟨b, o + 2, none⟩ = some (.int .i64 8388608) := fun x hx => hx.cell (hGa.cell (hG2.cell q2))
  have d0 : ∀ x, Gr w3 x → x.cell? ⟨g, 0, none⟩ = some (.int .i64 65536) := fun x hx => hx.cell (hbk.cell 0)
  have d1 : ∀ x, Gr w3 x → x.cell? ⟨g, 1, none⟩ = some (.int .i64 131072) := fun x hx => hx.cell (hbk.cell 1)
  have d2 : ∀ x, Gr w3 x → x.cell? ⟨g, 2, none⟩ = some (.int .i64 8388608) := fun x hx => hx.cell (hbk.cell 2)
  have d3 : ∀ x, Gr w3 x → x.cell? ⟨g, 3, none⟩ = some (.int .i64 16) := fun x hx => hx.cell (hbk.cell 3)
  have d4 : ∀ x, Gr w3 x → x.cell? ⟨g, 4, none⟩ = some (.int .i64 2) := fun x hx => hx.cell (hbk.cell 4)
  have d5 : ∀ x, Gr w3 x → x.cell? ⟨g, 5, none⟩ = some (.int .i64 2) := fun x hx => hx.cell (hbk.cell 5)
  have d6 : ∀ x, Gr w3 x → x.cell? ⟨g, 6, none⟩ = some (.int .i64 262144) := fun x hx => hx.cell (hbk.cell 6)
  have d7 : ∀ x, Gr w3 x → x.cell? ⟨g, 7, none⟩ = some (.int .i64 1073741824) := fun x hx => hx.cell (hbk.cell 7)
  have d8 : ∀ x, Gr w3 x → x.cell? ⟨g, 8, none⟩ = some (.int .i64 536870912) := fun x hx => hx.cell (hbk.cell 8)
  have d9 : ∀ x, Gr w3 x → x.cell? ⟨g, 9, none⟩ = some (.int .i64 32768) := fun x hx => hx.cell (hbk.cell 9)
  have HPW := Lib.hid (fun x (hx : Gr w3 x) => HP.out.gr (Gr.tr hGw hx))
  have HGw := Lib.hid hGw
  have h33 : Gr w3 w3 := Gr.refl _
  clear hG1 hG2 hGa hGw hbk q0 q2
  go_wp2_with (first | (go_at_call 13; refine (c_written_any _ _ (HPW.out _ (by assumption)) (by omega) (by omega)).mono ?_; rintro e wn ⟨rfl, hgn⟩; have hgg : Gr w3 wn := Gr.tr (by assumption) hgn; clear hgn) | (go_at_call 9; refine (c_right_lit _ _ _ _ _ _ _ _ _ _ _).mono ?_; rintro e wn ⟨rfl, hgn⟩; have hgg : Gr w3 wn := Gr.tr (by assumption) hgn; clear hgn))
  go_ret
  exact ⟨rfl, Gr.tr HGw.out (by assumption)⟩
end Go.Proofs.YtghopokdfjcjlaaDoor
