/- Layer 11's law on reading a body of ranges: the walk. Conditions: the library's own variables hold what their types allow. -/
import Derived.Test.YtnmfmcmokdoieaaDoorMulti14
import Derived.Test.YtnmfmcmokdoieaaDoorMulti15
set_option linter.unusedVariables false
set_option linter.unusedSimpArgs false
namespace Go.Proofs.YtnmfmcmokdoieaaDoor.lmreads
open Go.RowKit
theorem pieces_nil (w : World) : Pieces w (.slice none 0 0) [] := ⟨[], rfl, ⟨none, 0, rfl, Nat.le_refl _, by simp, .inl rfl⟩, by simp⟩
theorem Pieces.gr {w w' : World} {v : Value} {ps : List PieceT} (h : Pieces w v ps) (g : Gr w w') : Pieces w' v ps := by
  obtain ⟨L, h1, h2, h3⟩ := h
  exact ⟨L, h1, h2.gr g, fun x hx => (h3 x hx).gr g⟩
set_option maxHeartbeats 8000000 in
set_option maxRecDepth 100000 in
theorem walk (u : Value) (s0 bnd : List UInt8) (w : World) (hv : Vars w) (hu : Byts w u s0) (h0 : s0.length ≤ 9223372036854775807) (h1 : bnd.length ≤ 9223372036854775807) :
    Calls Tryd.prog 4 #[u, str bnd] w fun e w' => e = .returned (.bool true) ∧ Gr w w' := by
  have HV := Lib.hid (fun (x : World) (h : Gr w x) => hv.gr h); clear hv
  obtain ⟨A, c, rfl, hc, hmx, _⟩ := hu.open
  have HU := Lib.hid hu; clear hu
  have HAL := Lib.hid (alive11_any w (HV.out w (Gr.refl w)))
  go_enter Tryd.func4, Tryd.ntmps4
  go_upto_region 3 with (go_at_call 7; refine HAL.out.mono ?_; rintro e w1 ⟨rfl, hG1⟩)
  by_cases k1 : 3000 < s0.length
  · have d1 : decide (3000 < (s0.length : Int)) = true := decide_eq_true (by omega)
    go_wp2_with fail
    go_ret
    exact ⟨rfl, hG1⟩
  have d1 : decide (3000 < (s0.length : Int)) = false := decide_eq_false (by omega)
  by_cases k2 : 200 < bnd.length
  · have d2 : decide (200 < (bnd.length : Int)) = true := decide_eq_true (by omega)
    go_wp2_with fail
    go_ret
    exact ⟨rfl, hG1⟩
  have d2 : decide (200 < (bnd.length : Int)) = false := decide_eq_false (by omega)
  have HP := Lib.hid (fun (x : World) (h : Gr w x) => read_any _ s0 bnd x (HV.out x h) (HU.out.gr h) (by omega) (by omega))
  have HQ := Lib.hid (fun (x : World) (h : Gr w x) => refRead_any _ s0 bnd x (HU.out.gr h) (by omega) (by omega))
  generalize multiL bnd s0 = q at *
  cases q with
  | inl n =>
    go_wp2_with (first
      | (go_at_call 12; refine (HP.out _ hG1).mono ?_; rintro e w2 ⟨hG2, rfl⟩; have hGw2 := Gr.tr hG1 hG2)
      | (go_at_call 13; refine (HQ.out _ hGw2).mono ?_; rintro e w3 ⟨hG3, rfl⟩; have hGw3 := Gr.tr hGw2 hG3)
      | (go_at_call 14; refine (pieces_same _ _ [] _ (pieces_nil _) (pieces_nil _)).mono ?_; rintro e w4 ⟨rfl, hG4⟩))
    go_ret
    exact ⟨rfl, Gr.tr hGw3 hG4⟩
  | inr ps =>
    go_wp2_with (first
      | (go_at_call 12; refine (HP.out _ hG1).mono ?_; rintro e w2 ⟨hG2, v2, rfl, hp2⟩; have HP2 := Lib.hid hp2; clear hp2; have hGw2 := Gr.tr hG1 hG2)
      | (go_at_call 13; refine (HQ.out _ hGw2).mono ?_; rintro e w3 ⟨hG3, v3, rfl, hp3⟩; have HP3 := Lib.hid hp3; clear hp3; have hGw3 := Gr.tr hGw2 hG3)
      | (go_at_call 14; refine (pieces_same _ _ ps _ (Pieces.gr HP2.out hG3) HP3.out).mono ?_; rintro e w4 ⟨rfl, hG4⟩))
    go_ret
    exact ⟨rfl, Gr.tr hGw3 hG4⟩
end Go.Proofs.YtnmfmcmokdoieaaDoor.lmreads
