/- Layer 11: what a text says as a content range, by the program and by the document. Conditions: the library's own variables hold what their types allow. -/
import Derived.Test.YtnmfmcmokdoieaaGreatDoorMulti1
import Derived.Test.YtnmfmcmokdoieaaGreatDoorMultiLaw4
import Derived.Test.YtnmfmcmokdoieaaGreatDoorField7
import Derived.Lib.ParseIntBTie
import Derived.Lib.AtoiErrMem
set_option linter.unusedVariables false
set_option linter.unusedSimpArgs false
namespace Go.Proofs.YtnmfmcmokdoieaaGreatDoor
open Go.RowKit
/-- a variable holds an error, or none -/
def ErrC (w : World) (g : Nat) : Prop := ∃ ev, w.cell? ⟨g, 0, none⟩ = some ev ∧ (ev = .nilIface ∨ ∃ te pe, ev = .iface te pe)
theorem ErrC.gr {w w' : World} {k : Nat} (h : ErrC w k) (g : Gr w w') : ErrC w' k := by obtain ⟨ev, h1, h2⟩ := h; exact ⟨ev, Gr.cell g h1, h2⟩
/-- what the library's variables hold -/
structure Vars (w : World) : Prop where
  es : ErrC w 4
  er : ErrC w 5
  ml : Ml w
  pw : Pw w
theorem Vars.gr {w w' : World} (h : Vars w) (g : Gr w w') : Vars w' := ⟨h.es.gr g, h.er.gr g, h.ml.gr g, h.pw.gr g⟩
theorem parseInt_ok (s : List UInt8) (x : Int) (h : okInt (Lib.parseIntB 64 s) = some x) (w : World) (hs : s.length ≤ 281474976710656) : Calls Tryz.prog 56 #[str s, .int .i64 10, .int .i64 64] w fun e w' => e = .returned (.tuple #[.int .i64 x, .nilIface]) ∧ Gr w w' := by
  have h' : Lib.parseIntB 64 s = .ok x := by
    cases hp : Lib.parseIntB 64 s with
    | ok v => rw [hp] at h; simp only [okInt, Option.some.injEq] at h; rw [h]
    | range => rw [hp] at h; cases h
    | _ => rw [hp] at h; cases h
  refine (Tryz.strconv_ParseInt_10_at64_ok ⟨s.toArray⟩ (by show s.length ≤ _; omega) x (by simpa using h') w).mono fun e w' ⟨he, hw⟩ => ⟨he, ?_⟩
  rcases hw with rfl | ⟨t, rfl⟩
  · exact Gr.refl _
  · exact Lib.bytesWorld_below w _ t
theorem parseInt_no (s : List UInt8) (h : okInt (Lib.parseIntB 64 s) = none) (w : World) (hv : Vars w) (hs : s.length ≤ 281474976710656) : Calls Tryz.prog 56 #[str s, .int .i64 10, .int .i64 64] w fun e w' => ∃ x N, e = .returned (.tuple #[.int .i64 x, .iface 127 (.pointer (some ⟨N, 0, none⟩))]) ∧ Gr w w' := by
  cases hp : Lib.parseIntB 64 s with
  | ok v => rw [hp] at h; cases h
  | range =>
    obtain ⟨ev, h1, h2⟩ := hv.er
    exact (Tryz.strconv_ParseInt_10_at64_range ⟨s.toArray⟩ hs (by simpa using hp) ev w h1 h2).mono fun e w' ⟨N, he, _, _, hg⟩ => ⟨_, N, he, hg⟩
  | _ =>
    obtain ⟨ev, h1, h2⟩ := hv.es
    exact (Any.strconv_ParseInt_10_at64_syntax Tryz.laysC174 ⟨s.toArray⟩ hs (by simpa using hp) ev w h1 h2).mono fun e w' ⟨N, he, _, _, hg⟩ => ⟨_, N, he, hg⟩
theorem okInt_bounds {s : List UInt8} {x : Int} (h : okInt (Lib.parseIntB 64 s) = some x) : -9223372036854775808 ≤ x ∧ x ≤ 9223372036854775807 := by
  cases hp : Lib.parseIntB 64 s with
  | ok v =>
    rw [hp] at h; simp only [okInt, Option.some.injEq] at h
    have := Lib.parseIntB_bounds hp
    simp only [Nat.reduceSub, Nat.reducePow] at this
    omega
  | range => rw [hp] at h; cases h
  | _ => rw [hp] at h; cases h
theorem m_cutPre (s p : List UInt8) (w : World) : Calls Tryz.prog 34 #[str s, str p] w fun e w' => e = .returned (.tuple #[str (Lib.trimPrefix s p), .bool (p.isPrefixOf s)]) ∧ Gr w w' :=
  (Tryz.strings_CutPrefix ⟨s.toArray⟩ ⟨p.toArray⟩ w).mono fun _ _ ⟨h1, h2⟩ => ⟨by rw [h1]; rfl, by rw [h2]; exact Gr.refl _⟩
theorem m_cut (l sep : List UInt8) (w : World) (hm : Ml w) (hl : l.length < 4294967281) : Calls Tryz.prog 55 #[str l, str sep] w fun e w' => e = .returned (.tuple #[str (Lib.cut l sep).1, str (Lib.cut l sep).2.1, .bool (Lib.cut l sep).2.2]) ∧ Gr w w' := by
  obtain ⟨m, hm⟩ := hm
  exact (Tryz.strings_Cut ⟨l.toArray⟩ ⟨sep.toArray⟩ m w hl hm).mono fun _ _ ⟨h1, n, h2⟩ => ⟨by rw [h1], by rw [h2]; exact Gr.drN (Gr.refl w) n⟩
/-! ### the document's number -/
theorem num_end {s : List UInt8} {k m : Nat} (h : ¬ k < s.length) : numGo (s.drop k) k m = (m, k) := by rw [List.drop_eq_nil_of_le (by omega)]; rfl
theorem num_at {s : List UInt8} {k m : Nat} (h : k < s.length) : numGo (s.drop k) k m = if k < 19 ∧ digC s[k] = true then (if 461168601842738790 < m then (0, 0) else if 4611686018427387904 ≤ digF m s[k] then (0, 0) else numGo (s.drop (k + 1)) (k + 1) (digF m s[k])) else (m, k) := by
  rw [List.drop_eq_getElem_cons h, numGo]
theorem numC_no {c : UInt8} (h : ¬ (48 ≤ c.toNat ∧ c.toNat ≤ 57)) : digC c = false := by unfold digC; simp; omega
theorem numC_yes {c : UInt8} (h : 48 ≤ c.toNat ∧ c.toNat ≤ 57) : digC c = true := by unfold digC; simp; omega
theorem num_stop {s : List UInt8} {k m : Nat} (h : k < s.length) (hc : ¬ (k < 19 ∧ 48 ≤ s[k].toNat ∧ s[k].toNat ≤ 57)) : numGo (s.drop k) k m = (m, k) := by
  rw [num_at h, if_neg]
  rintro ⟨h1, h2⟩
  by_cases hd : 48 ≤ s[k].toNat ∧ s[k].toNat ≤ 57
  · exact hc ⟨h1, hd⟩
  · rw [numC_no hd] at h2; cases h2
end Go.Proofs.YtnmfmcmokdoieaaGreatDoor
