/- Layer 16's law: a text as bytes; a reader for a request of the whole; bytes handed to a reader. Contracts and laws of the run. -/
import Derived.Test.YtdmhjabnjbpliaaGreatDoorClient12
import Derived.Test.YtdmhjabnjbpliaaGreatDoorJChunk
set_option linter.unusedVariables false
set_option linter.unusedSimpArgs false
namespace Go.Proofs.YtdmhjabnjbpliaaGreatDoor
open Go.RowKit
/-- '[]byte(s)', as a run -/
theorem toBytsM_run (w : World) (l : List UInt8) (hl : l.length ≤ 1000000000) : ∃ A c w', (convert 9 30 (str l)).run Tryz.prog w = .ok (.slice A l.length c) w' ∧ OwnM w w' (.slice A l.length c) l ∧ Gr w w' := by
  have hr := run_bytes_of_string (P := Tryz.prog) w 9 30 5 ⟨l.toArray⟩ Tryz.underlying9 Tryz.underlying30 Tryz.underlying5
  have hg := grownCap_ge w l.length 0 5
  have hg2 := grownCap_le_maxLen w l.length 0 5 (by unfold maxLen; omega)
  have hsz : (bytesRow ⟨l.toArray⟩ (grownCap w l.length 0 5)).size = grownCap w l.length 0 5 := by
    simp [bytesRow]; show l.length + (grownCap w l.length 0 5 - l.length) = _; omega
  refine ⟨_, _, _, hr, ⟨w.heap.size, _, bytesRow ⟨l.toArray⟩ (grownCap w l.length 0 5), ((bytesRow ⟨l.toArray⟩ (grownCap w l.length 0 5)).size, (bytesRow ⟨l.toArray⟩ (grownCap w l.length 0 5)).size + 1), rfl, Nat.le_refl _, heap_alloc_new w.drew _, .inr (Nat.le_refl _), hg, hg2, hsz, ?_⟩, Gr.al (Gr.dr (Gr.refl w)) _⟩
  unfold bytesRow
  rw [Array.toList_append, List.take_append_of_le_length (by simp)]
  simp
  exact List.take_of_length_le (by simp)
/-- a reader for a request of the whole -/
theorem newPlain_any (W0 x : World) (h : Gr W0 x) : Calls Tryz.prog 12 #[.agg #[.bool false, str [47, 97], .slice none 0 0, .slice none 0 0, .slice none 0 0, .bool false, .bool false, .int .i64 (-1), .int .i64 (-1), str [], .bool false]] x (fun e w' => Gr x w' ∧ ∃ g, e = .returned (.tuple #[.pointer (some ⟨g, 0, none⟩), .int .i64 0]) ∧ ClR W0 w' g [g] getB false false (.head []) ∧ x.heap.size ≤ g) := by
  refine (kNew_any W0 x h plainQ _ _ _ (plainQ_at x) plainQ_low (by decide) (by decide)).mono ?_
  intro e w' hn
  unfold NewEnd at hn
  rw [plainQ_ok] at hn
  exact hn
/-- bytes that were made behind the reader -/
theorem take_own {W0 w w' : World} {g : Nat} {S : List Nat} {asked : List UInt8} {s : ClS} {l : List UInt8} {A : Option Addr} {c : Nat} (hR : ClR W0 w g S asked false false s) (hG : Gr W0 w) (hv : Vars W0) (hM : OwnM w w' (.slice A l.length c) l) (hg : Gr w w') (hsz : s.sz + l.length ≤ 60000) :
    Calls Tryz.prog 13 #[.pointer (some ⟨g, 0, none⟩), .slice A l.length c] w' (TakeC W0 w' g S asked (l.foldl (clByte asked) s)) :=
  take_any W0 w' g w'.heap.size S asked s l _ (hR.gr hg) (Gr.tr hG hg) hv ⟨hM.byts, .inr fun b hb => ⟨(hM.lt b hb).2, fun hm => by have := hR.hi b hm; have := (hM.lt b hb).1; omega⟩⟩ (Nat.le_refl _) hsz
/-- bytes that were there ahead of the reader -/
theorem bytsF_arg {W w : World} {S : List Nat} {u : Value} {l : List UInt8} (hb : Byts W u l) (g : Gr W w) (hS : ∀ k ∈ S, W.heap.size ≤ k) : BytsF W.heap.size S w u l := by
  refine ⟨hb.gr g, ?_⟩
  obtain ⟨A, c, rfl, -, -, h⟩ := hb
  rcases h with h | ⟨b, o, rfl, hlt, -⟩
  · refine .inl ?_
    cases l with
    | nil => rfl
    | cons _ _ => simp at h
  · refine .inr fun b' hb' => ?_
    have e : b = b' := by simpa [Value.ownBlock] using hb'
    subst e
    exact ⟨hlt, fun hm => by have := hS b hm; omega⟩
theorem take_arg {W W0 w : World} {g : Nat} {S : List Nat} {asked : List UInt8} {s : ClS} {l : List UInt8} {u : Value} (hR : ClR W0 w g S asked false false s) (hG : Gr W0 w) (hv : Vars W0) (hW : Gr W W0) (hb : Byts W u l) (hsz : s.sz + l.length ≤ 60000) :
    Calls Tryz.prog 13 #[.pointer (some ⟨g, 0, none⟩), u] w (TakeC W0 w g S asked (l.foldl (clByte asked) s)) :=
  take_any W0 w g W.heap.size S asked s l u hR hG hv (bytsF_arg hb (Gr.tr hW hG) (fun k hk => Nat.le_trans hW.size (hR.lo k hk))) (Nat.le_trans hW.size hG.size) hsz
end Go.Proofs.YtdmhjabnjbpliaaGreatDoor
