/- Words that all walks of this seat share: strings as lists of bytes, worlds that have only grown, slices that read as lists of cells. No conditions. -/
import Derived.WalkKit
import Derived.WalkSpells
import Derived.WalkLawsBesides
import Derived.Deep.QuietTactic
import Derived.Deep.Draws
import Derived.BigQuiet
import Derived.Lib.Hide
import Derived.Lib.TrimByte
import Derived.Lib.Slices
import Derived.Lib.Strings
import Derived.Deep.RegionHeld3
import Derived.Deep.DeepCutAuto
set_option linter.unusedVariables false
set_option linter.unusedSimpArgs false
namespace Go.Proofs.YtnmfmcmokdoieaaGreatDoor
open Go.RowKit

/-- a text as a value -/
abbrev str (l : List UInt8) : Value := .string ⟨l.toArray⟩

theorem ba_get (l : List UInt8) (k : Nat) (h : k < (⟨l.toArray⟩ : ByteArray).size) : (⟨l.toArray⟩ : ByteArray)[k]'h = l[k]'h := rfl
theorem ba_extract (l : List UInt8) (a b : Nat) : (⟨l.toArray⟩ : ByteArray).extract a b = ⟨((l.drop a).take (b - a)).toArray⟩ := ByteArray.extract_mk l a b
theorem take_drop_end (l : List UInt8) (n : Nat) : (l.drop n).take (l.length - n) = l.drop n := List.take_of_length_le (by simp)
theorem ba_append (a b : List UInt8) : (⟨a.toArray⟩ : ByteArray) ++ (⟨b.toArray⟩ : ByteArray) = ⟨(a ++ b).toArray⟩ := by
  apply ByteArray.ext; simp
attribute [go_sem] ba_get ba_extract take_drop_end ba_append

theorem strSize_str (l : List UInt8) : Lib.strSize (str l) = l.length := rfl
theorem nil_or_snoc {α : Type} (l : List α) : l = [] ∨ ∃ t c, l = t ++ [c] := by
  rcases List.eq_nil_or_concat l with h | ⟨t, c, h⟩
  · exact .inl h
  · exact .inr ⟨t, c, by rw [h, List.concat_eq_append]⟩

/-- all that was there is as it was -/
abbrev Gr (w w' : World) : Prop := Below w.heap.size w w'
theorem Gr.refl (w : World) : Gr w w := Below.refl _ _
theorem Gr.tr {a b c : World} (h : Gr a b) (k : Gr b c) : Gr a c := Below.trans h (Below.mono k h.size)
theorem Gr.dr {a b : World} (h : Gr a b) : Gr a b.drew := Below.drew h
theorem Gr.drN {a b : World} (h : Gr a b) (n : Nat) : Gr a (b.drewN n) := ⟨h.os, h.tape, h.output, h.size, h.block⟩
theorem Gr.al {a b : World} (h : Gr a b) (o : Obj) : Gr a (b.alloc o) := Below.alloc h h.size o
theorem Gr.st {a b : World} (h : Gr a b) {p : Addr} (hp : a.heap.size ≤ p.block) (u : Value) : Gr a (b.setCell p u) := Below.setCell h hp u
theorem Gr.cell {a b : World} (h : Gr a b) {p : Addr} {v : Value} (hc : a.cell? p = some v) : b.cell? p = some v := by
  rw [Below.cell h ?_]; exact hc
  rcases Nat.lt_or_ge p.block a.heap.size with hl | hg
  · exact hl
  · simp [World.cell?, Array.getElem?_eq_none hg] at hc

theorem Gr.by {a b : World} (h : Gr a b) (r : Option Nat) : a.grownBy b r := ⟨h.os, h.tape, h.output, h.size, fun k hk _ => h.block k hk⟩

/-- block g, whole -/
def Bk (w : World) (g : Nat) (t : TypeId) (cs : Array Value) (fr : Nat × Nat) : Prop := w.heap[g]? = some (.cells cs t fr)
theorem Bk.lt {w : World} {g t cs fr} (h : Bk w g t cs fr) : g < w.heap.size := by
  rcases Nat.lt_or_ge g w.heap.size with hl | hl
  · exact hl
  · unfold Bk at h; rw [Array.getElem?_eq_none hl] at h; cases h
theorem Bk.cell {w : World} {g t cs fr} (h : Bk w g t cs fr) (i : Nat) : w.cell? ⟨g, i, none⟩ = cs[i]? := by
  unfold Bk at h; simp [World.cell?, h]
theorem Bk.free {w : World} {g t cs fr} (h : Bk w g t cs fr) (i : Nat) (hi : i < fr.1 ∨ fr.2 ≤ i) : w.frozen? ⟨g, i, none⟩ = false := by
  unfold Bk at h; obtain ⟨lo, hi'⟩ := fr; simp [World.frozen?, h]; intro; omega
theorem Bk.new (w : World) (t : TypeId) (cs : Array Value) (fr : Nat × Nat) : Bk (w.alloc (.cells cs t fr)) w.heap.size t cs fr := by
  show (w.heap.push _)[w.heap.size]? = _; simp
theorem Bk.set {w : World} {g t cs fr} (h : Bk w g t cs fr) (i : Nat) (u : Value) : Bk (w.setCell ⟨g, i, none⟩ u) g t (cs.setIfInBounds i u) fr := by
  unfold Bk at *; simp [World.setCell, Array.getElem?_modify, h]
theorem Bk.far {w : World} {g t cs fr} (h : Bk w g t cs fr) {p : Addr} (hp : g ≠ p.block) (u : Value) : Bk (w.setCell p u) g t cs fr := (Below.heap_setCell w p u g hp).trans h
theorem Bk.al {w : World} {g t cs fr} (h : Bk w g t cs fr) (o : Obj) : Bk (w.alloc o) g t cs fr := (Below.heap_alloc w o g h.lt).trans h
theorem Bk.gr {w w' : World} {g t cs fr} (h : Bk w g t cs fr) (k : Gr w w') : Bk w' g t cs fr := (k.block g h.lt).trans h

/-- a slice of n elements that reads as the cells cs -/
def Sl (w : World) (v : Value) (n : Nat) (cs : List Value) : Prop :=
  ∃ A c, v = .slice A n c ∧ n ≤ c ∧ n ≤ 9223372036854775807 ∧ (cs = [] ∨ ∃ b o, A = some ⟨b, o, none⟩ ∧ b < w.heap.size ∧ ∀ (j : Nat) u, cs[j]? = some u → w.cell? ⟨b, o + j, none⟩ = some u)
theorem Sl.gr {w w' : World} {v : Value} {n : Nat} {cs : List Value} (h : Sl w v n cs) (g : Gr w w') : Sl w' v n cs := by
  obtain ⟨A, c, hv, hc, hm, h⟩ := h
  refine ⟨A, c, hv, hc, hm, ?_⟩
  rcases h with h | ⟨b, o, hA, hb, hj⟩
  · exact .inl h
  · exact .inr ⟨b, o, hA, Nat.lt_of_lt_of_le hb g.size, fun j u hu => Gr.cell g (hj j u hu)⟩

/-- a world that has grown out of w, as a word that the walk sees through -/
structure Grw (w : World) where
  val : World
  gr : Gr w val
instance (w : World) : Nonempty (Grw w) := ⟨⟨w, Gr.refl w⟩⟩
def gw (w : World) (i : Grw w) : World := i.val
theorem gw_gr (w : World) (i : Grw w) : Gr w (gw w i) := i.gr
theorem gw_ex {w w' : World} (h : Gr w w') : ∃ i, w' = gw w i := ⟨⟨w', h⟩, rfl⟩
/-- a region that draws its order, whose operations only read and whose calls only make new memory: one walk -/
theorem wp_region_gw {P : Program} {id : Nat} {Q : Exit → Act → World → Prop} {a : Act} {w : World} {l : List Oper} (hm : P.follows .mixedOrders = true) (hB : Region.lexB .any l.toArray = true)
    (h : wpQuiet P l.toArray (fun w' => ∃ i, w' = gw w i) (fun a' => ∀ w', (∃ i, w' = gw w i) → Q .normal a' w') l a) : (Code.region id l.toArray true).wp P Q a w :=
  wp_region_quiet (C := fun w' => ∃ i, w' = gw w i) hm hB (gw_ex (Gr.dr (Gr.refl w))) (by simpa using h)
theorem gw_call {P : Program} {f : FuncId} {args : Array Value} {w : World} {i : Grw w} {v : Value}
    (h : Calls P f args (gw w i) fun e w' => e = .returned v ∧ Gr (gw w i) w') : Calls P f args (gw w i) fun e w'' => e = .returned v ∧ ∃ j, w'' = gw w j :=
  h.mono fun _ _ ⟨he, hm⟩ => ⟨he, gw_ex (Gr.tr (gw_gr w i) hm)⟩

/-- a list of texts -/
def Strs (w : World) (v : Value) (xs : List (List UInt8)) : Prop := Sl w v xs.length (xs.map str)
/-- a list of fields: name and value -/
def flat2 (fs : List (List UInt8 × List UInt8)) : List Value := fs.flatMap fun f => [str f.1, str f.2]
def Flds (w : World) (v : Value) (fs : List (List UInt8 × List UInt8)) : Prop := Sl w v fs.length (flat2 fs)
theorem Strs.gr {w w' : World} {v : Value} {xs} (h : Strs w v xs) (g : Gr w w') : Strs w' v xs := Sl.gr h g
theorem Flds.gr {w w' : World} {v : Value} {xs} (h : Flds w v xs) (g : Gr w w') : Flds w' v xs := Sl.gr h g
end Go.Proofs.YtnmfmcmokdoieaaGreatDoor
