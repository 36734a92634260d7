/- Layer 45: the request of bytes, by the program. A contract; conditions: not too many bytes; the library's variable of lengths. -/
import Derived.Test.YtcfefflnebkjnaaGreatDoorGateOpen
import Derived.Test.YtcfefflnebkjnaaGreatDoorJCond2
import Derived.Test.YtcfefflnebkjnaaGreatDoorJSpec2
import Derived.Test.YtcfefflnebkjnaaGreatDoorJHead1
import Derived.Test.YtcfefflnebkjnaaGreatDoorGate2
set_option linter.unusedVariables false
set_option linter.unusedSimpArgs false
namespace Go.Proofs.YtcfefflnebkjnaaGreatDoor
open Go.RowKit
/-- cells stored one by one -/
def putCs (w : World) (g : Nat) : List Value → Nat → World
  | [], _ => w
  | v :: r, i => putCs (w.setCell ⟨g, i, none⟩ v) g r (i + 1)
theorem putCs_gr {a : World} {g : Nat} (hg : a.heap.size ≤ g) : ∀ (l : List Value) (i : Nat) (w : World), Gr a w → Gr a (putCs w g l i)
  | [], _, _, h => h
  | v :: r, i, w, h => putCs_gr hg r (i + 1) _ (h.st (p := ⟨g, i, none⟩) hg v)
theorem putCs_by {g : Nat} : ∀ (l : List Value) (i : Nat) (a w : World), a.grownBy w (some g) → a.grownBy (putCs w g l i) (some g)
  | [], _, _, _, h => h
  | v :: r, i, a, w, h => putCs_by r (i + 1) a _ (by_st h i v)
theorem putCs_sl {v : Value} {n : Nat} {cs : List Value} {g : Nat} (hne : v.ownBlock ≠ some g) : ∀ (l : List Value) (i : Nat) (w : World), Sl w v n cs → Sl (putCs w g l i) v n cs
  | [], _, _, h => h
  | u :: r, i, w, h => putCs_sl hne r (i + 1) _ (Sl.st h hne i u)
theorem putCs_go {g : Nat} {t : TypeId} {fr : Nat × Nat} : ∀ (l pre : List Value) (cs : List Value) (w : World), cs.length = l.length → Bk w g t (pre ++ cs).toArray fr → Bk (putCs w g l pre.length) g t (pre ++ l).toArray fr
  | [], pre, cs, w, hl, h => by
    have : cs = [] := List.eq_nil_of_length_eq_zero hl
    rw [this] at h; exact h
  | v :: r, pre, cs, w, hl, h => by
    cases cs with
    | nil => simp at hl
    | cons c cs =>
      have h1 := Bk.set h pre.length v
      have e : (pre ++ c :: cs).toArray.setIfInBounds pre.length v = ((pre ++ [v]) ++ cs).toArray := by
        simp
      rw [e] at h1
      have h2 := putCs_go r (pre ++ [v]) cs _ (by simpa using hl) h1
      have e2 : (pre ++ [v]).length = pre.length + 1 := by simp
      rw [e2] at h2
      have e3 : pre ++ [v] ++ r = pre ++ v :: r := by simp
      rw [e3] at h2
      exact h2
theorem putCs_bk {w : World} {g : Nat} {t : TypeId} {cs : Array Value} {fr : Nat × Nat} {l : List Value} (h : Bk w g t cs fr) (hl : cs.size = l.length) : Bk (putCs w g l 0) g t l.toArray fr := by
  have := putCs_go l [] cs.toList w (by simpa using hl) (by simpa using h)
  simpa using this
theorem at_world {P : World → Prop} {w0 : World} (h : ∀ wy, wy = w0 → P wy) : P w0 := h _ rfl
def zq : List Value := [.bool false, str [], .slice none 0 0, .slice none 0 0, .slice none 0 0, .bool false, .bool false, .int .i64 0, .int .i64 0, str [], .bool false]
/-- how a request comes back -/
def AskEnd (w : World) (r : ReqT × Nat × Nat) (e : Ending) (w' : World) : Prop := ∃ vs vm vn, e = .returned (.tuple #[.agg #[.bool r.1.1, str r.1.2.1, vs, vm, vn, .bool r.1.2.2.2.am, .bool r.1.2.2.2.an, .int .i64 r.1.2.2.2.si, .int .i64 r.1.2.2.2.un, str r.1.2.2.2.rg.1, .bool r.1.2.2.2.rg.2], .int .i64 (r.2.1 : Nat), .int .i64 (r.2.2 : Nat)]) ∧ ReqA w' r.1 vs vm vn ∧ Gr w w' ∧ Fresh w vs ∧ Fresh w vm ∧ Fresh w vn
theorem reqA_zero (w : World) : ReqA w ReqT.zero (.slice none 0 0) (.slice none 0 0) (.slice none 0 0) := ⟨Specs.nil _, Tags.nil _, Tags.nil _⟩
theorem ask_zero {w wx : World} {g : Nat} (n : Nat) (h : Gr w wx) (hg : w.heap.size ≤ g) : AskEnd w (ReqT.zero, 0, n) (.returned (.tuple #[.agg #[.bool false, str [], .slice none 0 0, .slice none 0 0, .slice none 0 0, .bool false, .bool false, .int .i64 0, .int .i64 0, str [], .bool false], .int .i64 0, .int .i64 (n : Nat)])) (putCs wx g zq 0) :=
  ⟨.slice none 0 0, .slice none 0 0, .slice none 0 0, rfl, reqA_zero _, putCs_gr hg _ _ _ h, fresh_nil _, fresh_nil _, fresh_nil _⟩
def CondEndX (C : CondT) (ec : Nat) (w : World) (e : Ending) (w' : World) : Prop := ∃ A1 c1 A2 c2, e = .returned (.tuple #[.agg #[.slice A1 C.mt.length c1, .slice A2 C.no.length c2, .bool C.am, .bool C.an, .int .i64 C.si, .int .i64 C.un, str C.rg.1, .bool C.rg.2], .int .i64 (ec : Nat)]) ∧ Tags w' (.slice A1 C.mt.length c1) C.mt ∧ Tags w' (.slice A2 C.no.length c2) C.no ∧ Gr w w' ∧ Fresh w (.slice A1 C.mt.length c1) ∧ Fresh w (.slice A2 C.no.length c2)
theorem condEndX {C : CondT} {ec : Nat} {w w' : World} {e : Ending} (h : CondEnd (C, ec) w e w') : CondEndX C ec w e w' := h
theorem askF_coded {T : HeadT} {n : Nat} (h : ofN T.2.2.2 codingN ≠ []) : askF T n = (ReqT.zero, 0, 2) := by unfold askF; rw [if_pos h]
theorem askF_sized {T : HeadT} {n : Nat} (h : ofN T.2.2.2 codingN = []) (h2 : (ofN T.2.2.2 lengthN).all (· == [48]) = false) : askF T n = (ReqT.zero, 0, 2) := by unfold askF; rw [if_neg (fun k => k h), if_pos h2]
theorem askF_good {T : HeadT} {n : Nat} (h : ofN T.2.2.2 codingN = []) (h2 : (ofN T.2.2.2 lengthN).all (· == [48]) = true) : askF T n = if (condP T.2.2.2).2 ≠ 0 then (ReqT.zero, 0, (condP T.2.2.2).2) else ((T.1 == headB, T.2.1, rngV (ofN T.2.2.2 rngN), (condP T.2.2.2).1), n, 0) := by unfold askF; rw [if_neg (fun k => k h), if_neg (by rw [h2]; simp)]
theorem mid_of {fs : List Fld} (h : fs.all right = true ∧ fs.length ≤ 100) : Mid fs := ⟨by omega, fun f hf => by have := right_len (List.all_eq_true.1 h.1 f hf); omega⟩
theorem specs_ne {w : World} {v : Value} {g : Nat} (h : Fresh w v) (hg : g < w.heap.size) : v.ownBlock ≠ some g := fun e => by have := h g e; omega
end Go.Proofs.YtcfefflnebkjnaaGreatDoor
