/- strings.SplitSeq at a separator of one byte: the texts between; its iterator as a range over a function takes it. No conditions. -/
import Derived.Test.YtdmhjabnjbpliaaGreatDoorShelf
import Derived.Test.YtdmhjabnjbpliaaGreatDoorJWords
import Derived.Lib.IndexLaws
set_option linter.unusedVariables false
set_option linter.unusedSimpArgs false
namespace Go.Proofs.YtdmhjabnjbpliaaGreatDoor
open Go.RowKit

/-- a text, cut at a byte -/
def splitC (c : UInt8) : List UInt8 → List (List UInt8)
  | [] => [[]]
  | b :: t => if b == c then [] :: splitC c t else match splitC c t with
    | [] => [[b]]
    | x :: r => (b :: x) :: r
theorem splitC_ne (c : UInt8) (s : List UInt8) : splitC c s ≠ [] := by
  cases s with
  | nil => simp [splitC]
  | cons b t => unfold splitC; split <;> (try split) <;> simp
theorem splitC_last (c : UInt8) : ∀ (t : List UInt8), Lib.indexByte t c = -1 → splitC c t = [t]
  | [], _ => rfl
  | b :: t, h => by
    unfold Lib.indexByte at h
    unfold splitC
    by_cases hb : (b == c) = true
    · rw [if_pos hb] at h; omega
    · rw [if_neg hb] at h ⊢
      by_cases h1 : (Lib.indexByte t c == -1) = true
      · rw [splitC_last c t (by simpa using h1)]
      · rw [if_neg h1] at h
        have := Lib.indexByte_ge t c
        have h1' : Lib.indexByte t c ≠ -1 := by simpa using h1
        omega
theorem splitC_hit (c b : UInt8) (t : List UInt8) (h : (b == c) = true) : splitC c (b :: t) = [] :: splitC c t := by
  rw [splitC, if_pos h]
theorem splitC_miss (c b : UInt8) (t x : List UInt8) (r : List (List UInt8)) (h : ¬ (b == c) = true) (hr : splitC c t = x :: r) : splitC c (b :: t) = (b :: x) :: r := by
  rw [splitC, if_neg h, hr]
theorem splitC_at (c : UInt8) : ∀ (t : List UInt8) (k : Nat), Lib.indexByte t c = k → k < t.length ∧ splitC c t = t.take k :: splitC c (t.drop (k + 1))
  | [], k, h => by unfold Lib.indexByte at h; omega
  | b :: t, k, h => by
    unfold Lib.indexByte at h
    by_cases hb : (b == c) = true
    · rw [if_pos hb] at h
      obtain rfl : k = 0 := by omega
      exact ⟨by simp, splitC_hit c b t hb⟩
    · rw [if_neg hb] at h
      by_cases h1 : (Lib.indexByte t c == -1) = true
      · rw [if_pos h1] at h; omega
      · rw [if_neg h1] at h
        have := Lib.indexByte_ge t c
        have h1' : Lib.indexByte t c ≠ -1 := by simpa using h1
        obtain ⟨j, rfl⟩ : ∃ j, k = j + 1 := ⟨k - 1, by omega⟩
        have hj := splitC_at c t j (by omega)
        exact ⟨by simp; omega, splitC_miss c b t _ _ hb hj.2⟩

/-- one plain operation of a region that calls yield -/
theorem wpY_plain {P : Program} {ops : Array Oper} {Q : Exit → Act → World → Prop} {o : Oper} {rest : List Oper} {a : Act} {w : World} (hg : o.guard = none)
    (h : ∀ K : Act → World → Prop, (∀ a w, wpListIn Fence.wide 0 P ops Q rest a w → K a w) → o.wp P a w K Q) : wpListIn Fence.wide 0 P ops Q (o :: rest) a w := by
  refine wpListIn_plain hg fun K hK => ⟨fun _ _ => trivial, ?_⟩
  rw [Fence.wide_round, Oper.semAt_none]
  have h := h K hK
  unfold Oper.wp at h
  generalize (execOp a.eval o).run P w = r at *
  cases r with
  | ok x w' =>
    cases x <;> simp only [Oper.upon] at h <;> simp only [Oper.uponIn] <;>
      first
        | exact h
        | exact ⟨fun hx => by simp [Fence.wide] at hx, callsIn_wide.2 h⟩
        | exact ⟨fun hx => by simp [Fence.wide] at hx, fun c cs _ => let ⟨v, w', r, s⟩ := h c cs; ⟨v, w', r, stepsIn_wide.2 s⟩⟩
  | halt x w' => cases x <;> simp only [Oper.upon] at h <;> simp only [Oper.uponIn] <;> exact h
/-- the call of yield -/
theorem wpY_yield {P : Program} {ops : Array Oper} {Q : Exit → Act → World → Prop} {o : Oper} {rest : List Oper} {a : Act} {w : World} (hg : o.guard = none) {l : Nat} {args : Array Value} {R : Ending → World → Prop}
    (hy : YieldAt Fence.wide 0 P l args w R) (hrun : ∀ r, (Instr.yield l args).run P w = r → (execOp a.eval o).run P w = r)
    (h : ∀ e w', R e w' → ∃ v, e = .returned v ∧ wpListIn Fence.wide 0 P ops Q rest (a.put o.dst v) w') : wpListIn Fence.wide 0 P ops Q (o :: rest) a w := by
  refine wpListIn_plain hg fun K hK => ⟨fun _ _ => trivial, ?_⟩
  rw [Fence.wide_round, Oper.semAt_none]
  obtain ⟨fn, tmps, assign, body, hy, hR⟩ := hy
  rw [hrun _ hy]
  refine ⟨fun hx => by simp [Fence.wide] at hx, hR.mono fun e w' hr => ?_⟩
  obtain ⟨v, rfl, h2⟩ := h e w' hr
  exact hK _ _ h2
theorem wpY_region {P : Program} {id : Nat} {os : List Oper} {Q : Exit → Act → World → Prop} {a : Act} {w : World} (h : wpListIn Fence.wide 0 P os.toArray Q os a w) : (Code.region id os.toArray false).wp P Q a w :=
  (wpIn_wide (n := 0)).1 (wpIn_region_lit h)

theorem indexOne (s : List UInt8) (c : UInt8) (w : World) : Calls Tryz.prog 147 #[str s, str [c]] w fun e w' => e = .returned (.int .i64 (Lib.indexByte s c)) ∧ w' = w :=
  (Tryz.strings_Index_one ⟨s.toArray⟩ c w).mono fun e w' ⟨h1, h2⟩ => ⟨by rw [h1], h2⟩

end Go.Proofs.YtdmhjabnjbpliaaGreatDoor
