/- Several texts in one (their own heads say what each is). No conditions but those that each theorem names. -/
import Derived.Test.YtdmhjabnjbpliaaGreatDoorJChunk
import Derived.Test.YtdmhjabnjbpliaaGreatDoorJMulti
import Derived.Test.YtdmhjabnjbpliaaGreatDoorJHead3
import Derived.Test.YtdmhjabnjbpliaaGreatDoorJCond3
set_option linter.unusedVariables false
set_option linter.unusedSimpArgs false
/- XGate1 -/
namespace Go.Proofs.YtdmhjabnjbpliaaGreatDoor
open Go.RowKit
def lengthN : List UInt8 := [67, 111, 110, 116, 101, 110, 116, 45, 76, 101, 110, 103, 116, 104]
def codingN : List UInt8 := [84, 114, 97, 110, 115, 102, 101, 114, 45, 69, 110, 99, 111, 100, 105, 110, 103]
/-- may an answer's head be told? -/
def tellB (st : Int) (fs : List Fld) (sz : Int) : Bool := decide (100 ≤ st) && decide (st ≤ 599) && decide (-1 ≤ sz) && decide (sz ≤ 1099511627776) && decide ((ofN fs lengthN).length = 0) && decide ((ofN fs codingN).length = 0)
theorem tellB_iff {st sz : Int} {fs : List Fld} : tellB st fs sz = true ↔ 100 ≤ st ∧ st ≤ 599 ∧ -1 ≤ sz ∧ sz ≤ 1099511627776 ∧ ofN fs lengthN = [] ∧ ofN fs codingN = [] := by
  unfold tellB; simp [and_assoc]
/-- the bytes of a body -/
def gBody (sz : Int) (l : List UInt8) : List UInt8 := if sz = -1 then chunkL l else l
/-- the bytes of an end -/
def gEnd (sz : Int) (whole : Bool) : List UInt8 := if sz = -1 ∧ whole = true then lastL else []
end Go.Proofs.YtdmhjabnjbpliaaGreatDoor
/- XGate2 -/
namespace Go.Proofs.YtdmhjabnjbpliaaGreatDoor
open Go.RowKit
def chunkedN : List UInt8 := [99, 104, 117, 110, 107, 101, 100]
/-- the field that tells a body's end -/
def sizeF (sz : Int) : Fld := if sz = -1 then (codingN, chunkedN) else (lengthN, Lib.itoa sz)
/-- the fields of an answer's head -/
def headF (st : Int) (fs : List Fld) (sz : Int) : List Fld := if bodB st then fs ++ [sizeF sz] else fs
/-- an answer's head -/
def headR (st : Int) (fs : List Fld) (sz : Int) : List UInt8 × Nat := if tellB st fs sz then putH ([], [], st, headF st fs sz) else ([], 1)
theorem PutM.base {w x w' : World} {r : List UInt8 × Nat} {e : Ending} (h : PutM x r e w') (g : Gr w x) : PutM w r e w' := by
  obtain ⟨A, c, he, hg, h⟩ := h
  refine ⟨A, c, he, Gr.tr g hg, ?_⟩
  rcases h with ⟨h, hm⟩ | h
  · exact .inl ⟨h, hm.base g.size⟩
  · exact .inr h
theorem one_flat2 (fs : List Fld) : ∀ u ∈ flat2 fs, u.oneCell' = true := by
  intro u hu
  unfold flat2 at hu
  obtain ⟨x, _, hx⟩ := List.mem_flatMap.1 hu
  simp at hx
  rcases hx with rfl | rfl <;> rfl
end Go.Proofs.YtdmhjabnjbpliaaGreatDoor
