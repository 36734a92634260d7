/- The library's table of noughts, as the rows' conditions say. No conditions. -/
import Derived.Test.YtnmfmcmokdoieaaGreatDoorJMHex
import Derived.Test.YtnmfmcmokdoieaaGreatDoorTab
import Derived.LaidLaws
set_option linter.unusedVariables false
set_option linter.unusedSimpArgs false
namespace Go.Proofs.YtnmfmcmokdoieaaGreatDoor
open Go.ChangeShapes Go.WideShapes Go.ChangeAt Go.RowKit Go.Deep Go.Joins
theorem tzName : Tryz.prog.globalNamed "math/bits.deBruijn64tab" = some 3 := by kernel_rfl
theorem tz_data : (Rows.laid_math_bits_deBruijn64tab : DataW Unit) = Lib.tabData .u8 [0, 1, 56, 2, 57, 49, 28, 3, 61, 58, 42, 50, 38, 29, 17, 4, 62, 47, 59, 36, 45, 43, 51, 22, 53, 39, 33, 30, 24, 18, 12, 5, 63, 55, 48, 27, 60, 41, 37, 16, 46, 35, 44, 21, 52, 32, 23, 11, 54, 26, 40, 15, 34, 20, 31, 10, 25, 14, 19, 9, 13, 8, 7, 6] := by kernel_rfl
theorem tz_of {w : World} {l : List (String × DataW Unit)} (hh : (l.all fun x => x.2.handleName?.isNone) = true) (h : laidMetH Tryz.prog l w) (hm : ("math/bits.deBruijn64tab", Rows.laid_math_bits_deBruijn64tab) ∈ l) : Tz w := by
  rw [tz_data] at hm
  have ht := tab_of hh h hm tzName (by kernel_rfl) Tryz.underlying132 Tryz.underlying5 (by kernel_rfl) (by kernel_rfl)
  unfold Lib.TabIs World.var? at ht
  rw [tzName] at ht
  simp only [Option.bind_some] at ht
  unfold Tz
  cases ho : w.heap[3]? with
  | none => rw [ho] at ht; simp at ht
  | some o =>
    rw [ho] at ht
    cases o <;> simp at ht
    subst ht
    simp [World.cell?, ho]
end Go.Proofs.YtnmfmcmokdoieaaGreatDoor
