/- Layer 11's arguments, opened: spans; the library's variables as the rows' conditions say. No conditions beyond the row's own. -/
import Derived.Test.YtflepnkpihfidaaGreatDoorJRow
import Derived.Test.YtflepnkpihfidaaGreatDoorOpen2
import Derived.Test.YtflepnkpihfidaaGreatDoorJMulti
import Derived.LaidLaws
set_option linter.unusedVariables false
set_option linter.unusedSimpArgs false
namespace Go.Proofs.YtflepnkpihfidaaGreatDoor
open Go.ChangeShapes Go.WideShapes Go.ChangeAt Go.RowKit Go.Deep Go.Joins
theorem ml11_of {W:World} (h:W.ShapedOpen Tryz.prog):Ml W:=Go.Proofs.cell_of_shapedOpen_int (g:=0) (zero:=#[.int .i64 0]) (t:=3) h (of_decide_eq_true (by kernel_rfl)) (by kernel_rfl) rfl (by kernel_rfl) (by kernel_rfl) Tryz.underlying3
theorem varsW_of {w : World} {l : List (String × DataW Unit)} (hs : w.ShapedOpen Tryz.prog) (hh : (l.all fun x => x.2.handleName?.isNone) = true) (h : laidMetH Tryz.prog l w) (h3 : ("internal/strconv.uint64pow10", Rows.laid_internal_strconv_uint64pow10) ∈ l) : VarsW w := ⟨ml11_of hs, pw_of hh h h3⟩
section
variable {H : Type} {enc : TypeId × Value → H} {P : Program}
end
end Go.Proofs.YtflepnkpihfidaaGreatDoor
