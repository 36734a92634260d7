/- What the small functions of layer 7 on texts do: contracts, for every text. No conditions but that a text's length is an int's. -/
import Derived.Test.YtghopokdfjcjlaaDoorProg
import Derived.Test.YtghopokdfjcjlaaDoorBase
import Derived.Test.YtghopokdfjcjlaaDoorJLawA
import Derived.Test.YtghopokdfjcjlaaDoorShelf
namespace Go.Proofs.YtghopokdfjcjlaaDoor
open Go.RowKit
theorem ret_int {k : IntKind} {a b : Int} (h : a = b) : Ending.returned (.int k a) = .returned (.int k b) := by rw [h]
theorem ret_bool {a b : Bool} (h : a = b) : Ending.returned (.bool a) = .returned (.bool b) := by rw [h]
theorem ret_str {a b : List UInt8} (h : a = b) : Ending.returned (str a) = .returned (str b) := by rw [h]
theorem indexByte_any (l : List UInt8) (c : UInt8) (w : World) : Calls Tryd.prog 78 #[str l, .int .u8 c.toNat] w fun e w' => e = .returned (.int .i64 (Lib.indexByte l c)) ∧ Gr w w' :=
  (Tryd.strings_IndexByte ⟨l.toArray⟩ (c.toNat : Int) w).mono fun e w' ⟨h1, h2⟩ => ⟨by rw [h1]; simp, by rw [h2]; exact Gr.refl _⟩
end Go.Proofs.YtghopokdfjcjlaaDoor
