/- Which fields may be: both functions are one. Contracts; no conditions but that a text's length is an int's. -/
import Derived.Test.YtghopokdfjcjlaaDoorField2
namespace Go.Proofs.YtghopokdfjcjlaaDoor
open Go.RowKit
theorem trim_any (l : List UInt8) (w : World) (_hl : l.length ≤ 9223372036854775807) : Calls Tryd.prog 36 #[str l, .string ⟨#[32, 9]⟩] w fun e w' => e = .returned (str (trim l)) ∧ Gr w w' :=
  Tryd.strings_Trim_ascii ⟨l.toArray⟩ ⟨#[32, 9]⟩ w _hl (by decide) (ascii_of_all (by decide))
theorem box2 (w : World) (a b : Value) (t : TypeId) : Gr w (w.alloc (Obj.cells #[a, b] t)) ∧ (w.alloc (Obj.cells #[a, b] t)).cell? ⟨w.heap.size, 0, none⟩ = some a ∧ (w.alloc (Obj.cells #[a, b] t)).cell? ⟨w.heap.size, 1, none⟩ = some b :=
  ⟨Gr.al (Gr.refl w) _, by simp, by simp⟩
end Go.Proofs.YtghopokdfjcjlaaDoor
