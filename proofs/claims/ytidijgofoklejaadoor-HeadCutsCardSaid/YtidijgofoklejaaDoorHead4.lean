/- head.Tell: a contract. -/
import Derived.Test.YtidijgofoklejaaDoorHead3
import Derived.Test.YtidijgofoklejaaDoorHeadLaw3
namespace Go.Proofs.YtidijgofoklejaaDoor
open Go.RowKit
theorem cutPre_any (s p : List UInt8) (w : World) : Calls Tryd.prog 24 #[str s, str p] w fun e w' => e = .returned (.tuple #[str (Lib.trimPrefix s p), .bool (p.isPrefixOf s)]) ∧ Gr w w' :=
  (Tryd.strings_CutPrefix ⟨s.toArray⟩ ⟨p.toArray⟩ w).mono fun _ _ ⟨h1, h2⟩ => ⟨by rw [h1]; rfl, by rw [h2]; exact Gr.refl _⟩
/-- is a head's line right as an answer's? -/
def tellsB (m o : List UInt8) (st : Int) : Bool := m.isEmpty && o.isEmpty && decide (100 ≤ st) && decide (st ≤ 599)
set_option maxHeartbeats 1000000 in
theorem tells_any (m o : List UInt8) (st : Int) (A : Option Addr) (n c : Nat) (w : World) : Calls Tryd.prog 25 #[.agg #[str m, str o, .int .i64 st, .slice A n c]] w fun e w' => e = .returned (.bool (tellsB m o st)) ∧ Gr w w' := by
  cases hm : m.isEmpty with
  | false =>
    go_enter Tryd.func25, Tryd.ntmps25
    go_wp2_with fail
    go_ret
    exact ⟨by unfold tellsB; rw [hm]; rfl, Gr.al (Gr.refl w) _⟩
  | true =>
    cases ho : o.isEmpty with
    | false =>
      go_enter Tryd.func25, Tryd.ntmps25
      go_wp2_with fail
      go_ret
      exact ⟨by unfold tellsB; rw [hm, ho]; rfl, Gr.al (Gr.refl w) _⟩
    | true =>
      cases h1 : decide (100 ≤ st) with
      | false =>
        go_enter Tryd.func25, Tryd.ntmps25
        go_wp2_with fail
        go_ret
        exact ⟨by unfold tellsB; rw [hm, ho, h1]; rfl, Gr.al (Gr.refl w) _⟩
      | true =>
        go_enter Tryd.func25, Tryd.ntmps25
        go_wp2_with fail
        go_ret
        exact ⟨by unfold tellsB; rw [hm, ho, h1]; rfl, Gr.al (Gr.refl w) _⟩
end Go.Proofs.YtidijgofoklejaaDoor
