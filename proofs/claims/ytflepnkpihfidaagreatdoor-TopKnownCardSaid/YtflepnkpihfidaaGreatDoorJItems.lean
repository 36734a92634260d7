/- Parts. No conditions but those that each theorem names. -/
import Derived.Test.YtflepnkpihfidaaGreatDoorJField2
import Derived.Test.YtflepnkpihfidaaGreatDoorJLawA
set_option linter.unusedVariables false
set_option linter.unusedSimpArgs false
namespace Go.Proofs.YtflepnkpihfidaaGreatDoor
open Go.RowKit
end Go.Proofs.YtflepnkpihfidaaGreatDoor
namespace Go.Proofs.YtflepnkpihfidaaGreatDoor
open Go.RowKit
end Go.Proofs.YtflepnkpihfidaaGreatDoor
namespace Go.Proofs.YtflepnkpihfidaaGreatDoor
open Go.RowKit
theorem Own.set {W0 w:World} {e:TypeId} {size n g:Nat} {v:Value} {xs:List Value} (h:Own W0 w e size v n xs) (hne:v.ownBlock≠some g) (i:Nat) (u:Value):Own W0 (w.setCell ⟨g,i,none⟩ u) e size v n xs:=by
 refine ⟨h.1,?_⟩
 rcases h.2 with hn | ⟨b,cap,cur,hv,hb,hh,r⟩
 ·exact .inl hn
 ·subst hv
  exact .inr ⟨b,cap,cur,rfl,hb,by rw [Below.heap_setCell _ _ _ _ (by rintro rfl;exact hne rfl)];exact hh,r⟩
theorem Bk.app {w w':World} {g t cs fr} {v v':Value} (h:Bk w g t cs fr) (a:App v v' w w') (hne:v.ownBlock≠some g):Bk w' g t cs fr:=(a.grown.block g h.lt (Ne.symm hne)).trans h
end Go.Proofs.YtflepnkpihfidaaGreatDoor
