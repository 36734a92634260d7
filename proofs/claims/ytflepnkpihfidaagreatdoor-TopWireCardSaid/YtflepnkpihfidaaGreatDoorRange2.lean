/- strings.SplitSeq at a separator of one byte: the texts between; its iterator as a range over a function takes it. No conditions. -/
import Derived.Test.YtflepnkpihfidaaGreatDoorShelf
import Derived.Test.YtflepnkpihfidaaGreatDoorJWords
import Derived.Lib.IndexLaws
set_option linter.unusedVariables false
set_option linter.unusedSimpArgs false
namespace Go.Proofs.YtflepnkpihfidaaGreatDoor
open Go.RowKit
theorem wpY_plain {P:Program} {ops:Array Oper} {Q:Exit→Act→World→Prop} {o:Oper} {rest:List Oper} {a:Act} {w:World} (hg:o.guard=none)
  (h:∀K:Act→World→Prop,(∀a w,wpListIn Fence.wide 0 P ops Q rest a w→K a w)→o.wp P a w K Q):wpListIn Fence.wide 0 P ops Q (o::rest) a w:=by
 refine wpListIn_plain hg fun K hK=>⟨fun _ _=>trivial,?_⟩
 rw [Fence.wide_round,Oper.semAt_none]
 have h:=h K hK
 unfold Oper.wp at h
 generalize (execOp a.eval o).run P w=r at *
 cases r with
 | ok x w'=>
   cases x <;> simp only [Oper.upon] at h <;> simp only [Oper.uponIn] <;>
    first
     | exact h
     | exact ⟨fun hx=>by simp [Fence.wide] at hx,callsIn_wide.2 h⟩
     | exact ⟨fun hx=>by simp [Fence.wide] at hx,fun c cs _=>let ⟨v,w',r,s⟩:=h c cs;⟨v,w',r,stepsIn_wide.2 s⟩⟩
 | halt x w'=>cases x <;> simp only [Oper.upon] at h <;> simp only [Oper.uponIn] <;> exact h
theorem wpY_region {P:Program} {id:Nat} {os:List Oper} {Q:Exit→Act→World→Prop} {a:Act} {w:World} (h:wpListIn Fence.wide 0 P os.toArray Q os a w):(Code.region id os.toArray false).wp P Q a w:=
 (wpIn_wide (n:=0)).1 (wpIn_region_lit h)
end Go.Proofs.YtflepnkpihfidaaGreatDoor
