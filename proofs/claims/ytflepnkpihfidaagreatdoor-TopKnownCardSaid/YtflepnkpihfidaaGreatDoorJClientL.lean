/- Parts. No conditions but those that each theorem names. -/
import Derived.Test.YtflepnkpihfidaaGreatDoorHeadLaw
import Derived.Test.YtflepnkpihfidaaGreatDoorJLawA
import Derived.Test.YtflepnkpihfidaaGreatDoorJFrame2
import Derived.Test.YtflepnkpihfidaaGreatDoorJMulti
import Derived.Test.YtflepnkpihfidaaGreatDoorJReq
set_option linter.unusedVariables false
set_option linter.unusedSimpArgs false
namespace Go.Proofs.YtflepnkpihfidaaGreatDoor
end Go.Proofs.YtflepnkpihfidaaGreatDoor
namespace Go.Proofs.YtflepnkpihfidaaGreatDoor
end Go.Proofs.YtflepnkpihfidaaGreatDoor
namespace Go.Proofs.YtflepnkpihfidaaGreatDoor
def crN:List UInt8:=[67,111,110,116,101,110,116,45,82,97,110,103,101]
def ctN:List UInt8:=[67,111,110,116,101,110,116,45,84,121,112,101]
def sevN:List UInt8:=[109,117,108,116,105,112,97,114,116,47,98,121,116,101,114,97,110,103,101,115,59,32,98,111,117,110,100,97,114,121,61]
structure ClH where
 st:Int
 fs:List Fld
 kind:Nat
 size:Nat
 tells:Nat
 fro:Int
 til:Int
 bnd:List UInt8
end Go.Proofs.YtflepnkpihfidaaGreatDoor
namespace Go.Proofs.YtflepnkpihfidaaGreatDoor
end Go.Proofs.YtflepnkpihfidaaGreatDoor
namespace Go.Proofs.YtflepnkpihfidaaGreatDoor
theorem dig_vis {c:UInt8} (h:digC c=true):visC c=true:=by
 unfold digC at h
 unfold visC
 simp only [Bool.and_eq_true,decide_eq_true_eq] at h
 have h1:=h.1;have h2:=h.2
 rw [decide_eq_true (show 32≤c.toNat by omega),decide_eq_true (show c.toNat≤126 by omega)];rfl
theorem itoa_all {x:Int} (h:0≤x):∀c∈Lib.itoa x,digC c=true:=by
 obtain ⟨m,rfl⟩:∃m:Nat,x=m:=⟨x.toNat,by omega⟩
 rw [itoa_nat]
 exact fun c hc=>List.all_eq_true.1 (dec_all m).1 c hc
theorem itoa_some {x:Int} (h:0≤x):Lib.itoa x≠[]:=by
 obtain ⟨m,rfl⟩:∃m:Nat,x=m:=⟨x.toNat,by omega⟩
 rw [itoa_nat,Lib.decDigits]
 split <;> simp
end Go.Proofs.YtflepnkpihfidaaGreatDoor
