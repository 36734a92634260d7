/- The arguments of a law, opened: two numbers in an array. No conditions. -/
import Derived.Test.YtflepnkpihfidaaGreatDoorJRow
set_option linter.unusedVariables false
set_option linter.unusedSimpArgs false
namespace Go.Proofs.YtflepnkpihfidaaGreatDoor
open Go.ChangeShapes Go.WideShapes Go.ChangeAt Go.RowKit Go.Deep Go.Joins
section
variable {H : Type} {enc : TypeId × Value → H} {P : Program}
theorem open_pair {W:World} {b0:Nat} {t e:TypeId} {v:Value} {d:DataW H} {ps:List MemPlace} (ht:P.underlying t=some (.array 2 e)) (he:P.underlying e=some (.int .u16)) (hce:P.cellsOf e=1) (hct:P.cellsOf t=2)
  (hval:Value.okWide P W .any b0 t v) (hd:DataW.Trod enc P W 0 (fun _=>true) true t v d ps) :
  ∃a b,v=.agg #[.int .u16 a,.int .u16 b]∧(0≤a∧a≤65535)∧(0≤b∧b≤65535):=by
 simp only [Value.okWide,ht] at hval
 obtain ⟨cs,rfl,hsz,_⟩:=hval
 obtain ⟨fuel,hx⟩:=hd
 obtain ⟨xs,m,_,_,hl,hxl,hat⟩:=DataW.trod_array ht hx
 have hl2:cs.toList.length=2:=by rw [Array.length_toList,hsz,hct]
 have h0:=hat 0 (by decide)
 have h1:=hat 1 (by decide)
 rw [hce] at h0 h1
 have e0 : xs[0]? = some (xs[0]'(by omega)) := List.getElem?_eq_getElem (by omega)
 have e1 : xs[1]? = some (xs[1]'(by omega)) := List.getElem?_eq_getElem (by omega)
 rw [e0] at h0
 rw [e1] at h1
 obtain ⟨a,ha,_,hwa⟩:=DataW.trod_int he h0
 obtain ⟨b,hb,_,hwb⟩:=DataW.trod_int he h1
 have hcs:cs.toList=[.int .u16 a,.int .u16 b]:=by
  have hv:(Value.agg cs).cells.toList=cs.toList:=rfl
  rw [hv] at ha hb
  match hq:cs.toList,hl2 with
  | [x,y],_=>
    rw [hq] at ha hb
    simp at ha hb
    rw [ha,hb]
 refine ⟨a,b,?_,bounds_u16 hwa,bounds_u16 hwb⟩
 have:cs=#[.int .u16 a,.int .u16 b]:=by
  apply Array.toList_inj.1
  simpa using hcs
 rw [this]
end
end Go.Proofs.YtflepnkpihfidaaGreatDoor
