/- Parts. No conditions but those that each theorem names. -/
import Derived.Test.YtflepnkpihfidaaGreatDoorJClientL
import Derived.Test.YtflepnkpihfidaaGreatDoorJMulti
import Derived.Sort.LotA
import Derived.Shelf.SlSortCmp.Insertion
set_option linter.unusedVariables false
set_option linter.unusedSimpArgs false
namespace Go.Proofs.YtflepnkpihfidaaGreatDoor
open Go.Sort
structure MetaT where
 tag:TagT
 mod:Int
 len:Int
 hv:Int
 fr:Int
 wh:Int
 er:Int
 keys:List (List UInt8)
 ten:List UInt8
 keep:Bool
def weakT (a b:TagT):Bool:=tagB a.1&&(tagB b.1&&a.1==b.1)
def strongT (a b:TagT):Bool:=!a.2&&(!b.2&&weakT a b)
def inT (l:List TagT) (t:TagT) (s:Bool):Bool:=l.any fun x=>if s then strongT x t else weakT x t
def checkR (q:ReqT) (m:MetaT):Nat:=if q.2.2.1≠[]∧q.2.2.2.rg≠([],false)∧strongT m.tag q.2.2.2.rg=false then 2 else 1
def checkN (q:ReqT) (m:MetaT):Nat:=
 if q.2.2.2.no≠[]∨q.2.2.2.an=true then (if q.2.2.2.an||inT q.2.2.2.no m.tag false then 3 else checkR q m)
 else if 0≤q.2.2.2.si∧m.len≠-1∧0≤m.mod∧m.mod≤q.2.2.2.si then 3 else checkR q m
def checkL (q:ReqT) (m:MetaT):Nat:=
 if q.2.2.2.mt≠[]∨q.2.2.2.am=true then (if q.2.2.2.am||inT q.2.2.2.mt m.tag true then checkN q m else 4)
 else if 0≤q.2.2.2.un∧0≤m.mod∧q.2.2.2.un < m.mod then 4 else checkN q m
theorem checkR_le (q:ReqT) (m:MetaT):1≤checkR q m∧checkR q m≤2:=by unfold checkR;split <;> omega
theorem checkN_le (q:ReqT) (m:MetaT):1≤checkN q m∧checkN q m≤3:=by
 have:=checkR_le q m
 unfold checkN
 repeat' split
 all_goals omega
theorem checkL_le (q:ReqT) (m:MetaT):1≤checkL q m∧checkL q m≤4:=by
 have:=checkN_le q m
 unfold checkL
 repeat' split
 all_goals omega
def keyC (c:UInt8):Bool:=decide (33≤c.toNat)&&decide (c.toNat≤126)
def keyB (k:List UInt8):Bool:=decide (1≤k.length)&&(decide (k.length≤200)&&k.all keyC)
def keysB (acc:List (List UInt8)):List (List UInt8)→Bool
 | []=>true
 | k::r=>(keyB k&&!acc.contains k)&&keysB (acc++[k]) r
def tenC (c:UInt8):Bool:=letterC c||(c==45||c==95)
def tenB (t:List UInt8):Bool:=decide (t.length≤40)&&(!([45].isPrefixOf t)&&t.all tenC)
def ticksB (n:Int):Bool:=decide (0≤n)&&decide (n≤1099511627776)
def metaNum (m:MetaT):Bool:=(decide (-1≤m.mod)&&decide (m.mod≤253402300799)&&decide (-1≤m.len)&&decide (m.len≤1099511627776))&&((decide (0≤m.hv)&&decide (m.hv≤1099511627776)&&(decide (m.len= -1)||decide (m.hv=m.len)))&&(ticksB m.fr&&ticksB m.wh&&ticksB m.er))
def metaB (m:MetaT):Bool:=(decide (m.tag=([],false))||tagB m.tag.1)&&(metaNum m&&((decide (m.keys.length≤32)&&tenB m.ten)&&keysB [] m.keys))
theorem ticksB_iff {n:Int}:ticksB n=true↔0≤n∧n≤1099511627776:=by unfold ticksB;simp
structure MetaOk (m:MetaT):Prop where
 tag:m.tag=([],false)∨tagB m.tag.1=true
 mod:-1≤m.mod∧m.mod≤253402300799
 len:-1≤m.len∧m.len≤1099511627776
 hv:0≤m.hv∧m.hv≤1099511627776
 hl:m.len= -1∨m.hv=m.len
 fr:0≤m.fr∧m.fr≤1099511627776
 wh:0≤m.wh∧m.wh≤1099511627776
 er:0≤m.er∧m.er≤1099511627776
 few:m.keys.length≤32
 ten:tenB m.ten=true
 keys:keysB [] m.keys=true
theorem metaB_iff {m:MetaT}:metaB m=true↔MetaOk m:=by
 unfold metaB metaNum
 simp only [Bool.and_eq_true,Bool.or_eq_true,decide_eq_true_eq,ticksB_iff,and_assoc]
 constructor
 ·rintro ⟨h1,h2,h3,h4,h5,h6,h7,h8,h9,h10,h11,h12,h13,h14,h15,h16,h17⟩
  exact ⟨h1,⟨h2,h3⟩,⟨h4,h5⟩,⟨h6,h7⟩,h8,⟨h9,h10⟩,⟨h11,h12⟩,⟨h13,h14⟩,h15,h16,h17⟩
 ·rintro ⟨h1,⟨h2,h3⟩,⟨h4,h5⟩,⟨h6,h7⟩,h8,⟨h9,h10⟩,⟨h11,h12⟩,⟨h13,h14⟩,h15,h16,h17⟩
  exact ⟨h1,h2,h3,h4,h5,h6,h7,h8,h9,h10,h11,h12,h13,h14,h15,h16,h17⟩
def etagN:List UInt8:=[69,84,97,103]
def lmodN:List UInt8:=[76,97,115,116,45,77,111,100,105,102,105,101,100]
def ccN:List UInt8:=[67,97,99,104,101,45,67,111,110,116,114,111,108]
def ageN:List UInt8:=[65,103,101]
def skeyN:List UInt8:=[83,117,114,114,111,103,97,116,101,45,75,101,121]
def xtenN:List UInt8:=[88,45,84,101,110,97,110,116]
def xlenN:List UInt8:=[88,45,76,101,110,103,116,104]
def xhavN:List UInt8:=[88,45,72,97,118,101]
def noStN:List UInt8:=[110,111,45,115,116,111,114,101]
def sMaxN:List UInt8:=[115,45,109,97,120,97,103,101,61]
def sWhN:List UInt8:=[115,116,97,108,101,45,119,104,105,108,101,45,114,101,118,97,108,105,100,97,116,101,61]
def sErN:List UInt8:=[115,116,97,108,101,45,105,102,45,101,114,114,111,114,61]
def ctlP (m:MetaT):List (List UInt8):=
 (if m.keep then [] else [noStN])++([sMaxN++Lib.itoa m.fr]++((if m.wh=0 then [] else [sWhN++Lib.itoa m.wh])++(if m.er=0 then [] else [sErN++Lib.itoa m.er])))
def joinB:List (List UInt8)→List UInt8
 | []=>[]
 | [t]=>t
 | t::u::r=>t++(32::joinB (u::r))
def tagF (m:MetaT):List Fld:=if m.tag=([],false) then [] else [(etagN,tagTxt m.tag)]
def modF (m:MetaT):List Fld:=if m.mod= -1 then [] else [(lmodN,dateT m.mod.toNat)]
def keyF (m:MetaT):List Fld:=if m.keys=[] then [] else [(skeyN,joinB m.keys)]
def tenF (m:MetaT):List Fld:=if m.ten=[] then [] else [(xtenN,m.ten)]
def lenF (m:MetaT):List Fld:=if m.len= -1 then [(xlenN,[42]),(xhavN,Lib.itoa m.hv)] else [(xlenN,Lib.itoa m.len)]
def metaF (m:MetaT):List Fld:=tagF m++(modF m++([(ccN,joinV (ctlP m)),(ageN,[48])]++(keyF m++(tenF m++lenF m))))
def bytesS (x:SpecT) (have_:Int):Option (Int×Int):=
 if specB x=true then
  (if x.1 < 0 then (if max (have_-x.2) 0 < have_ then some (max (have_-x.2) 0,have_) else none)
   else if 0≤x.2 then (if x.1 < min (x.2+1) have_ then some (x.1,min (x.2+1) have_) else none)
   else (if x.1 < have_ then some (x.1,have_) else none))
 else none
def resL (l:List SpecT) (have_:Int):List (Int×Int):=l.filterMap fun x=>bytesS x have_
def sumS (l:List (Int×Int)):Int:=(l.map fun s=>s.2-s.1).sum
def costL (l:List SpecT) (have_ most:Int):Bool:=decide (most < (l.length:Int))||decide (2*have_ < sumS (resL l have_))
abbrev FoT:=(Int×Int)×Int
def cfFrom (a b:FoT):Int:=Lib.compareInt a.1.1 b.1.1
def cfPlace (a b:FoT):Int:=Lib.compareInt a.2 b.2
def foldStep (one:List FoT) (f:FoT):List FoT:=match one.getLast? with
 | none=>[f]
 | some g=>if f.1.1≤g.1.2 then one.dropLast++[((g.1.1,max g.1.2 f.1.2),min g.2 f.2)] else one++[f]
def placed (l:List (Int×Int)):List FoT:=l.zipIdx.map fun p=>(p.1,(p.2:Int))
def sortBy (cf:FoT→FoT→Int) (l:List FoT):List FoT:=(Go.Sort.insertionSort (ltOf cf) l.toArray 0 l.length).toList
def foldL (l:List (Int×Int)):List (Int×Int):=(sortBy cfPlace ((sortBy cfFrom (placed l)).foldl foldStep [])).map (·.1)
abbrev AnsT:=Int×List Fld×List PartT×Int
def kindO:List UInt8:=[97,112,112,108,105,99,97,116,105,111,110,47,111,99,116,101,116,45,115,116,114,101,97,109]
def starN:List UInt8:=[98,121,116,101,115,32,42,47]
def partLen (p:PartT):Int:=if p.1=[] then p.2.2-p.2.1 else (p.1.length:Int)
def sizePs (ps:List PartT):Int:=(ps.map partLen).sum
def partsOf (sp:List (Int×Int)) (m:MetaT) (seed:Int):List Fld×List PartT:=match sp with
 | [s]=>([(crN,contentL s.1 s.2 m.len)],[([],s.1,s.2)])
 | _=>([(ctN,sevN++boundN seed)],partsL m.len kindO (boundN seed) sp)
def rangedL (l:List SpecT) (m:MetaT) (seed:Int):AnsT:=
 if resL l m.hv=[] then (416,metaF m++[(crN,starN++Lib.itoa (if m.len= -1 then m.hv else m.len))],[],0)
 else (206,metaF m++(partsOf (foldL (resL l m.hv)) m seed).1,(partsOf (foldL (resL l m.hv)) m seed).2,sizePs (partsOf (foldL (resL l m.hv)) m seed).2)
def fullL (head:Bool) (m:MetaT):AnsT:=(200,metaF m,if head=true∨m.len=0 then [] else [([],0,if m.len= -1 then 4611686018427387904 else m.len)],m.len)
def shapeL (q:ReqT) (m:MetaT) (oc:Nat) (most seed:Int):AnsT:=
 if oc=3 then (304,metaF m,[],0) else if oc=4 then (412,metaF m,[],0)
 else if oc=1∧q.1=false∧q.2.2.1≠[]∧costL q.2.2.1 m.hv most=false then rangedL q.2.2.1 m seed else fullL q.1 m
structure InS (n:Int) (s:Int×Int):Prop where
 lo:0≤s.1
 lt:s.1 < s.2
 hi:s.2≤n
theorem bytesS_in {x:SpecT} {n:Int} {s:Int×Int} (h:bytesS x n=some s):InS n s:=by
 unfold bytesS at h
 by_cases hx:specB x=true
 ·rw [if_pos hx] at h
  have hi:=specB_lo hx
  by_cases h1:x.1 < 0
  ·rw [if_pos h1] at h
   split at h
   ·cases h;exact ⟨by simp only;omega,by assumption,by simp⟩
   ·cases h
  ·rw [if_neg h1] at h
   by_cases h2:0≤x.2
   ·rw [if_pos h2] at h
    split at h
    ·cases h;exact ⟨by simp only;omega,by assumption,by simp only;omega⟩
    ·cases h
   ·rw [if_neg h2] at h
    split at h
    ·cases h;exact ⟨by simp only;omega,by assumption,by simp⟩
    ·cases h
 ·rw [if_neg hx] at h;cases h
theorem resL_in {l:List SpecT} {n:Int}:∀s∈resL l n,InS n s:=fun s hs=>by
 obtain ⟨x,_,h⟩:=List.mem_filterMap.1 hs
 exact bytesS_in h
theorem resL_len (l:List SpecT) (n:Int):(resL l n).length≤l.length:=List.length_filterMap_le _ _
theorem swoFrom:SWO (ltOf cfFrom) where
 irrefl x:=by unfold ltOf cfFrom Lib.compareInt;simp
 trans x y z h1 h2:=by
  unfold ltOf cfFrom Lib.compareInt at *
  simp only [decide_eq_true_eq] at *
  repeat' split at h1
  all_goals repeat' split at h2
  all_goals repeat' split
  all_goals omega
 ntrans x y z h1 h2:=by
  unfold ltOf cfFrom Lib.compareInt at *
  simp only [decide_eq_false_iff_not] at *
  repeat' split at h1
  all_goals repeat' split at h2
  all_goals repeat' split
  all_goals omega
theorem swoPlace:SWO (ltOf cfPlace) where
 irrefl x:=by unfold ltOf cfPlace Lib.compareInt;simp
 trans x y z h1 h2:=by
  unfold ltOf cfPlace Lib.compareInt at *
  simp only [decide_eq_true_eq] at *
  repeat' split at h1
  all_goals repeat' split at h2
  all_goals repeat' split
  all_goals omega
 ntrans x y z h1 h2:=by
  unfold ltOf cfPlace Lib.compareInt at *
  simp only [decide_eq_false_iff_not] at *
  repeat' split at h1
  all_goals repeat' split at h2
  all_goals repeat' split
  all_goals omega
theorem sortBy_perm {cf:FoT→FoT→Int} (h:SWO (ltOf cf)) (l:List FoT):(sortBy cf l).Perm l:=by
 have:=(insertionSort_holds (lt:=ltOf cf) h l.toArray 0 l.length (Nat.zero_le _) (by simp)).1
 obtain ⟨h1,_,h3⟩:=this
 unfold sortBy
 have e:∀a:Array FoT,a.size=l.length→(a.extract 0 l.length).toList=a.toList:=fun a ha=>by rw [←ha];simp
 rw [e _ (by rw [h1];simp),e _ (by simp)] at h3
 simpa using h3
theorem placed_fst (l:List (Int×Int)):(placed l).map (·.1)=l:=by
 unfold placed;rw [List.map_map];simp [Function.comp_def]
theorem foldStep_in {n:Int} {one:List FoT} {f:FoT} (h:∀g∈one,InS n g.1) (hf:InS n f.1):∀g∈foldStep one f,InS n g.1:=by
 unfold foldStep
 rcases nil_or_snoc one with rfl | ⟨t,g,rfl⟩
 ·intro x hx;simp at hx;rw [hx];exact hf
 ·rw [List.getLast?_concat]
  simp only
  have hg:=h g (by simp)
  split
  ·intro x hx
   rw [List.dropLast_concat] at hx
   rcases List.mem_append.1 hx with hx | hx
   ·exact h x (by simp [hx])
   ·simp at hx;rw [hx]
    exact ⟨hg.lo,by simp only;have:=hg.lt;omega,by simp only;have:=hg.hi;have:=hf.hi;omega⟩
  ·intro x hx
   rcases List.mem_append.1 hx with hx | hx
   ·exact h x hx
   ·simp at hx;rw [hx];exact hf
theorem foldStep_ne (one:List FoT) (f:FoT):foldStep one f≠[]∧(foldStep one f).length≤one.length+1:=by
 unfold foldStep
 rcases nil_or_snoc one with rfl | ⟨t,g,rfl⟩
 ·simp
 ·rw [List.getLast?_concat]
  simp only
  split
  ·rw [List.dropLast_concat];simp
  ·simp
theorem foldAll_in {n:Int}:∀(l one:List FoT),(∀g∈one,InS n g.1)→(∀g∈l,InS n g.1)→(∀g∈l.foldl foldStep one,InS n g.1)∧(l.foldl foldStep one).length≤one.length+l.length∧((one≠[]∨l≠[])→l.foldl foldStep one≠[])
 | [],one,h,_=>⟨h,by simp,fun h=>by rcases h with h | h;exact h;exact absurd rfl h⟩
 | f::l,one,h,hl=>by
   have hs:=foldStep_ne one f
   obtain ⟨h1,h2,h3⟩:=foldAll_in l (foldStep one f) (foldStep_in h (hl f (by simp))) (fun g hg=>hl g (by simp [hg]))
   refine ⟨h1,?_,fun _=>h3 (.inl hs.1)⟩
   simp only [List.foldl_cons,List.length_cons];omega
theorem foldL_in {n:Int} {l:List (Int×Int)} (h:∀s∈l,InS n s):(∀s∈foldL l,InS n s)∧(foldL l).length≤l.length∧(l≠[]→foldL l≠[]):=by
 have p1:=sortBy_perm swoFrom (placed l)
 have hp:∀g∈sortBy cfFrom (placed l),InS n g.1:=fun g hg=>h _ (by
  have:g.1∈(placed l).map (·.1):=List.mem_map.2 ⟨g,p1.mem_iff.1 hg,rfl⟩
  rwa [placed_fst] at this)
 have hl1:(sortBy cfFrom (placed l)).length=l.length:=by rw [p1.length_eq];have:=congrArg List.length (placed_fst l);simpa using this
 obtain ⟨h1,h2,h3⟩:=foldAll_in (n:=n) (sortBy cfFrom (placed l)) [] (by simp) hp
 have p2:=sortBy_perm swoPlace ((sortBy cfFrom (placed l)).foldl foldStep [])
 unfold foldL
 refine ⟨fun s hs=>?_,?_,fun hl=>?_⟩
 ·obtain ⟨g,hg,rfl⟩:=List.mem_map.1 hs
  exact h1 g (p2.mem_iff.1 hg)
 ·rw [List.length_map,p2.length_eq];simp only [List.length_nil,Nat.zero_add] at h2;omega
 ·have hne:sortBy cfFrom (placed l)≠[]:=fun e=>by rw [e] at hl1;exact hl (List.eq_nil_of_length_eq_zero hl1.symm)
  have h4:=h3 (.inr hne)
  intro e
  have:=congrArg List.length e
  rw [List.length_map,p2.length_eq] at this
  exact h4 (List.eq_nil_of_length_eq_zero this)
theorem sumS_app (a b:List (Int×Int)):sumS (a++b)=sumS a+sumS b:=by unfold sumS;simp
theorem sumS_pos {n:Int} {l:List (Int×Int)} (h:∀s∈l,InS n s):0≤sumS l∧sumS l≤l.length*n:=by
 induction l with
 | nil=>simp [sumS]
 | cons s l ih=>
   have:=ih (fun x hx=>h x (List.mem_cons_of_mem _ hx))
   have hs:=h s (by simp)
   have h1:=hs.lt;have h2:=hs.lo;have h3:=hs.hi
   simp only [sumS,List.map_cons,List.sum_cons,List.length_cons] at *
   rw [Int.natCast_add,Int.add_mul]
   omega
end Go.Proofs.YtflepnkpihfidaaGreatDoor
namespace Go.Proofs.YtflepnkpihfidaaGreatDoor
end Go.Proofs.YtflepnkpihfidaaGreatDoor
namespace Go.Proofs.YtflepnkpihfidaaGreatDoor
def gatherStep (out:List (Int×Int)) (x:Int×Int):List (Int×Int):=match out.getLast? with
 | none=>[x]
 | some g=>if x.1≤g.2 then out.dropLast++[(g.1,max g.2 x.2)] else out++[x]
def gatherL (l:List (Int×Int)):List (Int×Int):=l.foldl gatherStep []
theorem gatherStep_len (out:List (Int×Int)) (x:Int×Int):(gatherStep out x).length≤out.length+1:=by
 unfold gatherStep
 rcases nil_or_snoc out with rfl | ⟨t,g,rfl⟩
 ·simp
 ·rw [List.getLast?_concat]
  simp only
  split
  ·rw [List.dropLast_concat];simp
  ·simp
theorem gather_len:∀(l out:List (Int×Int)),(l.foldl gatherStep out).length≤out.length+l.length
 | [],out=>by simp
 | x::l,out=>by
   have:=gather_len l (gatherStep out x)
   have:=gatherStep_len out x
   simp only [List.foldl_cons,List.length_cons];omega
end Go.Proofs.YtflepnkpihfidaaGreatDoor
namespace Go.Proofs.YtflepnkpihfidaaGreatDoor
end Go.Proofs.YtflepnkpihfidaaGreatDoor
namespace Go.Proofs.YtflepnkpihfidaaGreatDoor
structure RuleT where
 mx:Int
 sh:Int
 wh:Int
 er:Int
 ns:Bool
 nc:Bool
 pv:Bool
def RuleT.start:RuleT:=⟨-1,-1,-1,-1,false,false,false⟩
def numG (n:Int):List UInt8→Option Int
 | []=>some n
 | c::r=>if digC c then numG (min (n*10+((c.toNat:Int)-48)) 1099511627776) r else none
def numC (s:List UInt8):Option Int:=if s=[] then none else numG 0 s
def lessR (to_:Int) (s:List UInt8):Int:=match numC s with
 | some n=>if to_ < 0∨n < to_ then n else to_
 | none=>to_
def dirA (d:List UInt8):List UInt8×List UInt8:=match cutG 61 d with
 | none=>(d,[])
 | some p=>p
def unqL (a:List UInt8):List UInt8:=if quoB a then innT a else a
def maxAN:List UInt8:=[109,97,120,45,97,103,101]
def shAN:List UInt8:=[115,45,109,97,120,97,103,101]
def whAN:List UInt8:=[115,116,97,108,101,45,119,104,105,108,101,45,114,101,118,97,108,105,100,97,116,101]
def erAN:List UInt8:=[115,116,97,108,101,45,105,102,45,101,114,114,111,114]
def noCN:List UInt8:=[110,111,45,99,97,99,104,101]
def privN:List UInt8:=[112,114,105,118,97,116,101]
def heedN (r:RuleT) (n a:List UInt8):RuleT:=
 if n=maxAN then ⟨lessR r.mx a,r.sh,r.wh,r.er,r.ns,r.nc,r.pv⟩
 else if n=shAN then ⟨r.mx,lessR r.sh a,r.wh,r.er,r.ns,r.nc,r.pv⟩
 else if n=whAN then ⟨r.mx,r.sh,lessR r.wh a,r.er,r.ns,r.nc,r.pv⟩
 else if n=erAN then ⟨r.mx,r.sh,r.wh,lessR r.er a,r.ns,r.nc,r.pv⟩
 else if n=noStN then ⟨r.mx,r.sh,r.wh,r.er,true,r.nc,r.pv⟩
 else if n=noCN then ⟨r.mx,r.sh,r.wh,r.er,r.ns,true,r.pv⟩
 else if n=privN then ⟨r.mx,r.sh,r.wh,r.er,r.ns,r.nc,true⟩
 else r
def heedD (r:RuleT) (d:List UInt8):RuleT:=heedN r (low (dirA d).1) (unqL (dirA d).2)
def goK (q:Bool) (cur:List UInt8) (r:RuleT):List UInt8→RuleT
 | []=>heedD r (trim cur)
 | c::t=>if (c==44&&!q)=true then goK q [] (heedD r (trim cur)) t else goK (if c==34 then !q else q) (cur++[c]) r t
def ruleV (vs:List (List UInt8)):RuleT:=vs.foldl (fun r v=>goK false [] r v) RuleT.start
theorem goK_in:∀(x t cur:List UInt8) (r:RuleT),(∀c∈x,c≠44∧c≠34)→goK false cur r (x++t)=goK false (cur++x) r t
 | [],t,cur,r,_=>by simp
 | c::x,t,cur,r,h=>by
   obtain ⟨h1,h2⟩:=h c (by simp)
   rw [List.cons_append,goK,if_neg (by simp [h1]),if_neg (by simp [h2]),goK_in x t _ r (fun d hd=>h d (List.mem_cons_of_mem _ hd))]
   simp
structure DirOk (d:List UInt8):Prop where
 no:∀c∈d,c≠44∧c≠34
 tr:trim d=d
theorem goK_join:∀(ds:List (List UInt8)) (sp:List UInt8) (r:RuleT),(sp=[]∨sp=[32])→ds≠[]→(∀d∈ds,DirOk d)→goK false sp r (joinV ds)=ds.foldl heedD r
 | [],_,_,_,h,_=>absurd rfl h
 | [d],sp,r,hs,_,h=>by
   have hd:=h d (by simp)
   have:=goK_in d [] sp r hd.no
   rw [List.append_nil] at this
   rw [joinV,this,goK]
   have e:trim (sp++d)=d:=by
    rcases hs with rfl | rfl
    ·exact hd.tr
    ·rw [List.singleton_append,trim_sp];exact hd.tr
   rw [e];rfl
 | d::u::t,sp,r,hs,_,h=>by
   have hd:=h d (by simp)
   have e:trim (sp++d)=d:=by
    rcases hs with rfl | rfl
    ·exact hd.tr
    ·rw [List.singleton_append,trim_sp];exact hd.tr
   rw [joinV,goK_in d _ sp r hd.no,goK,if_pos (by rfl),e,goK,if_neg (by decide),if_neg (by decide)]
   rw [goK_join (u::t) ([]++[32]) _ (.inr rfl) (by simp) (fun x hx=>h x (List.mem_cons_of_mem _ hx))]
   rfl
def valG (n:Int) (l:List UInt8):Int:=l.foldl (fun n c=>n*10+((c.toNat:Int)-48)) n
theorem dig_lo {c:UInt8} (h:digC c=true):0≤(c.toNat:Int)-48∧(c.toNat:Int)-48≤9:=by
 unfold digC at h
 simp only [Bool.and_eq_true,decide_eq_true_eq] at h
 omega
theorem valG_le:∀(l:List UInt8) (n:Int),0≤n→(∀c∈l,digC c=true)→n≤valG n l
 | [],n,_,_=>Int.le_refl _
 | c::l,n,h0,h=>by
   have:=dig_lo (h c (by simp))
   have:=valG_le l (n*10+((c.toNat:Int)-48)) (by omega) (fun d hd=>h d (List.mem_cons_of_mem _ hd))
   unfold valG at *
   rw [List.foldl_cons];omega
theorem numG_val:∀(l:List UInt8) (n:Int),0≤n→(∀c∈l,digC c=true)→valG n l≤1099511627776→numG n l=some (valG n l)
 | [],n,_,_,_=>rfl
 | c::l,n,h0,h,hv=>by
   have hd:=dig_lo (h c (by simp))
   have hl:=valG_le l (n*10+((c.toNat:Int)-48)) (by omega) (fun d hd=>h d (List.mem_cons_of_mem _ hd))
   have he:valG n (c::l)=valG (n*10+((c.toNat:Int)-48)) l:=rfl
   rw [he] at hv ⊢
   rw [numG,if_pos (h c (by simp)),show min (n*10+((c.toNat:Int)-48)) 1099511627776=n*10+((c.toNat:Int)-48) from by omega]
   exact numG_val l _ (by omega) (fun d hd=>h d (List.mem_cons_of_mem _ hd)) hv
theorem valG_snoc (l:List UInt8) (c:UInt8) (n:Int):valG n (l++[c])=valG n l*10+((c.toNat:Int)-48):=by unfold valG;rw [List.foldl_append];rfl
theorem valG_dec (n:Nat):valG 0 (Lib.decDigits n)=n:=by
 induction n using Nat.strongRecOn with
 | ind n ih=>
   rw [Lib.decDigits]
   by_cases h:n < 10
   ·rw [dif_pos h]
    have:(UInt8.ofNat (48+n)).toNat=48+n:=by rw [UInt8.toNat_ofNat'];omega
    unfold valG;simp only [List.foldl_cons,List.foldl_nil,this];omega
   ·rw [dif_neg h,valG_snoc,ih (n / 10) (by omega)]
    have:(UInt8.ofNat (48+n % 10)).toNat=48+n % 10:=by rw [UInt8.toNat_ofNat'];omega
    rw [this];omega
theorem numC_itoa {x:Int} (h0:0≤x) (h1:x≤1099511627776):numC (Lib.itoa x)=some x:=by
 have hd:=itoa_all h0
 have hn:=itoa_some h0
 obtain ⟨n,rfl⟩:∃n:Nat,x=n:=⟨x.toNat,by omega⟩
 rw [itoa_nat] at hd hn ⊢
 unfold numC
 rw [if_neg hn,numG_val _ 0 (by omega) hd (by rw [valG_dec];exact h1),valG_dec]
theorem cut_dir (p a:List UInt8) (h:∀c∈p,c≠61):dirA (p++61::a)=(p,a):=by
 unfold dirA;rw [cutG_app 61 p a h]
theorem unq_itoa {x:Int} (h:0≤x):unqL (Lib.itoa x)=Lib.itoa x:=by
 have hd:=itoa_all h
 unfold unqL
 rw [if_neg]
 intro hq
 unfold quoB at hq
 split at hq
 ·simp only [Bool.and_eq_true,beq_iff_eq] at hq
  have:=hd 34 (by rw [←hq.1];exact List.getElem_mem _)
  revert this;decide
 ·cases hq
theorem heed_num (r:RuleT) {p:List UInt8} {x:Int} (hp:∀c∈p,c≠61) (hl:low p=p) (h0:0≤x):heedD r (p++61::Lib.itoa x)=heedN r p (Lib.itoa x):=by
 unfold heedD;rw [cut_dir _ _ hp];simp only;rw [unq_itoa h0,hl]
theorem dir_num {p:List UInt8} {x:Int} (hp:∀c∈p,c≠44∧c≠34∧blk c=false) (h0:0≤x):DirOk (p++61::Lib.itoa x):=by
 have hd:=itoa_all h0
 have hall:∀c∈p++61::Lib.itoa x,c≠44∧c≠34∧blk c=false:=fun c hc=>by
  simp only [List.mem_append,List.mem_cons] at hc
  rcases hc with hc | rfl | hc
  ·exact hp c hc
  ·decide
  ·have:=dig_ne (hd c hc)
   refine ⟨this.1,?_,this.2.2⟩
   rintro rfl
   have:=hd 34 hc
   revert this;decide
 exact ⟨fun c hc=>⟨(hall c hc).1,(hall c hc).2.1⟩,trim_all fun c hc=>(hall c hc).2.2⟩
theorem sMax_eq (x:Int):sMaxN++Lib.itoa x=shAN++61::Lib.itoa x:=rfl
theorem sWh_eq (x:Int):sWhN++Lib.itoa x=whAN++61::Lib.itoa x:=rfl
theorem sEr_eq (x:Int):sErN++Lib.itoa x=erAN++61::Lib.itoa x:=rfl
theorem less_new {x:Int} (h0:0≤x) (h1:x≤1099511627776):lessR (-1) (Lib.itoa x)=x:=by
 unfold lessR;rw [numC_itoa h0 h1];simp
def ruleM (m:MetaT):RuleT:=⟨-1,m.fr,if m.wh=0 then -1 else m.wh,if m.er=0 then -1 else m.er,!m.keep,false,false⟩
theorem ctlP_ok {m:MetaT} (h:MetaOk m):∀d∈ctlP m,DirOk d:=fun d hd=>by
 unfold ctlP at hd
 simp only [List.mem_append,List.mem_singleton] at hd
 rcases hd with hd | rfl | hd | hd
 ·split at hd
  ·cases hd
  ·simp only [List.mem_singleton] at hd;subst hd;exact ⟨by decide,by decide⟩
 ·rw [sMax_eq];exact dir_num (by decide) h.fr.1
 ·split at hd
  ·cases hd
  ·simp only [List.mem_singleton] at hd;subst hd;rw [sWh_eq];exact dir_num (by decide) h.wh.1
 ·split at hd
  ·cases hd
  ·simp only [List.mem_singleton] at hd;subst hd;rw [sEr_eq];exact dir_num (by decide) h.er.1
theorem heed_noSt (r:RuleT):heedD r noStN=⟨r.mx,r.sh,r.wh,r.er,true,r.nc,r.pv⟩:=by
 unfold heedD
 rw [show dirA noStN=(noStN,[]) from by decide,show low noStN=noStN from by decide]
 unfold heedN
 rw [if_neg (by decide),if_neg (by decide),if_neg (by decide),if_neg (by decide),if_pos rfl]
theorem heed_sh (r:RuleT) {x:Int} (h0:0≤x):heedD r (sMaxN++Lib.itoa x)=⟨r.mx,lessR r.sh (Lib.itoa x),r.wh,r.er,r.ns,r.nc,r.pv⟩:=by
 rw [sMax_eq,heed_num r (by decide) (by decide) h0]
 unfold heedN
 rw [if_neg (by decide),if_pos rfl]
theorem heed_wh (r:RuleT) {x:Int} (h0:0≤x):heedD r (sWhN++Lib.itoa x)=⟨r.mx,r.sh,lessR r.wh (Lib.itoa x),r.er,r.ns,r.nc,r.pv⟩:=by
 rw [sWh_eq,heed_num r (by decide) (by decide) h0]
 unfold heedN
 rw [if_neg (by decide),if_neg (by decide),if_pos rfl]
theorem heed_er (r:RuleT) {x:Int} (h0:0≤x):heedD r (sErN++Lib.itoa x)=⟨r.mx,r.sh,r.wh,lessR r.er (Lib.itoa x),r.ns,r.nc,r.pv⟩:=by
 rw [sEr_eq,heed_num r (by decide) (by decide) h0]
 unfold heedN
 rw [if_neg (by decide),if_neg (by decide),if_neg (by decide),if_pos rfl]
theorem rule_back {m:MetaT} (h:MetaOk m):ruleV [joinV (ctlP m)]=ruleM m:=by
 unfold ruleV
 rw [List.foldl_cons,List.foldl_nil,goK_join (ctlP m) [] _ (.inl rfl) (by unfold ctlP;simp) (ctlP_ok h)]
 unfold ctlP ruleM
 cases hk:m.keep
 all_goals
  by_cases hw:m.wh=0
  all_goals
   by_cases he:m.er=0
   all_goals
    simp only [hw,he,if_true,if_false,Bool.false_eq_true,List.nil_append,List.append_nil,List.cons_append,List.foldl_cons,List.foldl_nil,heed_noSt,heed_sh _ h.fr.1,heed_wh _ h.wh.1,heed_er _ h.er.1,RuleT.start,less_new h.fr.1 h.fr.2,less_new h.wh.1 h.wh.2,less_new h.er.1 h.er.2,Bool.not_true,Bool.not_false]
structure KnownF (m:MetaT) (l:List Fld):Prop where
 cc:ofN l ccN=[joinV (ctlP m)]
 et:ofN l etagN=if m.tag=([],false) then [] else [tagTxt m.tag]
 lm:ofN l lmodN=if m.mod= -1 then [] else [dateT m.mod.toNat]
 ag:ofN l ageN=[[48]]
 sk:ofN l skeyN=if m.keys=[] then [] else [joinB m.keys]
 tn:ofN l xtenN=if m.ten=[] then [] else [m.ten]
 xl:ofN l xlenN=[if m.len= -1 then [42] else Lib.itoa m.len]
 xh:ofN l xhavN=if m.len= -1 then [Lib.itoa m.hv] else []
theorem of_if {c:Prop} [Decidable c] (a b:List Fld) (n:List UInt8):ofN (if c then a else b) n=if c then ofN a n else ofN b n:=by split <;> rfl
theorem of_nil (n:List UInt8):ofN [] n=[]:=rfl
theorem of_two (a b:Fld) (n:List UInt8):ofN [a,b] n=ofN [a] n++ofN [b] n:=ofN_app [a] [b] n
theorem known_of {m:MetaT} {X:List Fld} (h:∀n∈[ccN,etagN,lmodN,ageN,skeyN,xtenN,xlenN,xhavN],ofN X n=[]):KnownF m (metaF m++X):=by
 have key:∀n∈[ccN,etagN,lmodN,ageN,skeyN,xtenN,xlenN,xhavN],ofN (metaF m++X) n=ofN (tagF m) n++(ofN (modF m) n++((ofN [(ccN,joinV (ctlP m))] n++ofN [(ageN,[48])] n)++(ofN (keyF m) n++(ofN (tenF m) n++ofN (lenF m) n)))):=fun n hn=>by
  rw [ofN_app,h n hn,List.append_nil]
  unfold metaF
  rw [ofN_app,ofN_app,ofN_app,ofN_app,ofN_app,of_two]
 constructor
 all_goals
  rw [key _ (by simp)]
  unfold tagF modF keyF tenF lenF
  simp only [of_if,of_nil,of_two,ofN_one]
  simp only [show alike etagN etagN=true from by decide,show alike etagN ccN=false from by decide,show alike etagN lmodN=false from by decide,show alike etagN ageN=false from by decide,show alike etagN skeyN=false from by decide,show alike etagN xtenN=false from by decide,show alike etagN xlenN=false from by decide,show alike etagN xhavN=false from by decide,
   show alike lmodN etagN=false from by decide,show alike lmodN ccN=false from by decide,show alike lmodN lmodN=true from by decide,show alike lmodN ageN=false from by decide,show alike lmodN skeyN=false from by decide,show alike lmodN xtenN=false from by decide,show alike lmodN xlenN=false from by decide,show alike lmodN xhavN=false from by decide,
   show alike ccN etagN=false from by decide,show alike ccN ccN=true from by decide,show alike ccN lmodN=false from by decide,show alike ccN ageN=false from by decide,show alike ccN skeyN=false from by decide,show alike ccN xtenN=false from by decide,show alike ccN xlenN=false from by decide,show alike ccN xhavN=false from by decide,
   show alike ageN etagN=false from by decide,show alike ageN ccN=false from by decide,show alike ageN lmodN=false from by decide,show alike ageN ageN=true from by decide,show alike ageN skeyN=false from by decide,show alike ageN xtenN=false from by decide,show alike ageN xlenN=false from by decide,show alike ageN xhavN=false from by decide,
   show alike skeyN etagN=false from by decide,show alike skeyN ccN=false from by decide,show alike skeyN lmodN=false from by decide,show alike skeyN ageN=false from by decide,show alike skeyN skeyN=true from by decide,show alike skeyN xtenN=false from by decide,show alike skeyN xlenN=false from by decide,show alike skeyN xhavN=false from by decide,
   show alike xtenN etagN=false from by decide,show alike xtenN ccN=false from by decide,show alike xtenN lmodN=false from by decide,show alike xtenN ageN=false from by decide,show alike xtenN skeyN=false from by decide,show alike xtenN xtenN=true from by decide,show alike xtenN xlenN=false from by decide,show alike xtenN xhavN=false from by decide,
   show alike xlenN etagN=false from by decide,show alike xlenN ccN=false from by decide,show alike xlenN lmodN=false from by decide,show alike xlenN ageN=false from by decide,show alike xlenN skeyN=false from by decide,show alike xlenN xtenN=false from by decide,show alike xlenN xlenN=true from by decide,show alike xlenN xhavN=false from by decide,
   show alike xhavN etagN=false from by decide,show alike xhavN ccN=false from by decide,show alike xhavN lmodN=false from by decide,show alike xhavN ageN=false from by decide,show alike xhavN skeyN=false from by decide,show alike xhavN xtenN=false from by decide,show alike xhavN xlenN=false from by decide,show alike xhavN xhavN=true from by decide,
   if_true,if_false,Bool.false_eq_true,ite_self,List.nil_append,List.append_nil]
  try (split <;> rfl)
theorem keysB_all:∀(l acc:List (List UInt8)),keysB acc l=true→∀k∈l,keyB k=true
 | [],_,_,k,hk=>by cases hk
 | x::l,acc,h,k,hk=>by
   rw [keysB] at h
   simp only [Bool.and_eq_true] at h
   rcases List.mem_cons.1 hk with rfl | hk
   ·exact h.1.1
   ·exact keysB_all l _ h.2 k hk
def goF (cur:List UInt8):List UInt8→List (List UInt8)
 | []=>if cur=[] then [] else [cur]
 | c::t=>if blk c=true then (if cur=[] then goF [] t else cur::goF [] t) else goF (cur++[c]) t
theorem goF_in:∀(x t cur:List UInt8),(∀c∈x,blk c=false)→goF cur (x++t)=goF (cur++x) t
 | [],t,cur,_=>by simp
 | c::x,t,cur,h=>by
   rw [List.cons_append,goF,if_neg (by rw [h c (by simp)];decide),goF_in x t _ (fun d hd=>h d (List.mem_cons_of_mem _ hd))]
   simp
theorem goF_join:∀(l:List (List UInt8)),(∀k∈l,k≠[]∧∀c∈k,blk c=false)→goF [] (joinB l)=l
 | [],_=>rfl
 | [k],h=>by
   obtain ⟨h1,h2⟩:=h k (by simp)
   have:=goF_in k [] [] h2
   rw [List.append_nil,List.nil_append] at this
   rw [joinB,this,goF,if_neg h1]
 | k::u::t,h=>by
   obtain ⟨h1,h2⟩:=h k (by simp)
   rw [joinB,goF_in k _ [] h2,List.nil_append,goF,if_pos (by decide),if_neg h1,goF_join (u::t) (fun x hx=>h x (List.mem_cons_of_mem _ hx))]
end Go.Proofs.YtflepnkpihfidaaGreatDoor
