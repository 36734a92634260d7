/- Parts. No conditions but those that each theorem names. -/
import Derived.Test.YtflepnkpihfidaaGreatDoorJClientL
import Derived.Sort.LotA
import Derived.Shelf.SlSortCmp.Insertion
set_option linter.unusedVariables false
set_option linter.unusedSimpArgs false
namespace Go.Proofs.YtflepnkpihfidaaGreatDoor
open Go.Sort
structure MetaT where
 tag:TagT
 mod:Int
 len:Int
 hv:Int
 fr:Int
 wh:Int
 er:Int
 keys:List (List UInt8)
 ten:List UInt8
 keep:Bool
def weakT (a b:TagT):Bool:=tagB a.1&&(tagB b.1&&a.1==b.1)
def strongT (a b:TagT):Bool:=!a.2&&(!b.2&&weakT a b)
def inT (l:List TagT) (t:TagT) (s:Bool):Bool:=l.any fun x=>if s then strongT x t else weakT x t
def checkR (q:ReqT) (m:MetaT):Nat:=if q.2.2.1≠[]∧q.2.2.2.rg≠([],false)∧strongT m.tag q.2.2.2.rg=false then 2 else 1
def checkN (q:ReqT) (m:MetaT):Nat:=
 if q.2.2.2.no≠[]∨q.2.2.2.an=true then (if q.2.2.2.an||inT q.2.2.2.no m.tag false then 3 else checkR q m)
 else if 0≤q.2.2.2.si∧m.len≠-1∧0≤m.mod∧m.mod≤q.2.2.2.si then 3 else checkR q m
def checkL (q:ReqT) (m:MetaT):Nat:=
 if q.2.2.2.mt≠[]∨q.2.2.2.am=true then (if q.2.2.2.am||inT q.2.2.2.mt m.tag true then checkN q m else 4)
 else if 0≤q.2.2.2.un∧0≤m.mod∧q.2.2.2.un < m.mod then 4 else checkN q m
theorem checkR_le (q:ReqT) (m:MetaT):1≤checkR q m∧checkR q m≤2:=by unfold checkR;split <;> omega
theorem checkN_le (q:ReqT) (m:MetaT):1≤checkN q m∧checkN q m≤3:=by
 have:=checkR_le q m
 unfold checkN
 repeat' split
 all_goals omega
theorem checkL_le (q:ReqT) (m:MetaT):1≤checkL q m∧checkL q m≤4:=by
 have:=checkN_le q m
 unfold checkL
 repeat' split
 all_goals omega
def keyC (c:UInt8):Bool:=decide (33≤c.toNat)&&decide (c.toNat≤126)
def keyB (k:List UInt8):Bool:=decide (1≤k.length)&&(decide (k.length≤200)&&k.all keyC)
def keysB (acc:List (List UInt8)):List (List UInt8)→Bool
 | []=>true
 | k::r=>(keyB k&&!acc.contains k)&&keysB (acc++[k]) r
def tenC (c:UInt8):Bool:=letterC c||(c==45||c==95)
def tenB (t:List UInt8):Bool:=decide (t.length≤40)&&(!([45].isPrefixOf t)&&t.all tenC)
def ticksB (n:Int):Bool:=decide (0≤n)&&decide (n≤1099511627776)
def metaNum (m:MetaT):Bool:=(decide (-1≤m.mod)&&decide (m.mod≤253402300799)&&decide (-1≤m.len)&&decide (m.len≤1099511627776))&&((decide (0≤m.hv)&&decide (m.hv≤1099511627776)&&(decide (m.len= -1)||decide (m.hv=m.len)))&&(ticksB m.fr&&ticksB m.wh&&ticksB m.er))
def metaB (m:MetaT):Bool:=(decide (m.tag=([],false))||tagB m.tag.1)&&(metaNum m&&((decide (m.keys.length≤32)&&tenB m.ten)&&keysB [] m.keys))
theorem ticksB_iff {n:Int}:ticksB n=true↔0≤n∧n≤1099511627776:=by unfold ticksB;simp
structure MetaOk (m:MetaT):Prop where
 tag:m.tag=([],false)∨tagB m.tag.1=true
 mod:-1≤m.mod∧m.mod≤253402300799
 len:-1≤m.len∧m.len≤1099511627776
 hv:0≤m.hv∧m.hv≤1099511627776
 hl:m.len= -1∨m.hv=m.len
 fr:0≤m.fr∧m.fr≤1099511627776
 wh:0≤m.wh∧m.wh≤1099511627776
 er:0≤m.er∧m.er≤1099511627776
 few:m.keys.length≤32
 ten:tenB m.ten=true
 keys:keysB [] m.keys=true
theorem metaB_iff {m:MetaT}:metaB m=true↔MetaOk m:=by
 unfold metaB metaNum
 simp only [Bool.and_eq_true,Bool.or_eq_true,decide_eq_true_eq,ticksB_iff,and_assoc]
 constructor
 ·rintro ⟨h1,h2,h3,h4,h5,h6,h7,h8,h9,h10,h11,h12,h13,h14,h15,h16,h17⟩
  exact ⟨h1,⟨h2,h3⟩,⟨h4,h5⟩,⟨h6,h7⟩,h8,⟨h9,h10⟩,⟨h11,h12⟩,⟨h13,h14⟩,h15,h16,h17⟩
 ·rintro ⟨h1,⟨h2,h3⟩,⟨h4,h5⟩,⟨h6,h7⟩,h8,⟨h9,h10⟩,⟨h11,h12⟩,⟨h13,h14⟩,h15,h16,h17⟩
  exact ⟨h1,h2,h3,h4,h5,h6,h7,h8,h9,h10,h11,h12,h13,h14,h15,h16,h17⟩
def etagN:List UInt8:=[69,84,97,103]
def lmodN:List UInt8:=[76,97,115,116,45,77,111,100,105,102,105,101,100]
def ccN:List UInt8:=[67,97,99,104,101,45,67,111,110,116,114,111,108]
def ageN:List UInt8:=[65,103,101]
def skeyN:List UInt8:=[83,117,114,114,111,103,97,116,101,45,75,101,121]
def xtenN:List UInt8:=[88,45,84,101,110,97,110,116]
def xlenN:List UInt8:=[88,45,76,101,110,103,116,104]
def xhavN:List UInt8:=[88,45,72,97,118,101]
def noStN:List UInt8:=[110,111,45,115,116,111,114,101]
def sMaxN:List UInt8:=[115,45,109,97,120,97,103,101,61]
def sWhN:List UInt8:=[115,116,97,108,101,45,119,104,105,108,101,45,114,101,118,97,108,105,100,97,116,101,61]
def sErN:List UInt8:=[115,116,97,108,101,45,105,102,45,101,114,114,111,114,61]
def ctlP (m:MetaT):List (List UInt8):=
 (if m.keep then [] else [noStN])++([sMaxN++Lib.itoa m.fr]++((if m.wh=0 then [] else [sWhN++Lib.itoa m.wh])++(if m.er=0 then [] else [sErN++Lib.itoa m.er])))
def joinB:List (List UInt8)→List UInt8
 | []=>[]
 | [t]=>t
 | t::u::r=>t++(32::joinB (u::r))
def tagF (m:MetaT):List Fld:=if m.tag=([],false) then [] else [(etagN,tagTxt m.tag)]
def modF (m:MetaT):List Fld:=if m.mod= -1 then [] else [(lmodN,dateT m.mod.toNat)]
def keyF (m:MetaT):List Fld:=if m.keys=[] then [] else [(skeyN,joinB m.keys)]
def tenF (m:MetaT):List Fld:=if m.ten=[] then [] else [(xtenN,m.ten)]
def lenF (m:MetaT):List Fld:=if m.len= -1 then [(xlenN,[42]),(xhavN,Lib.itoa m.hv)] else [(xlenN,Lib.itoa m.len)]
def metaF (m:MetaT):List Fld:=tagF m++(modF m++([(ccN,joinV (ctlP m)),(ageN,[48])]++(keyF m++(tenF m++lenF m))))
def bytesS (x:SpecT) (have_:Int):Option (Int×Int):=
 if specB x=true then
  (if x.1 < 0 then (if max (have_-x.2) 0 < have_ then some (max (have_-x.2) 0,have_) else none)
   else if 0≤x.2 then (if x.1 < min (x.2+1) have_ then some (x.1,min (x.2+1) have_) else none)
   else (if x.1 < have_ then some (x.1,have_) else none))
 else none
def resL (l:List SpecT) (have_:Int):List (Int×Int):=l.filterMap fun x=>bytesS x have_
def sumS (l:List (Int×Int)):Int:=(l.map fun s=>s.2-s.1).sum
def costL (l:List SpecT) (have_ most:Int):Bool:=decide (most < (l.length:Int))||decide (2*have_ < sumS (resL l have_))
abbrev FoT:=(Int×Int)×Int
def cfFrom (a b:FoT):Int:=Lib.compareInt a.1.1 b.1.1
def cfPlace (a b:FoT):Int:=Lib.compareInt a.2 b.2
def foldStep (one:List FoT) (f:FoT):List FoT:=match one.getLast? with
 | none=>[f]
 | some g=>if f.1.1≤g.1.2 then one.dropLast++[((g.1.1,max g.1.2 f.1.2),min g.2 f.2)] else one++[f]
def placed (l:List (Int×Int)):List FoT:=l.zipIdx.map fun p=>(p.1,(p.2:Int))
def sortBy (cf:FoT→FoT→Int) (l:List FoT):List FoT:=(Go.Sort.insertionSort (ltOf cf) l.toArray 0 l.length).toList
def foldL (l:List (Int×Int)):List (Int×Int):=(sortBy cfPlace ((sortBy cfFrom (placed l)).foldl foldStep [])).map (·.1)
abbrev AnsT:=Int×List Fld×List PartT×Int
def kindO:List UInt8:=[97,112,112,108,105,99,97,116,105,111,110,47,111,99,116,101,116,45,115,116,114,101,97,109]
def starN:List UInt8:=[98,121,116,101,115,32,42,47]
def partLen (p:PartT):Int:=if p.1=[] then p.2.2-p.2.1 else (p.1.length:Int)
def sizePs (ps:List PartT):Int:=(ps.map partLen).sum
def partsOf (sp:List (Int×Int)) (m:MetaT) (seed:Int):List Fld×List PartT:=match sp with
 | [s]=>([(crN,contentL s.1 s.2 m.len)],[([],s.1,s.2)])
 | _=>([(ctN,sevN++boundN seed)],partsL m.len kindO (boundN seed) sp)
def rangedL (l:List SpecT) (m:MetaT) (seed:Int):AnsT:=
 if resL l m.hv=[] then (416,metaF m++[(crN,starN++Lib.itoa (if m.len= -1 then m.hv else m.len))],[],0)
 else (206,metaF m++(partsOf (foldL (resL l m.hv)) m seed).1,(partsOf (foldL (resL l m.hv)) m seed).2,sizePs (partsOf (foldL (resL l m.hv)) m seed).2)
def fullL (head:Bool) (m:MetaT):AnsT:=(200,metaF m,if head=true∨m.len=0 then [] else [([],0,if m.len= -1 then 4611686018427387904 else m.len)],m.len)
def shapeL (q:ReqT) (m:MetaT) (oc:Nat) (most seed:Int):AnsT:=
 if oc=3 then (304,metaF m,[],0) else if oc=4 then (412,metaF m,[],0)
 else if oc=1∧q.1=false∧q.2.2.1≠[]∧costL q.2.2.1 m.hv most=false then rangedL q.2.2.1 m seed else fullL q.1 m
def spansP (ps:List PartT):List (Int×Int):=(ps.filter fun p=>p.1.isEmpty).map (·.2)
structure InS (n:Int) (s:Int×Int):Prop where
 lo:0≤s.1
 lt:s.1 < s.2
 hi:s.2≤n
theorem bytesS_in {x:SpecT} {n:Int} {s:Int×Int} (h:bytesS x n=some s):InS n s:=by
 unfold bytesS at h
 by_cases hx:specB x=true
 ·rw [if_pos hx] at h
  have hi:=specB_lo hx
  by_cases h1:x.1 < 0
  ·rw [if_pos h1] at h
   split at h
   ·cases h;exact ⟨by simp only;omega,by assumption,by simp⟩
   ·cases h
  ·rw [if_neg h1] at h
   by_cases h2:0≤x.2
   ·rw [if_pos h2] at h
    split at h
    ·cases h;exact ⟨by simp only;omega,by assumption,by simp only;omega⟩
    ·cases h
   ·rw [if_neg h2] at h
    split at h
    ·cases h;exact ⟨by simp only;omega,by assumption,by simp⟩
    ·cases h
 ·rw [if_neg hx] at h;cases h
theorem resL_in {l:List SpecT} {n:Int}:∀s∈resL l n,InS n s:=fun s hs=>by
 obtain ⟨x,_,h⟩:=List.mem_filterMap.1 hs
 exact bytesS_in h
theorem resL_len (l:List SpecT) (n:Int):(resL l n).length≤l.length:=List.length_filterMap_le _ _
theorem swoFrom:SWO (ltOf cfFrom) where
 irrefl x:=by unfold ltOf cfFrom Lib.compareInt;simp
 trans x y z h1 h2:=by
  unfold ltOf cfFrom Lib.compareInt at *
  simp only [decide_eq_true_eq] at *
  repeat' split at h1
  all_goals repeat' split at h2
  all_goals repeat' split
  all_goals omega
 ntrans x y z h1 h2:=by
  unfold ltOf cfFrom Lib.compareInt at *
  simp only [decide_eq_false_iff_not] at *
  repeat' split at h1
  all_goals repeat' split at h2
  all_goals repeat' split
  all_goals omega
theorem swoPlace:SWO (ltOf cfPlace) where
 irrefl x:=by unfold ltOf cfPlace Lib.compareInt;simp
 trans x y z h1 h2:=by
  unfold ltOf cfPlace Lib.compareInt at *
  simp only [decide_eq_true_eq] at *
  repeat' split at h1
  all_goals repeat' split at h2
  all_goals repeat' split
  all_goals omega
 ntrans x y z h1 h2:=by
  unfold ltOf cfPlace Lib.compareInt at *
  simp only [decide_eq_false_iff_not] at *
  repeat' split at h1
  all_goals repeat' split at h2
  all_goals repeat' split
  all_goals omega
theorem sortBy_perm {cf:FoT→FoT→Int} (h:SWO (ltOf cf)) (l:List FoT):(sortBy cf l).Perm l:=by
 have:=(insertionSort_holds (lt:=ltOf cf) h l.toArray 0 l.length (Nat.zero_le _) (by simp)).1
 obtain ⟨h1,_,h3⟩:=this
 unfold sortBy
 have e:∀a:Array FoT,a.size=l.length→(a.extract 0 l.length).toList=a.toList:=fun a ha=>by rw [←ha];simp
 rw [e _ (by rw [h1];simp),e _ (by simp)] at h3
 simpa using h3
theorem placed_fst (l:List (Int×Int)):(placed l).map (·.1)=l:=by
 unfold placed;rw [List.map_map];simp [Function.comp_def]
theorem foldStep_in {n:Int} {one:List FoT} {f:FoT} (h:∀g∈one,InS n g.1) (hf:InS n f.1):∀g∈foldStep one f,InS n g.1:=by
 unfold foldStep
 rcases nil_or_snoc one with rfl | ⟨t,g,rfl⟩
 ·intro x hx;simp at hx;rw [hx];exact hf
 ·rw [List.getLast?_concat]
  simp only
  have hg:=h g (by simp)
  split
  ·intro x hx
   rw [List.dropLast_concat] at hx
   rcases List.mem_append.1 hx with hx | hx
   ·exact h x (by simp [hx])
   ·simp at hx;rw [hx]
    exact ⟨hg.lo,by simp only;have:=hg.lt;omega,by simp only;have:=hg.hi;have:=hf.hi;omega⟩
  ·intro x hx
   rcases List.mem_append.1 hx with hx | hx
   ·exact h x hx
   ·simp at hx;rw [hx];exact hf
theorem foldStep_ne (one:List FoT) (f:FoT):foldStep one f≠[]∧(foldStep one f).length≤one.length+1:=by
 unfold foldStep
 rcases nil_or_snoc one with rfl | ⟨t,g,rfl⟩
 ·simp
 ·rw [List.getLast?_concat]
  simp only
  split
  ·rw [List.dropLast_concat];simp
  ·simp
theorem foldAll_in {n:Int}:∀(l one:List FoT),(∀g∈one,InS n g.1)→(∀g∈l,InS n g.1)→(∀g∈l.foldl foldStep one,InS n g.1)∧(l.foldl foldStep one).length≤one.length+l.length∧((one≠[]∨l≠[])→l.foldl foldStep one≠[])
 | [],one,h,_=>⟨h,by simp,fun h=>by rcases h with h | h;exact h;exact absurd rfl h⟩
 | f::l,one,h,hl=>by
   have hs:=foldStep_ne one f
   obtain ⟨h1,h2,h3⟩:=foldAll_in l (foldStep one f) (foldStep_in h (hl f (by simp))) (fun g hg=>hl g (by simp [hg]))
   refine ⟨h1,?_,fun _=>h3 (.inl hs.1)⟩
   simp only [List.foldl_cons,List.length_cons];omega
theorem foldL_in {n:Int} {l:List (Int×Int)} (h:∀s∈l,InS n s):(∀s∈foldL l,InS n s)∧(foldL l).length≤l.length∧(l≠[]→foldL l≠[]):=by
 have p1:=sortBy_perm swoFrom (placed l)
 have hp:∀g∈sortBy cfFrom (placed l),InS n g.1:=fun g hg=>h _ (by
  have:g.1∈(placed l).map (·.1):=List.mem_map.2 ⟨g,p1.mem_iff.1 hg,rfl⟩
  rwa [placed_fst] at this)
 have hl1:(sortBy cfFrom (placed l)).length=l.length:=by rw [p1.length_eq];have:=congrArg List.length (placed_fst l);simpa using this
 obtain ⟨h1,h2,h3⟩:=foldAll_in (n:=n) (sortBy cfFrom (placed l)) [] (by simp) hp
 have p2:=sortBy_perm swoPlace ((sortBy cfFrom (placed l)).foldl foldStep [])
 unfold foldL
 refine ⟨fun s hs=>?_,?_,fun hl=>?_⟩
 ·obtain ⟨g,hg,rfl⟩:=List.mem_map.1 hs
  exact h1 g (p2.mem_iff.1 hg)
 ·rw [List.length_map,p2.length_eq];simp only [List.length_nil,Nat.zero_add] at h2;omega
 ·have hne:sortBy cfFrom (placed l)≠[]:=fun e=>by rw [e] at hl1;exact hl (List.eq_nil_of_length_eq_zero hl1.symm)
  have h4:=h3 (.inr hne)
  intro e
  have:=congrArg List.length e
  rw [List.length_map,p2.length_eq] at this
  exact h4 (List.eq_nil_of_length_eq_zero this)
theorem sumS_app (a b:List (Int×Int)):sumS (a++b)=sumS a+sumS b:=by unfold sumS;simp
theorem sumS_pos {n:Int} {l:List (Int×Int)} (h:∀s∈l,InS n s):0≤sumS l∧sumS l≤l.length*n:=by
 induction l with
 | nil=>simp [sumS]
 | cons s l ih=>
   have:=ih (fun x hx=>h x (List.mem_cons_of_mem _ hx))
   have hs:=h s (by simp)
   have h1:=hs.lt;have h2:=hs.lo;have h3:=hs.hi
   simp only [sumS,List.map_cons,List.sum_cons,List.length_cons] at *
   rw [Int.natCast_add,Int.add_mul]
   omega
end Go.Proofs.YtflepnkpihfidaaGreatDoor
namespace Go.Proofs.YtflepnkpihfidaaGreatDoor
theorem whole_ok {st sz:Int} {fs:List Fld} {ps:List PartT} {obj:List UInt8} (hst:100≤st∧st≤599) (hsz:0≤sz∧sz≤1099511627776) (hr:fs.all right=true) (hn:fs.length≤50) (hb:bulk2 fs≤4000)
  (h1:ofN fs lengthN=[]) (h2:ofN fs codingN=[]) (hin:gIn obj ps=true) (hs:bodB st=true→sz=((fillL obj ps).length:Int)):(wholeR st fs ps sz obj).2=0:=by
 have hT:tellB st fs sz=true:=tellB_iff.2 ⟨hst.1,hst.2,by omega,hsz.2,h1,h2⟩
 have hok:wholeOk st fs ps sz obj=true:=wholeOk_iff.2 ⟨hT,hin,fun hb _=>hs hb⟩
 have hF:(headF st fs sz).all right=true∧(headF st fs sz).length≤51∧bulk2 (headF st fs sz)≤4100:=by
  unfold headF
  split
  ·have hl:=itoa_len_int (x:=sz) hsz.1 (by omega)
   unfold sizeF
   rw [if_neg (by omega),List.all_append,hr,bulk2_app]
   refine ⟨by simp [length_right hsz.1 (by omega:sz≤9223372036854775807)],by simp;omega,?_⟩
   unfold bulk2 at *
   simp [lengthN];omega
  ·exact ⟨hr,by omega,by omega⟩
 have hput:(put (headF st fs sz)).2=0:=by
  unfold put
  rw [hF.1,if_pos rfl,if_neg]
  have hbl:(block (headF st fs sz)).length≤65536:=by rw [block_len,lines_len];omega
  rintro (h | h) <;> omega
 have hte:(tellsB [] [] st||asksB [] [] st)=true:=by
  have:tellsB [] [] st=true:=by unfold tellsB;simp;omega
  rw [this];rfl
 have hH:(putH ([],[],st,headF st fs sz)).2=0:=by
  rw [putH_good (T:=([],[],st,headF st fs sz)) hte hput]
 have he:headR st fs sz=putH ([],[],st,headF st fs sz):=by unfold headR;rw [hT];rfl
 unfold wholeR
 rw [hok,if_pos rfl,he]
 split
 ·rfl
 ·exact hH
def Reads (a:AnsT) (obj:List UInt8):Prop:=∃(H:ClH) (fr:FrT) (b:List UInt8),nowL getB (wholeR a.1 a.2.1 a.2.2.1 a.2.2.2 obj).1=.body H fr b∧endBody H fr b=0∧H.st=a.1∧clBytes H b=(spansP a.2.2.1).map (fun s=>(s,objL obj s))∧H.kind≠3
theorem frame_ok {st sz:Int} {fs:List Fld} {ps:List PartT} {obj:List UInt8} (h:(wholeR st fs ps sz obj).2=0) (hsz:0≤sz):frameL st (headF st fs sz) getB=if bodB st then (1,sz,0) else (4,0,0):=by
 rw [frame_head (told_of h).tell,if_neg (by omega:¬sz= -1)]
theorem read_other {st sz:Int} {fs:List Fld} {ps:List PartT} {obj:List UInt8} (h:(wholeR st fs ps sz obj).2=0) (hl:(fillL obj ps).length≤100000) (hsz:0≤sz) (h6:st≠206) (h2:st≠200) (hz:spansP ps=[]):Reads (st,fs,ps,sz) obj:=by
 obtain ⟨k,z,fr,hfr,hst,hk,hn⟩:=now_whole getB h hl rfl
 have hf:=frame_ok h hsz
 have hk3:k≠3:=by
  rw [hfr] at hf
  intro e
  split at hf <;> simp only [Prod.mk.injEq] at hf <;> omega
 have hh:heedR getB st (headF st fs sz)=.body ⟨st,headF st fs sz,k,z,0,0,0,[]⟩ (FrT.new k z) []:=by
  unfold heedR
  rw [hfr]
  simp only [ne_eq,not_true_eq_false,if_false,Int.toNat_natCast,if_neg h6,if_neg h2]
 refine ⟨_,fr,_,hn _ hh (fun e=>by cases e),?_,rfl,?_,hk3⟩
 ·unfold endBody
  rw [hst]
  simp
 ·unfold clBytes
  simp only [hz,List.map_nil]
  rfl
theorem read_full {sz:Int} {fs:List Fld} {ps:List PartT} {obj:List UInt8} (h:(wholeR 200 fs ps sz obj).2=0) (hl:(fillL obj ps).length≤100000) (hsz:0≤sz) (hf:fillL obj ps=obj) (hz:spansP ps=if obj=[] then [] else [(0,(obj.length:Int))]):Reads (200,fs,ps,sz) obj:=by
 obtain ⟨k,z,fr,hfr,hst,hk,hn⟩:=now_whole getB h hl rfl
 have hff:=frame_ok h hsz
 have hk3:k≠3:=by
  rw [hfr] at hff
  intro e
  split at hff <;> simp only [Prod.mk.injEq] at hff <;> omega
 have hh:heedR getB 200 (headF 200 fs sz)=.body ⟨200,headF 200 fs sz,k,z,1,0,0,[]⟩ (FrT.new k z) []:=by
  unfold heedR
  rw [hfr]
  simp only [ne_eq,not_true_eq_false,if_false,Int.toNat_natCast,if_true]
 rw [hf] at hn
 simp only [show bodB 200=true from by decide,if_true] at hn
 refine ⟨_,fr,_,hn _ hh (fun e=>by cases e),?_,rfl,?_,hk3⟩
 ·unfold endBody
  rw [hst]
  simp
 ·unfold clBytes
  simp only [hz]
  by_cases ho:obj=[]
  ·rw [if_pos ho];simp [ho]
  ·rw [if_neg ho];simp [ho,objL]
theorem read_one {fs0 fs1:List Fld} {f t n:Int} {obj:List UInt8} {sz:Int} (h:(wholeR 206 fs0 [([],f,t)] sz obj).2=0) (hl:(fillL obj [([],f,t)]).length≤100000) (hc:contB f t n=true) (ht:t≤obj.length) (hg:(getN (headF 206 fs0 sz) crN).1=contentL f t n) (hsz:sz=t-f):Reads (206,fs0,[([],f,t)],sz) obj:=by
 have hc':=cont_parts hc
 obtain ⟨k,z,fr,hfr,hst,hk,hn⟩:=now_whole getB h hl rfl
 have hff:=frame_ok h (by omega)
 rw [if_pos (by decide),hfr] at hff
 simp only [Prod.mk.injEq,and_true] at hff
 have hfill:fillL obj [([],f,t)]=objL obj (f,t):=by unfold fillL;simp
 have hlen:(objL obj (f,t)).length=(t-f).toNat:=objL_len (s:=(f,t)) hc ht
 rw [hfill] at hn
 simp only [show bodB 206=true from by decide,if_true] at hn
 have hh:heedR getB 206 (headF 206 fs0 sz)=.body ⟨206,headF 206 fs0 sz,k,z,2,f,t,[]⟩ (FrT.new k z) []:=by
  unfold heedR
  rw [hfr]
  simp only [ne_eq,not_true_eq_false,if_false,Int.toNat_natCast]
  rw [if_neg (by decide),if_pos trivial]
  unfold rangedR
  rw [hg,rangeR_content hc]
  simp only
  rw [if_neg]
  rintro ⟨_,h4⟩
  omega
 refine ⟨_,fr,_,hn _ hh (fun _=>by simp only;omega),?_,rfl,?_,by simp only;omega⟩
 ·unfold endBody
  rw [hst]
  simp only [Bool.true_eq_false,if_false]
  rw [if_neg (by omega),if_pos trivial,if_neg (by omega)]
 ·unfold clBytes
  have hne:objL obj (f,t)≠[]:=by intro e;rw [e] at hlen;simp at hlen;omega
  have he:f+((objL obj (f,t)).length:Int)=t:=by omega
  simp [hne,spansP,he]
theorem spans_parts (tot:Int) (kind bnd:List UInt8):∀(l:List (Int×Int)) (ah:List UInt8),spansP (partsB tot kind bnd l ah++[(endL bnd,0,0)])=l
 | [],ah=>by simp [partsB,spansP,endL]
 | s::l,ah=>by
   have ih:=spans_parts tot kind bnd l [13,10]
   unfold spansP at *
   have hne:(ptext tot kind bnd ah s).isEmpty=false:=by
    have:=ptext_ne tot kind bnd ah s
    cases h:ptext tot kind bnd ah s with
    | nil=>exact absurd h this
    | cons _ _=>rfl
   simp only [partsB,List.cons_append,List.filter_cons,hne,Bool.false_eq_true,if_false,List.isEmpty_nil,if_true,List.map_cons,ih]
theorem kindO_ok:kindB kindO=true∧∀c∈kindO,c≠13:=by decide
theorem read_many {fs0:List Fld} {n seed:Int} {l:List (Int×Int)} {obj:List UInt8} {sz:Int} (h:(wholeR 206 fs0 (partsL n kindO (boundN seed) l) sz obj).2=0) (hl:(fillL obj (partsL n kindO (boundN seed) l)).length≤100000) (hsz:0≤sz)
  (hne:l≠[]) (hc:∀s∈l,contB s.1 s.2 n=true∧s.2≤obj.length) (hg1:rangeR (getN (headF 206 fs0 sz) crN).1=none) (hg2:(getN (headF 206 fs0 sz) ctN).1=sevN++boundN seed):Reads (206,fs0,partsL n kindO (boundN seed) l,sz) obj:=by
 obtain ⟨k,z,fr,hfr,hst,hk,hn⟩:=now_whole getB h hl rfl
 have hff:=frame_ok h hsz
 rw [if_pos (by decide),hfr] at hff
 simp only [Prod.mk.injEq,and_true] at hff
 rw [fill_parts] at hn
 simp only [show bodB 206=true from by decide,if_true] at hn
 have hB:BodyOk n kindO (boundN seed) obj l:=⟨hc,kindO_ok.1,kindO_ok.2,boundN_ok seed⟩
 have hm:=multiL_body [] hB hne
 rw [List.append_nil,if_pos rfl] at hm
 have hh:heedR getB 206 (headF 206 fs0 sz)=.body ⟨206,headF 206 fs0 sz,k,z,3,0,0,boundN seed⟩ (FrT.new k z) []:=by
  unfold heedR
  rw [hfr]
  simp only [ne_eq,not_true_eq_false,if_false,Int.toNat_natCast]
  rw [if_neg (by decide),if_pos trivial]
  unfold rangedR
  rw [hg1,hg2,strip_app]
  simp only
  rw [boundN_ok,if_pos rfl]
 refine ⟨_,fr,_,hn _ hh (fun e=>by cases e),?_,rfl,?_,by simp only;omega⟩
 ·unfold endBody
  rw [hst]
  simp only [Bool.true_eq_false,if_false]
  rw [if_neg (by omega),if_neg (by decide),if_pos trivial,hm]
 ·unfold clBytes
  simp only [if_true]
  rw [hm]
  simp only
  have hsp:spansP (partsL n kindO (boundN seed) l)=l:=spans_parts n kindO (boundN seed) l []
  rw [hsp]
  unfold piecesL
  rw [List.map_map]
  rfl
def mS (n:Int):MetaT:=⟨([118],false),-1,n,n,5,0,0,[],[],true⟩
def mSF (n:Int):List Fld:=[(etagN,[34,118,34]),(ccN,sMaxN++[53]),(ageN,[48]),(xlenN,Lib.itoa n)]
theorem itoa5:Lib.itoa 5=[53]:=by
 unfold Lib.itoa
 rw [if_neg (by omega),show (5:Int).toNat=5 from rfl,Lib.decDigits,dif_pos (by omega)]
 rfl
theorem metaF_mS {n:Int} (h:0≤n):metaF (mS n)=mSF n:=by
 unfold metaF tagF modF keyF tenF lenF ctlP mS mSF
 simp only [if_true,if_neg (show ¬n= -1 by omega),List.nil_append,List.append_nil,itoa5,joinV,List.cons_append]
 rw [show tagTxt ([118],false)=[34,118,34] from by decide]
 rfl
theorem mS_ok {n:Int} (h:0≤n) (h2:n≤80):MetaOk (mS n):=
 ⟨.inr (show tagB [118]=true by decide),show (-1:Int)≤-1∧(-1:Int)≤253402300799 by decide,⟨by unfold mS;simp only;omega,by unfold mS;simp only;omega⟩,⟨h,by unfold mS;simp only;omega⟩,.inr rfl,show (0:Int)≤5∧(5:Int)≤1099511627776 by decide,show (0:Int)≤0∧(0:Int)≤1099511627776 by decide,show (0:Int)≤0∧(0:Int)≤1099511627776 by decide,show ([]:List (List UInt8)).length≤32 by decide,show tenB []=true by decide,rfl⟩
theorem xlen_right {x:Int} (h0:0≤x) (h1:x≤9223372036854775807):right (xlenN,Lib.itoa x)=true:=by
 have hl:=itoa_len_int h0 h1
 have hd:=itoa_all h0
 rw [right_rest (by decide) (by decide) (by omega) (by rw [trim_all (fun c hc=>(dig_ne (hd c hc)).2.2)];exact beq_self_eq_true _)]
 exact List.all_eq_true.2 fun c hc=>dig_vis (hd c hc)
theorem mSF_ok {n:Int} (h:0≤n) (h2:n≤80) (X:List Fld) (hX:X.all right=true) (hx:X.length≤2) (hb:bulk2 X≤1000):(mSF n++X).all right=true∧(mSF n++X).length≤50∧bulk2 (mSF n++X)≤4000:=by
 have hl:=itoa_len_int (x:=n) h (by omega)
 refine ⟨?_,by simp [mSF];omega,?_⟩
 ·rw [List.all_append,hX,Bool.and_true]
  unfold mSF
  simp only [List.all_cons,List.all_nil,Bool.and_true,xlen_right h (by omega:n≤9223372036854775807)]
  decide
 ·rw [bulk2_app]
  unfold bulk2 mSF at *
  simp [etagN,ccN,ageN,xlenN,sMaxN]
  omega
theorem mSF_of {n:Int} (X:List Fld) (nm:List UInt8) (h:([etagN,ccN,ageN,xlenN].all fun x=>!alike x nm)=true):ofN (mSF n++X) nm=ofN X nm:=by
 simp only [List.all_cons,List.all_nil,Bool.and_true,Bool.and_eq_true,Bool.not_eq_true'] at h
 rw [ofN_app]
 unfold mSF
 rw [show [(etagN,[34,118,34]),(ccN,sMaxN++[53]),(ageN,[48]),(xlenN,Lib.itoa n)]=[(etagN,([34,118,34]:List UInt8))]++([(ccN,sMaxN++[53])]++([(ageN,[48])]++[(xlenN,Lib.itoa n)])) from rfl]
 rw [ofN_app,ofN_app,ofN_app,ofN_one,ofN_one,ofN_one,ofN_one,h.1,h.2.1,h.2.2.1,h.2.2.2]
 rfl
theorem headF_get {st sz n:Int} (hsz:0≤sz) (X:List Fld) (nm:List UInt8) (h:([etagN,ccN,ageN,xlenN,lengthN].all fun x=>!alike x nm)=true):ofN (headF st (mSF n++X) sz) nm=ofN X nm:=by
 have h':=h
 simp only [List.all_cons,List.all_nil,Bool.and_true,Bool.and_eq_true,Bool.not_eq_true'] at h'
 have h4:([etagN,ccN,ageN,xlenN].all fun x=>!alike x nm)=true:=by simp [h'.1,h'.2.1,h'.2.2.1,h'.2.2.2.1]
 unfold headF
 split
 ·rw [ofN_app,mSF_of X nm h4]
  unfold sizeF
  rw [if_neg (by omega),ofN_one,h'.2.2.2.2]
  simp
 ·exact mSF_of X nm h4
theorem sizePs_fill {obj:List UInt8}:∀{ps:List PartT},(∀p∈ps,p.1=[]→0≤p.2.1∧p.2.1≤p.2.2∧p.2.2≤obj.length)→sizePs ps=((fillL obj ps).length:Int)
 | [],_=>rfl
 | p::ps,h=>by
   have ih:=sizePs_fill (fun q hq=>h q (List.mem_cons_of_mem _ hq))
   have hp:=h p (by simp)
   unfold sizePs fillL at *
   simp only [List.map_cons,List.sum_cons,List.flatMap_cons,List.length_append,ih]
   unfold partLen
   by_cases h1:p.1=[]
   ·obtain ⟨a,b,c⟩:=hp h1
    rw [if_pos h1,if_pos h1]
    have:(objL obj p.2).length=(p.2.2-p.2.1).toNat:=by unfold objL;rw [List.length_take,List.length_drop];omega
    rw [this];omega
   ·rw [if_neg h1,if_neg h1];omega
theorem partsL_in {obj:List UInt8} {tot:Int} {kind bnd:List UInt8} {l:List (Int×Int)} (h:∀s∈l,InS obj.length s):∀(ah:List UInt8),∀p∈partsB tot kind bnd l ah++[(endL bnd,0,0)],p.1=[]→0≤p.2.1∧p.2.1≤p.2.2∧p.2.2≤(obj.length:Int):=by
 induction l with
 | nil=>
   intro ah p hp h1
   simp [partsB] at hp
   subst hp
   exact absurd h1 (endL_ne bnd)
 | cons s l ih=>
   intro ah p hp h1
   simp only [partsB,List.cons_append,List.mem_cons] at hp
   rcases hp with rfl | rfl | hp
   ·exact absurd h1 (ptext_ne tot kind bnd ah s)
   ·have:=h s (by simp)
    exact ⟨this.lo,by have:=this.lt;simp only;omega,this.hi⟩
   ·exact ih (fun x hx=>h x (List.mem_cons_of_mem _ hx)) [13,10] p hp h1
theorem gIn_of {obj:List UInt8} {ps:List PartT} (h:∀p∈ps,p.1=[]→0≤p.2.1∧p.2.1≤p.2.2∧p.2.2≤obj.length) (ho:obj.length≤1000000):gIn obj ps=true:=by
 unfold gIn
 rw [List.all_eq_true]
 intro p hp
 unfold gIn1
 by_cases h1:p.1=[]
 ·obtain ⟨a,b,c⟩:=h p hp h1
  unfold spanB
  simp;right;omega
 ·cases hh:p.1 with
  | nil=>exact absurd hh h1
  | cons _ _=>rfl
theorem bodyL_len {tot:Int} {kind bnd obj:List UInt8}:∀(l:List (Int×Int)) (ah:List UInt8),(bodyL tot kind bnd obj l ah).length≤l.length*(obj.length+bnd.length+kind.length+200)+ah.length+bnd.length+20
 | [],ah=>by rw [bodyL_nil];unfold endT;simp;omega
 | s::l,ah=>by
   have ih:=bodyL_len (tot:=tot) (kind:=kind) (bnd:=bnd) (obj:=obj) l [13,10]
   have hc:=cont_len s.1 s.2 tot
   have ho:(objL obj s).length≤obj.length:=by unfold objL;rw [List.length_take,List.length_drop];omega
   rw [bodyL_cons]
   unfold segH
   simp only [List.length_append,List.length_cons,List.length_nil,Nat.add_mul,Nat.one_mul] at ih ⊢
   have ht:typeN.length≤20:=by decide
   have hr:rangeN.length≤20:=by decide
   omega
theorem contB_in {n:Int} {s:Int×Int} (h:InS n s) (hn:n≤1000000):contB s.1 s.2 n=true:=by
 have h1:=h.lo;have h2:=h.lt;have h3:=h.hi
 unfold contB spanB
 simp;omega
theorem sev_right (seed:Int):right (ctN,sevN++boundN seed)=true∧(sevN++boundN seed).length≤60:=by
 have hl:=boundN_len seed
 have hb:=boundN_ok seed
 have hall:∀c∈boundN seed,letterC c=true:=by
  unfold boundB at hb
  simp only [Bool.and_eq_true] at hb
  exact fun c hc=>List.all_eq_true.1 hb.1 c hc
 have hvis:∀c:UInt8,letterC c=true→visC c=true∧blk c=false:=by
  intro c
  unfold letterC visC blk
  simp only [Bool.or_eq_true,Bool.and_eq_true,decide_eq_true_eq,beq_iff_eq,List.contains_cons,List.contains_nil,Bool.or_false,Bool.or_eq_false_iff,beq_eq_false_iff_ne,ne_eq,←UInt8.toNat_inj,UInt8.le_iff_toNat_le]
  intro h
  have e1:(32:UInt8).toNat=32:=rfl
  have e2:(9:UInt8).toNat=9:=rfl
  have e3:(97:UInt8).toNat=97:=rfl
  have e4:(122:UInt8).toNat=122:=rfl
  have e5:(65:UInt8).toNat=65:=rfl
  have e6:(90:UInt8).toNat=90:=rfl
  have e7:(48:UInt8).toNat=48:=rfl
  have e8:(57:UInt8).toNat=57:=rfl
  omega
 refine ⟨?_,by rw [List.length_append,hl];decide⟩
 rcases List.eq_nil_or_concat (boundN seed) with h | ⟨m,d,h⟩
 ·rw [h] at hl;cases hl
 ·rw [List.concat_eq_append] at h
  rw [h] at hall ⊢
  have e:sevN++(m++[d])=109::((sevN.tail++m)++[d]):=by simp [sevN]
  have hm:m.length=20:=by rw [h] at hl;simp at hl;omega
  rw [e]
  refine right_ends (by decide) (by decide) (by decide) (hvis d (hall d (by simp))).2 ?_ (by simp [sevN];omega)
  rw [←e,List.all_eq_true]
  intro c hc
  rcases List.mem_append.1 hc with hc | hc
  ·exact List.all_eq_true.1 (show sevN.all visC=true by decide) c hc
  ·exact (hvis c (hall c hc)).1
theorem shape_reads {q:ReqT} {obj:List UInt8} {oc:Nat} {seed:Int} (hq:q.1=false) (hl:q.2.2.1.length≤10) (ho:obj.length≤80) :
  (wholeR (shapeL q (mS obj.length) oc 8 seed).1 (shapeL q (mS obj.length) oc 8 seed).2.1 (shapeL q (mS obj.length) oc 8 seed).2.2.1 (shapeL q (mS obj.length) oc 8 seed).2.2.2 obj).2=0
  ∧Reads (shapeL q (mS obj.length) oc 8 seed) obj∧(∀s∈spansP (shapeL q (mS obj.length) oc 8 seed).2.2.1,InS obj.length s)
  ∧(shapeL q (mS obj.length) oc 8 seed).2.2.1.length≤30∧(shapeL q (mS obj.length) oc 8 seed).2.1.length≤10:=by
 have hn:(0:Int)≤obj.length:=by omega
 have hn2:(obj.length:Int)≤80:=by omega
 have hmf:=metaF_mS hn
 have hoth:∀(st:Int) (X:List Fld),(100≤st∧st≤599)→st≠206→st≠200→X.all right=true→X.length≤2→bulk2 X≤1000→ofN X lengthN=[]→ofN X codingN=[]→
   (wholeR st (mSF obj.length++X) [] 0 obj).2=0∧Reads (st,mSF obj.length++X,[],0) obj∧(∀s∈spansP ([]:List PartT),InS obj.length s)∧([]:List PartT).length≤30∧(mSF obj.length++X).length≤10:=by
  intro st X hst h6 h2 hX hx hb h3 h4
  obtain ⟨r1,r2,r3⟩:=mSF_ok hn hn2 X hX hx hb
  have hw:(wholeR st (mSF obj.length++X) [] 0 obj).2=0:=whole_ok hst (by omega) r1 r2 r3 (by rw [mSF_of X _ (by decide)];exact h3) (by rw [mSF_of X _ (by decide)];exact h4) rfl (fun _=>rfl)
  exact ⟨hw,read_other hw (by simp [fillL]) (by omega) h6 h2 rfl,by simp [spansP],by simp,by simp [mSF];omega⟩
 have hnil:=fun st h h6 h2=>hoth st [] h h6 h2 rfl (by simp) (by simp [bulk2]) rfl rfl
 simp only [List.append_nil] at hnil
 unfold shapeL
 by_cases h3:oc=3
 ·rw [if_pos h3,hmf];exact hnil 304 (by omega) (by omega) (by omega)
 rw [if_neg h3]
 by_cases h4:oc=4
 ·rw [if_pos h4,hmf];exact hnil 412 (by omega) (by omega) (by omega)
 rw [if_neg h4]
 by_cases hc:oc=1∧q.1=false∧q.2.2.1≠[]∧costL q.2.2.1 (mS obj.length).hv 8=false
 ·rw [if_pos hc]
  unfold rangedL
  have hhv:(mS obj.length).hv=obj.length:=rfl
  have hln:(mS obj.length).len=obj.length:=rfl
  rw [hhv,hln,hmf]
  by_cases hr:resL q.2.2.1 obj.length=[]
  ·rw [if_pos hr,if_neg (by omega)]
   have hi:=itoa_all hn
   have hil:=itoa_len_int (x:=(obj.length:Int)) hn (by omega)
   have hne:=itoa_some hn
   refine hoth 416 _ (by omega) (by omega) (by omega) ?_ (by simp) (by simp [bulk2,crN,starN];omega) (by rw [ofN_one];rfl) (by rw [ofN_one];rfl)
   simp only [List.all_cons,List.all_nil,Bool.and_true]
   rcases List.eq_nil_or_concat (Lib.itoa (obj.length:Int)) with h | ⟨m,d,h⟩
   ·exact absurd h hne
   ·rw [List.concat_eq_append] at h
    rw [h] at hi hil ⊢
    have e:starN++(m++[d])=98::((starN.tail++m)++[d]):=by simp [starN]
    rw [e]
    simp only [List.length_append,List.length_singleton] at hil
    refine right_ends (by decide) (by decide) (by decide) (dig_ne (hi d (by simp))).2.2 ?_ (by simp [starN];omega)
    rw [←e,List.all_eq_true]
    intro c hc
    rcases List.mem_append.1 hc with hc | hc
    ·exact List.all_eq_true.1 (show starN.all visC=true by decide) c hc
    ·exact dig_vis (hi c hc)
  ·rw [if_neg hr]
   obtain ⟨f1,f2,f3⟩:=foldL_in (l:=resL q.2.2.1 obj.length) resL_in
   have f3:=f3 hr
   have f2:(foldL (resL q.2.2.1 obj.length)).length≤10:=by have:=resL_len q.2.2.1 obj.length;omega
   generalize foldL (resL q.2.2.1 obj.length)=sp at *
   have hmany:∀sp:List (Int×Int),(∀s∈sp,InS obj.length s)→sp.length≤10→sp≠[]→
     (wholeR 206 (mSF obj.length++[(ctN,sevN++boundN seed)]) (partsL obj.length kindO (boundN seed) sp) (sizePs (partsL obj.length kindO (boundN seed) sp)) obj).2=0
     ∧Reads (206,mSF obj.length++[(ctN,sevN++boundN seed)],partsL obj.length kindO (boundN seed) sp,sizePs (partsL obj.length kindO (boundN seed) sp)) obj
     ∧(∀s∈spansP (partsL obj.length kindO (boundN seed) sp),InS obj.length s)∧(partsL obj.length kindO (boundN seed) sp).length≤30∧(mSF obj.length++[(ctN,sevN++boundN seed)]).length≤10:=by
    intro sp f1 f2 f3
    obtain ⟨hsr,hsl⟩:=sev_right seed
    have hin:∀p∈partsL obj.length kindO (boundN seed) sp,p.1=[]→0≤p.2.1∧p.2.1≤p.2.2∧p.2.2≤obj.length:=partsL_in f1 []
    have hsz:=sizePs_fill hin
    have hfl:(fillL obj (partsL obj.length kindO (boundN seed) sp)).length≤10000:=by
     rw [fill_parts]
     have:=bodyL_len (tot:=obj.length) (kind:=kindO) (bnd:=boundN seed) (obj:=obj) sp []
     rw [boundN_len] at this
     have hk:kindO.length=24:=rfl
     rw [hk] at this
     have h5:sp.length*(obj.length+21+24+200)≤10*(80+21+24+200):=Nat.mul_le_mul f2 (by omega)
     simp only [List.length_nil] at this
     omega
    obtain ⟨r1,r2,r3⟩:=mSF_ok hn hn2 [(ctN,sevN++boundN seed)] (by simp [hsr]) (by simp) (by unfold bulk2;simp only [List.map_cons,List.map_nil,List.sum_cons,List.sum_nil];have:ctN.length=12:=rfl;omega)
    have hw:(wholeR 206 (mSF obj.length++[(ctN,sevN++boundN seed)]) (partsL obj.length kindO (boundN seed) sp) (sizePs (partsL obj.length kindO (boundN seed) sp)) obj).2=0:=
     whole_ok (by omega) (by omega) r1 r2 r3 (by rw [mSF_of _ _ (by decide),ofN_one];rfl) (by rw [mSF_of _ _ (by decide),ofN_one];rfl) (gIn_of hin (by omega)) (fun _=>hsz)
    refine ⟨hw,?_,?_,?_,by simp [mSF]⟩
    ·refine read_many hw (by omega) (by omega) f3 (fun s hs=>⟨contB_in (f1 s hs) (by omega),(f1 s hs).hi⟩) ?_ ?_
     ·unfold getN
      rw [headF_get (by omega) _ _ (by decide),ofN_one,if_neg (by decide)]
      decide
     ·unfold getN
      rw [headF_get (by omega) _ _ (by decide),ofN_one,if_pos (by decide)]
    ·have hsp:spansP (partsL obj.length kindO (boundN seed) sp)=sp:=spans_parts obj.length kindO (boundN seed) sp []
     rw [hsp];exact f1
    ·unfold partsL;rw [List.length_append,partsB_len];simp;omega
   match sp,f1,f2,f3 with
   | [],_,_,f3=>exact absurd rfl f3
   | [s],f1,_,_=>
     unfold partsOf
     simp only
     rw [hln]
     have hs:=f1 s (by simp)
     have hs1:=hs.lo;have hs2:=hs.lt;have hs3:=hs.hi
     have hc:=contB_in hs (by omega)
     have hin:∀p∈([([],s.1,s.2)]:List PartT),p.1=[]→0≤p.2.1∧p.2.1≤p.2.2∧p.2.2≤obj.length:=by
      intro p hp _;simp at hp;subst hp;simp only;omega
     have hsz:=sizePs_fill hin
     have hszs:sizePs [([],s.1,s.2)]=s.2-s.1:=by simp [sizePs,partLen]
     have hcl:=cont_len s.1 s.2 obj.length
     obtain ⟨r1,r2,r3⟩:=mSF_ok hn hn2 [(crN,contentL s.1 s.2 obj.length)] (by simp [content_right hc]) (by simp) (by unfold bulk2;simp only [List.map_cons,List.map_nil,List.sum_cons,List.sum_nil];have:crN.length=13:=rfl;omega)
     have hw:(wholeR 206 (mSF obj.length++[(crN,contentL s.1 s.2 obj.length)]) [([],s.1,s.2)] (sizePs [([],s.1,s.2)]) obj).2=0:=
      whole_ok (by omega) (by omega) r1 r2 r3 (by rw [mSF_of _ _ (by decide),ofN_one];rfl) (by rw [mSF_of _ _ (by decide),ofN_one];rfl) (gIn_of hin (by omega)) (fun _=>hsz)
     refine ⟨hw,?_,?_,by simp,by simp [mSF]⟩
     ·refine read_one (fs1:=[]) (n:=obj.length) hw (by omega) hc hs.hi ?_ hszs
      unfold getN
      rw [headF_get (by omega) _ _ (by decide),ofN_one,if_pos (by decide)]
     ·intro x hx;simp [spansP] at hx;rw [hx];exact hs
   | s::t::r,f1,f2,f3=>
     unfold partsOf
     simp only
     rw [hln]
     exact hmany (s::t::r) f1 f2 f3
 ·rw [if_neg hc]
  unfold fullL
  have hln:(mS obj.length).len=obj.length:=rfl
  rw [hln,hmf,hq]
  have h1:=mSF_ok hn hn2 [] rfl (by simp) (by simp [bulk2])
  simp only [List.append_nil] at h1
  obtain ⟨r1,r2,r3⟩:=h1
  have e1:=mSF_of (n:=obj.length) [] lengthN (by decide)
  have e2:=mSF_of (n:=obj.length) [] codingN (by decide)
  rw [List.append_nil] at e1 e2
  by_cases h0:(obj.length:Int)=0
  ·have hob:obj=[]:=List.eq_nil_of_length_eq_zero (by omega)
   rw [if_pos (.inr h0)]
   have hw:(wholeR 200 (mSF obj.length) [] obj.length obj).2=0:=whole_ok (by omega) (by omega) r1 r2 r3 e1 e2 rfl (fun _=>by rw [h0];rfl)
   exact ⟨hw,read_full hw (by simp [fillL]) (by omega) (by rw [hob];rfl) (by rw [if_pos hob];rfl),by simp [spansP],by simp,by simp [mSF]⟩
  ·have hob:obj≠[]:=by rintro rfl;exact h0 rfl
   rw [if_neg (by rintro (h | h);cases h;exact h0 h),if_neg (by omega)]
   have hf:fillL obj [([],0,(obj.length:Int))]=obj:=fill_one obj
   have hin:∀p∈([([],0,(obj.length:Int))]:List PartT),p.1=[]→0≤p.2.1∧p.2.1≤p.2.2∧p.2.2≤obj.length:=by
    intro p hp _;simp at hp;subst hp;simp
   have hw:(wholeR 200 (mSF obj.length) [([],0,(obj.length:Int))] obj.length obj).2=0:=whole_ok (by omega) (by omega) r1 r2 r3 e1 e2 (gIn_of hin (by omega)) (fun _=>by rw [hf])
   refine ⟨hw,read_full hw (by rw [hf];omega) (by omega) hf (by rw [if_neg hob];rfl),?_,by simp,by simp [mSF]⟩
   intro x hx;simp [spansP] at hx;rw [hx];exact ⟨by simp,by simp only;omega,by simp⟩
def behindG (S:List (Int×Int)) (at_:Int):Nat→Nat→Nat→Nat
 | 0,lo,_=>lo
 | f+1,lo,hi=>if lo < hi then (if at_ < (S.getD (lo+(hi-lo) / 2) (0,0)).2 then behindG S at_ f lo (lo+(hi-lo) / 2) else behindG S at_ f (lo+(hi-lo) / 2+1) hi) else lo
def behindL (S:List (Int×Int)) (at_:Int):Nat:=behindG S at_ S.length 0 S.length
def firstS (S:List (Int×Int)) (a:Int):Option (Int×Int):=if behindL S a < S.length then some (max a (S.getD (behindL S a) (0,0)).1,(S.getD (behindL S a) (0,0)).2) else none
def readyL (S:List (Int×Int)) (p:PartT):Option PartT:=if p.1≠[] then some p else match firstS S p.2.1 with
 | none=>none
 | some run=>if run.1≠p.2.1 then none else some ([],p.2.1,min p.2.2 run.2)
def gatherStep (out:List (Int×Int)) (x:Int×Int):List (Int×Int):=match out.getLast? with
 | none=>[x]
 | some g=>if x.1≤g.2 then out.dropLast++[(g.1,max g.2 x.2)] else out++[x]
def gatherL (l:List (Int×Int)):List (Int×Int):=l.foldl gatherStep []
theorem gatherStep_len (out:List (Int×Int)) (x:Int×Int):(gatherStep out x).length≤out.length+1:=by
 unfold gatherStep
 rcases nil_or_snoc out with rfl | ⟨t,g,rfl⟩
 ·simp
 ·rw [List.getLast?_concat]
  simp only
  split
  ·rw [List.dropLast_concat];simp
  ·simp
theorem gather_len:∀(l out:List (Int×Int)),(l.foldl gatherStep out).length≤out.length+l.length
 | [],out=>by simp
 | x::l,out=>by
   have:=gather_len l (gatherStep out x)
   have:=gatherStep_len out x
   simp only [List.foldl_cons,List.length_cons];omega
theorem short_len (asked:List UInt8) {s:List UInt8} {h:ClH} {fr:FrT} {b:List UInt8} (hs:nowL asked s=.body h fr b) (hk3:h.kind≠3) (he:endBody h fr b=0) {k:Nat} (hk:k < s.length) :
  ∀p∈(nowL asked (s.take k)).came,p∈clBytes h b∨p.1.2=p.1.1+(p.2.length:Int):=by
 have hne:s.drop k≠[]:=by
  intro h0
  have:=congrArg List.length h0
  rw [List.length_drop] at this
  simp at this
  omega
 have hi:=inv_now asked (s.take k)
 have hf:(s.drop k).foldl (clByte asked) (nowL asked (s.take k))=.body h fr b:=by rw [←now_app,List.take_append_drop];exact hs
 generalize nowL asked (s.take k)=S at *
 cases S with
 | head raw=>intro p hp;cases hp
 | bad0=>rw [fold_bad0] at hf;cases hf
 | bad1 _ _=>rw [fold_bad1] at hf;cases hf
 | body h' fr' b'=>
   obtain ⟨rfl,x,rfl⟩:=fold_body asked _ hf
   have hd:frDone fr'=false:=by
    cases hd:frDone fr' with
    | false=>rfl
    | true=>rw [fold_done asked hd hne] at hf;cases hf
   have i:BodyInv h fr' b':=hi
   have hk4:h.kind≠4:=fun h4=>by
    unfold frDone at hd
    rw [if_neg (by rw [i.kind];omega),if_neg (by rw [i.kind];omega),if_neg (by rw [i.kind];omega)] at hd
    cases hd
   show ∀p∈clBytes h b',p∈clBytes h (b'++x)∨p.1.2=p.1.1+(p.2.length:Int)
   unfold clBytes
   by_cases h3:h.tells=3
   ·rw [if_pos h3,if_pos h3]
    by_cases hx:x=[]
    ·subst hx;rw [List.append_nil];exact fun p hp=>.inl hp
    ·cases hm:multiL h.bnd b' with
     | inl e=>intro p hp;cases hp
     | inr o=>
       exfalso
       unfold endBody at he
       by_cases hq:frDone fr.stop=false
       ·rw [if_pos hq] at he;cases he
       ·rw [if_neg hq,if_neg hk4,if_neg (by omega),if_pos h3,multiL_over hm hx] at he
        simp at he
   ·rw [if_neg h3]
    by_cases h0:h.tells=0∨b'=[]
    ·rw [if_pos h0];intro p hp;cases hp
    ·rw [if_neg h0]
     intro p hp
     obtain rfl:p=((h.fro,h.fro+b'.length),b'):=by simpa using hp
     exact .inr rfl
theorem objS_len {obj:List UInt8} {s:Int×Int} (h:InS obj.length s):((objL obj s).length:Int)=s.2-s.1:=by
 have h1:=h.lo;have h2:=h.lt;have h3:=h.hi
 unfold objL;rw [List.length_take,List.length_drop];omega
theorem objS_take {obj:List UInt8} {s:Int×Int} (n:Nat) (h:n≤(objL obj s).length):(objL obj s).take n=(obj.drop s.1.toNat).take n:=by
 unfold objL at *
 rw [List.take_take]
 congr 1
 rw [List.length_take] at h
 omega
structure CutAt (obj:List UInt8) (W:List (Int×Int)) (P1:List (Int×Int)) (P2:List (List UInt8)):Prop where
 few:P1.length≤W.length
 two:P1.length=P2.length
 at_:∀(k:Nat) (h1:k < P1.length) (h2:k < P2.length) (h3:k < W.length),P1[k].1=W[k].1∧P1[k].2≤W[k].2∧P1[k].2-P1[k].1=(P2[k].length:Int)∧P2[k]=(obj.drop P1[k].1.toNat).take (P1[k].2.toNat-P1[k].1.toNat)∧0≤P1[k].1∧P1[k].1≤P1[k].2∧P1[k].2≤(obj.length:Int)
theorem cut_at {obj:List UInt8} {W:List (Int×Int)} {L:List ((Int×Int)×List UInt8)} (hW:∀s∈W,InS obj.length s) (hb:Begins L (W.map fun s=>(s,objL obj s))) (hl:∀p∈L,p∈(W.map fun s=>(s,objL obj s))∨p.1.2=p.1.1+(p.2.length:Int)) {P1:List (Int×Int)} {P2:List (List UInt8)} (e1:P1=L.map (·.1)) (e2:P2=L.map (·.2)):CutAt obj W P1 P2:=by
 subst e1 e2
 refine ⟨by simpa using hb.1,by simp,fun k h1 h2 h3=>?_⟩
 have hk:k < L.length:=by simpa using h1
 obtain ⟨a1,a2,a3⟩:=hb.2 k hk (by simpa using h3)
 simp only [List.getElem_map] at a1 a2 a3 ⊢
 have hs:=hW _ (List.getElem_mem h3)
 have hol:=objS_len hs
 have s1:=hs.lo;have s2:=hs.lt;have s3:=hs.hi
 have hd:L[k].1.2=L[k].1.1+(L[k].2.length:Int):=by
  rcases hl _ (List.getElem_mem hk) with h | h
  ·obtain ⟨s,hsm,he⟩:=List.mem_map.1 h
   rw [←he]
   have:=objS_len (hW s hsm)
   simp only
   omega
  ·exact h
 rw [objS_take _ a2] at a3
 refine ⟨a1,by omega,by omega,?_,by omega,by omega,by omega⟩
 rw [a1,show L[k].1.2.toNat-W[k].1.toNat=L[k].2.length from by omega]
 exact a3
theorem whole_at {obj:List UInt8} {W:List (Int×Int)} (hW:∀s∈W,InS obj.length s) {L:List ((Int×Int)×List UInt8)} (h:L=W.map fun s=>(s,objL obj s)) {P1:List (Int×Int)} {P2:List (List UInt8)} (e1:P1=L.map (·.1)) (e2:P2=L.map (·.2)):P1=W∧P2=W.map (objL obj):=by
 subst e1 e2 h
 constructor
 ·rw [List.map_map];exact List.map_id' W
 ·rw [List.map_map];rfl
theorem partsB_low {tot:Int} {kind bnd:List UInt8}:∀(l:List (Int×Int)) (ah:List UInt8),ah.length≤2→∀p∈partsB tot kind bnd l ah,p.1.length≤kind.length+bnd.length+200
 | [],_,_,p,hp=>by simp [partsB] at hp
 | s::l,ah,hah,p,hp=>by
   simp only [partsB,List.mem_cons] at hp
   rcases hp with rfl | rfl | hp
   ·have hc:=cont_len s.1 s.2 tot
    have ht:typeN.length≤20:=by decide
    have hr:rangeN.length≤20:=by decide
    simp only [ptext,List.length_append,List.length_cons,List.length_nil]
    omega
   ·simp
   ·exact partsB_low l [13,10] (by simp) p hp
theorem partsOf_low (S:List (Int×Int)) (m:MetaT) (seed:Int):(∀p∈(partsOf S m seed).2,p.1.length≤300)∧bulk2 (partsOf S m seed).1≤200∧(partsOf S m seed).1.length=1:=by
 have hb:=boundN_len seed
 have hk:kindO.length=24:=rfl
 have hL:∀p∈partsL m.len kindO (boundN seed) S,p.1.length≤300:=by
  intro p hp
  unfold partsL at hp
  rcases List.mem_append.1 hp with hp | hp
  ·have:=partsB_low S [] (by simp) p hp
   omega
  ·obtain rfl:p=(endL (boundN seed),0,0):=by simpa using hp
   simp only [endL,List.length_append,List.length_cons,List.length_nil]
   omega
 have hB:bulk2 [(ctN,sevN++boundN seed)]≤200:=by
  have h1:=(sev_right seed).2
  unfold bulk2
  simp only [List.map_cons,List.map_nil,List.sum_cons,List.sum_nil]
  have:ctN.length=12:=rfl
  omega
 rcases S with _ | ⟨s,_ | ⟨t,r⟩⟩
 ·exact ⟨hL,hB,rfl⟩
 ·refine ⟨fun p hp=>?_,?_,rfl⟩
  ·obtain rfl:p=([],s.1,s.2):=by simpa [partsOf] using hp
   simp
  ·have hc:=cont_len s.1 s.2 m.len
   show bulk2 [(crN,contentL s.1 s.2 m.len)]≤200
   unfold bulk2
   simp only [List.map_cons,List.map_nil,List.sum_cons,List.sum_nil]
   have:crN.length=13:=rfl
   omega
 ·exact ⟨hL,hB,rfl⟩
structure AnsLow (obj:List UInt8) (a:AnsT):Prop where
 bulk:bulk2 a.2.1≤12000
 few:a.2.1.length≤130
 sh:Short2 a.2.1
 low:∀p∈a.2.2.1,p.1.length≤1000
theorem bulk2_mem {l:List Fld} {x:Fld} (h:x∈l):x.1.length+x.2.length≤bulk2 l:=by
 induction l with
 | nil=>cases h
 | cons y l ih=>
   have e:bulk2 (y::l)=(y.1.length+y.2.length)+bulk2 l:=by unfold bulk2;simp
   rcases List.mem_cons.1 h with rfl | h
   ·omega
   ·have:=ih h;omega
theorem ansLow_of {obj:List UInt8} {a:AnsT} {n:Int} (h:0≤n) (h2:n≤80) (X:List Fld) (e:a.2.1=mSF n++X) (hX:bulk2 X≤500) (hx:X.length≤2) (hl:∀p∈a.2.2.1,p.1.length≤1000):AnsLow obj a:=by
 have hil:=itoa_len_int (x:=n) h (by omega)
 have hb:bulk2 (mSF n)≤3000:=by
  unfold bulk2 mSF
  simp [etagN,ccN,ageN,xlenN,sMaxN]
  omega
 have hB:bulk2 a.2.1≤12000:=by rw [e,bulk2_app];omega
 refine ⟨hB,by rw [e];simp [mSF];omega,fun x hx=>?_,hl⟩
 have:=bulk2_mem hx
 omega
theorem shape_low {q:ReqT} {obj:List UInt8} {oc:Nat} {seed:Int} (ho:obj.length≤80):AnsLow obj (shapeL q (mS obj.length) oc 8 seed):=by
 have hn:(0:Int)≤obj.length:=by omega
 have hn2:(obj.length:Int)≤80:=by omega
 have hmf:=metaF_mS hn
 have hnil:∀(st sz:Int) (ps:List PartT),(∀p∈ps,p.1=[])→AnsLow obj (st,mSF obj.length,ps,sz):=fun st sz ps hp=>ansLow_of hn hn2 [] (by simp) (by simp [bulk2]) (by simp) (fun p h=>by rw [hp p h];simp)
 unfold shapeL
 split
 ·rw [hmf];exact hnil _ _ _ (fun p h=>by cases h)
 split
 ·rw [hmf];exact hnil _ _ _ (fun p h=>by cases h)
 split
 ·unfold rangedL
  rw [hmf]
  split
  ·have hil:=itoa_len_int (x:=(mS obj.length).hv) hn (by unfold mS;simp only;omega)
   have hil2:=itoa_len_int (x:=(mS obj.length).len) hn (by unfold mS;simp only;omega)
   refine ansLow_of hn hn2 _ rfl ?_ (by simp) (fun p h=>by cases h)
   unfold bulk2
   simp only [List.map_cons,List.map_nil,List.sum_cons,List.sum_nil,List.length_append]
   have h1:crN.length=13:=rfl
   have h2:starN.length=8:=rfl
   split <;> omega
  ·obtain ⟨h1,h2,h3⟩:=partsOf_low (foldL (resL q.2.2.1 (mS obj.length).hv)) (mS obj.length) seed
   exact ansLow_of hn hn2 _ rfl (by omega) (by omega) (fun p h=>by have:=h1 p h;omega)
 ·unfold fullL
  rw [hmf]
  refine hnil _ _ _ (fun p h=>?_)
  split at h
  ·cases h
  ·simp at h;rw [h]
theorem put_small (l:List Fld):(put l).1.length≤bulk2 l+4*l.length+2:=by
 unfold put
 split
 ·split
  ·simp
  ·simp only [block,List.length_append,lines_len,List.length_cons,List.length_nil];omega
 ·simp
theorem head_small (st:Int) (fs:List Fld) (sz:Int):(headR st fs sz).1.length≤bulk2 fs+4*fs.length+300:=by
 unfold headR
 cases ht:tellB st fs sz with
 | false=>simp
 | true=>
   obtain ⟨h1,h2,h3,h4,-,-⟩:=tellB_iff.1 ht
   have hF:bulk2 (headF st fs sz)+4*(headF st fs sz).length≤bulk2 fs+4*fs.length+100:=by
    unfold headF
    split
    ·rw [bulk2_app,List.length_append]
     have:bulk2 [sizeF sz]≤60:=by
      unfold sizeF
      split
      ·decide
      ·have hil:=itoa_len_int (x:=sz) (by omega) (by omega)
       unfold bulk2
       simp only [List.map_cons,List.map_nil,List.sum_cons,List.sum_nil]
       have:lengthN.length=14:=rfl
       omega
     simp only [List.length_singleton]
     omega
    ·omega
   have hp:=put_small (headF st fs sz)
   have hi:=itoa_len_int (x:=st) (by omega) (by omega)
   have hr:=reason_len st
   have hl:(lineP ([],[],st,headF st fs sz)).length≤100:=by
    unfold lineP
    split
    ·simp only [List.length_append,List.length_cons,List.length_nil]
     have:httpB.length≤10:=by decide
     omega
    ·simp only [List.length_append,List.length_cons,List.length_nil]
     have:httpB.length≤10:=by decide
     omega
   simp only [if_true]
   unfold putH
   split
   ·split
    ·simp only [List.length_append,List.length_cons,List.length_nil] at *
     omega
    ·simp
   ·simp
theorem whole_small {st sz:Int} {fs:List Fld} {ps:List PartT} {obj:List UInt8} (h1:bulk2 fs≤12000) (h2:fs.length≤130) (hl:(fillL obj ps).length≤31000):(wholeR st fs ps sz obj).1.length≤60000:=by
 have hh:=head_small st fs sz
 have hx:=(hexT_le (fillL obj ps).length (by omega)).2
 have hb:(gBody sz (fillL obj ps)).length≤31100:=by
  unfold gBody chunkL
  split
  ·split
   ·simp
   ·simp only [List.length_append,List.length_cons,List.length_nil];omega
  ·omega
 have he:=gEnd_le sz true
 unfold wholeR
 split
 ·split
  ·simp only [List.length_append];omega
  ·omega
 ·simp
theorem now_ne {asked W:List UInt8} {h:ClH} {fr:FrT} {b:List UInt8} (hn:nowL asked W=.body h fr b):0 < W.length:=by
 cases W with
 | nil=>cases hn
 | cons _ _=>simp
structure RuleT where
 mx:Int
 sh:Int
 wh:Int
 er:Int
 ns:Bool
 nc:Bool
 pv:Bool
def maxAN:List UInt8:=[109,97,120,45,97,103,101]
def shAN:List UInt8:=[115,45,109,97,120,97,103,101]
def whAN:List UInt8:=[115,116,97,108,101,45,119,104,105,108,101,45,114,101,118,97,108,105,100,97,116,101]
def erAN:List UInt8:=[115,116,97,108,101,45,105,102,45,101,114,114,111,114]
theorem sMax_eq (x:Int):sMaxN++Lib.itoa x=shAN++61::Lib.itoa x:=rfl
theorem sWh_eq (x:Int):sWhN++Lib.itoa x=whAN++61::Lib.itoa x:=rfl
theorem sEr_eq (x:Int):sErN++Lib.itoa x=erAN++61::Lib.itoa x:=rfl
def ruleM (m:MetaT):RuleT:=⟨-1,m.fr,if m.wh=0 then -1 else m.wh,if m.er=0 then -1 else m.er,!m.keep,false,false⟩
theorem keysB_all:∀(l acc:List (List UInt8)),keysB acc l=true→∀k∈l,keyB k=true
 | [],_,_,k,hk=>by cases hk
 | x::l,acc,h,k,hk=>by
   rw [keysB] at h
   simp only [Bool.and_eq_true] at h
   rcases List.mem_cons.1 hk with rfl | hk
   ·exact h.1.1
   ·exact keysB_all l _ h.2 k hk
end Go.Proofs.YtflepnkpihfidaaGreatDoor
