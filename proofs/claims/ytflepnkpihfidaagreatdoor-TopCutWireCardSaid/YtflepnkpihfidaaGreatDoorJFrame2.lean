/- Parts. No conditions but those that each theorem names. -/
import Derived.Test.YtflepnkpihfidaaGreatDoorJFrame1
import Derived.Test.YtflepnkpihfidaaGreatDoorJGate3
import Derived.Test.YtflepnkpihfidaaGreatDoorJGate6
set_option linter.unusedVariables false
set_option linter.unusedSimpArgs false
set_option maxHeartbeats 64000000
set_option maxRecDepth 100000
namespace Go.Proofs.YtflepnkpihfidaaGreatDoor
open Lib (hid)
def bareS (st:Int):Bool:=(decide (100≤st)&&decide (st≤199))||(st==204||st==304)
def lenI:List (List UInt8)→Int
 | []=>-1
 | x::r=>if r.all (fun y=>numM y==numM x) then numM x else -1
def frameL (st:Int) (fs:List Fld) (asked:List UInt8):Nat×Int×Nat:=
 if asked=headB∨bareS st=true then (4,0,0)
 else if itemsAll (ofN fs codingN)≠[] then
  (if (itemsAll (ofN fs codingN)).length=1∧(itemsAll (ofN fs codingN)).all (fun x=>alike x chunkedN)=true∧ofN fs lengthN=[] then (2,0,0) else (0,0,2))
 else if ofN fs lengthN=[] then (3,0,0)
 else if lenI (itemsAll (ofN fs lengthN)) < 0∨1099511627776 < lenI (itemsAll (ofN fs lengthN)) then (0,0,2)
 else (1,lenI (itemsAll (ofN fs lengthN)),0)
theorem scan_plain:∀(l item:List UInt8),(∀c∈l,c≠44∧c≠34)→scan false false item l=[item++l]
 | [],item,_=>by simp [scan]
 | c::t,item,h=>by
   have hc:=h c (List.mem_cons_self ..)
   rw [scan_cons]
   have e1:(c==44)=false:=by simpa using hc.1
   have e2:(c==34)=false:=by simpa using hc.2
   simp only [e1,e2,Bool.false_and,Bool.false_eq_true,if_false]
   rw [scan_plain t _ (fun x hx=>h x (List.mem_cons_of_mem _ hx))]
   simp
theorem itemsV_dig {l:List UInt8} (hn:l≠[]) (h:∀c∈l,digC c=true):itemsV l=[l]:=by
 unfold itemsV
 rw [scan_plain l [] (fun c hc=>⟨(dig_ne (h c hc)).1,by rintro rfl;exact absurd (h _ hc) (by decide)⟩)]
 simp only [List.nil_append,List.map_cons,List.map_nil,trim_all (fun c hc=>(dig_ne (h c hc)).2.2)]
 have:l.isEmpty=false:=by simpa using hn
 simp [this]
theorem itoa_num {sz:Int} (h0:0≤sz) (h1:sz≤1099511627776):(∀c∈Lib.itoa sz,digC c=true)∧Lib.itoa sz≠[]∧numM (Lib.itoa sz)=sz:=by
 have h:=endTx_form sz (by omega) (by omega)
 have e:endTx sz=Lib.itoa sz:=by unfold endTx;rw [if_pos h0]
 rw [e] at h
 exact ⟨h.1,fun hn=>by have:=h.2.2.1.1 hn;omega,h.2.2.2.1⟩
theorem bare_body {st:Int} (h1:100≤st) (_h2:st≤599):bareS st=!bodB st:=by
 unfold bareS bodB
 by_cases a:200≤st
 ·have:decide (st≤199)=false:=decide_eq_false (by omega)
  rw [this];simp [a,h1]
  cases b:(st==204) <;> cases c:(st==304) <;> first | rfl | (have h2:(st != 204)=!(st==204):=rfl
                                                             have h3:(st != 304)=!(st==304):=rfl
                                                             rw [h2,h3,b,c];rfl)
 ·have:decide (st≤199)=true:=decide_eq_true (by omega)
  rw [this];simp [a,h1]
theorem frame_head {st sz:Int} {fs:List Fld} (h:tellB st fs sz=true):frameL st (headF st fs sz) getB=if bodB st then (if sz= -1 then (2,0,0) else (1,sz,0)) else (4,0,0):=by
 obtain ⟨h1,h2,h3,h4,h5,h6⟩:=tellB_iff.1 h
 unfold frameL headF
 rw [bare_body h1 h2]
 cases hb:bodB st with
 | false=>rw [if_pos (.inr rfl)];rfl
 | true=>
   rw [if_neg (by rintro (h | h);exact absurd h (by decide);exact absurd h (by decide))]
   simp only [if_true]
   unfold sizeF
   by_cases hz:sz= -1
   ·rw [if_pos hz,if_pos hz]
    have e1:ofN (fs++[(codingN,chunkedN)]) codingN=[chunkedN]:=by rw [ofN_app,h6,ofN_one];rfl
    have e2:ofN (fs++[(codingN,chunkedN)]) lengthN=[]:=by rw [ofN_app,h5,ofN_one];rfl
    rw [e1,e2]
    have e3:itemsAll [chunkedN]=[chunkedN]:=by decide +kernel
    rw [e3,if_pos (by simp),if_pos ⟨rfl,by decide,rfl⟩]
   ·rw [if_neg hz,if_neg hz]
    have e1:ofN (fs++[(lengthN,Lib.itoa sz)]) codingN=[]:=by rw [ofN_app,h6,ofN_one];rfl
    have e2:ofN (fs++[(lengthN,Lib.itoa sz)]) lengthN=[Lib.itoa sz]:=by rw [ofN_app,h5,ofN_one];rfl
    obtain ⟨i1,i2,i3⟩:=itoa_num (sz:=sz) (by omega) h4
    have e3:itemsAll [Lib.itoa sz]=[Lib.itoa sz]:=by unfold itemsAll;simp [itemsV_dig i2 i1]
    have e4:itemsAll ([]:List (List UInt8))=[]:=rfl
    have e5:lenI [Lib.itoa sz]=sz:=by unfold lenI;simp [i3]
    rw [e1,e2,e3,e4,e5,if_neg (by simp),if_neg (by simp),if_neg (by omega)]
structure FrT where
 kind:Nat
 left:Nat
 ck:CkT
 bad:Bool
 ended:Bool
def FrT.new (k left:Nat):FrT:=⟨k,left,CkT.start,false,false⟩
def frTk (s:FrT) (l:List UInt8):List UInt8×Nat×Nat×FrT:=
 if s.ended then ([],0,0,s)
 else if s.kind=1 then (l.take (min s.left l.length),min s.left l.length,0,⟨1,s.left-min s.left l.length,s.ck,s.bad,false⟩)
 else if s.kind=2 then (if (ckTake s.ck l).2.2.2 then (ckTake s.ck l).1 else [],(ckTake s.ck l).2.1,if (ckTake s.ck l).2.2.2 then 0 else 2,⟨2,s.left,(ckTake s.ck l).2.2.1,!(ckTake s.ck l).2.2.2,false⟩)
 else if s.kind=3 then (l,l.length,0,s)
 else ([],0,0,s)
def frDone (s:FrT):Bool:=if s.kind=1 then s.left==0 else if s.kind=2 then !s.bad&&s.ck.pos==9 else if s.kind=3 then s.ended else true
def FrT.stop (s:FrT):FrT:=⟨s.kind,s.left,s.ck,s.bad,true⟩
theorem wholeOk_iff {st sz:Int} {fs:List Fld} {ps:List PartT} {obj:List UInt8}:wholeOk st fs ps sz obj=true↔tellB st fs sz=true∧gIn obj ps=true∧(bodB st=true→0≤sz→sz=((fillL obj ps).length:Int)):=by
 unfold wholeOk
 simp only [Bool.and_eq_true,Bool.not_eq_true',Bool.and_eq_false_iff,decide_eq_false_iff_not,bne_eq_false_iff_eq,and_assoc]
 constructor
 ·rintro ⟨h1,h2,h3⟩
  refine ⟨h1,h2,fun hb h0=>?_⟩
  rcases h3 with h | h | h
  ·rw [hb] at h;cases h
  ·exact absurd h0 h
  ·exact h
 ·rintro ⟨h1,h2,h3⟩
  refine ⟨h1,h2,?_⟩
  cases hb:bodB st with
  | false=>exact .inl rfl
  | true=>
    by_cases h0:0≤sz
    ·exact .inr (.inr (h3 hb h0))
    ·exact .inr (.inl h0)
structure Told45 (st sz:Int) (fs:List Fld) (ps:List PartT) (obj:List UInt8):Prop where
 tell:tellB st fs sz=true
 head:(putH ([],[],st,headF st fs sz)).2=0
 size:bodB st=true→0≤sz→sz=((fillL obj ps).length:Int)
 eq:wholeR st fs ps sz obj=((putH ([],[],st,headF st fs sz)).1++(if bodB st then gBody sz (fillL obj ps)++gEnd sz true else []),0)
theorem told_of {st sz:Int} {fs:List Fld} {ps:List PartT} {obj:List UInt8} (h:(wholeR st fs ps sz obj).2=0):Told45 st sz fs ps obj:=by
 unfold wholeR at h
 cases hw:wholeOk st fs ps sz obj with
 | false=>rw [hw] at h;cases h
 | true=>
   obtain ⟨h1,h2,h3⟩:=wholeOk_iff.1 hw
   rw [hw,if_pos rfl] at h
   have he:headR st fs sz=putH ([],[],st,headF st fs sz):=by unfold headR;rw [h1];rfl
   rw [he] at h
   have hz:(putH ([],[],st,headF st fs sz)).2=0:=by
    by_cases hc:(putH ([],[],st,headF st fs sz)).2=0∧bodB st=true
    ·exact hc.1
    ·rw [if_neg hc] at h;exact h
   refine ⟨h1,hz,h3,?_⟩
   unfold wholeR
   rw [hw,if_pos rfl,he]
   cases hb:bodB st with
   | false=>
     rw [if_neg (by simp)]
     simp only [Bool.false_eq_true,if_false,List.append_nil]
     rw [←hz]
   | true=>
     rw [if_pos ⟨hz,rfl⟩]
     simp
theorem told_st {st sz:Int} {fs:List Fld} {ps:List PartT} {obj:List UInt8} (h:Told45 st sz fs ps obj):¬(([],[],st,headF st fs sz):HeadT).2.2.1=0:=by
 have:=(tellB_iff.1 h.tell).1
 show ¬st=0
 omega
structure ReadsB (st sz:Int) (fs:List Fld) (ps:List PartT) (obj more:List UInt8) (k z n:Nat) (s:FrT):Prop where
 tell:tellR ((wholeR st fs ps sz obj).1++more)=(([],[],st,headF st fs sz),n,0)
 n1:1≤n
 n2:n≤(wholeR st fs ps sz obj).1.length
 frame:frameL st (headF st fs sz) getB=(k,(z:Int),0)
 k1:1≤k
 k4:k≤4
 z1:z≤1099511627776
 z0:k≠1→z=0
 take:frTk (FrT.new k z) (((wholeR st fs ps sz obj).1++more).drop n)=(if bodB st then fillL obj ps else [],(wholeR st fs ps sz obj).1.length-n,0,s)
 done:frDone s=true
 stop:frDone s.stop=true
 kind:s.kind=k
theorem putH_pos {T:HeadT} (h:(putH T).2=0):1≤(putH T).1.length:=by
 obtain ⟨_,he,_⟩:=putH_ok h
 rw [he];simp;omega
theorem read45_of {st sz:Int} {fs:List Fld} {ps:List PartT} {obj:List UInt8} (h:(wholeR st fs ps sz obj).2=0) (hl:(fillL obj ps).length≤100000) (more:List UInt8):∃k z n s,ReadsB st sz fs ps obj more k z n s:=by
 have T:=told_of h
 have hB:(wholeR st fs ps sz obj).1=(putH ([],[],st,headF st fs sz)).1++(if bodB st then gBody sz (fillL obj ps)++gEnd sz true else []):=by rw [T.eq]
 have hk:=back_eq ([],[],st,headF st fs sz) ((if bodB st then gBody sz (fillL obj ps)++gEnd sz true else [])++more) T.head
 rw [if_neg (told_st T)] at hk
 have hfr:=frame_head T.tell
 obtain ⟨t1,t2,t3,t4,t5,t6⟩:=tellB_iff.1 T.tell
 have hpos:=putH_pos T.head
 generalize (putH ([],[],st,headF st fs sz)).1=Hd at *
 have hd:∀x:List UInt8,(Hd++x++more).drop Hd.length=x++more:=fun x=>by rw [List.append_assoc,List.drop_left]
 have hlen:∀x:List UInt8,(Hd++x).length-Hd.length=x.length:=fun x=>by rw [List.length_append];omega
 cases hb:bodB st with
 | false=>
   rw [hb] at hB hk hfr
   simp only [Bool.false_eq_true,if_false] at hB hk hfr
   refine ⟨4,0,Hd.length,FrT.new 4 0,?_,hpos,?_,hfr,by decide,by decide,by decide,fun _=>rfl,?_,rfl,rfl,rfl⟩
   ·rw [hB,List.append_assoc];exact hk
   ·rw [hB];simp
   ·rw [hB,hb,hd,hlen];rfl
 | true=>
   rw [hb] at hB hk hfr
   simp only [if_true] at hB hk hfr
   by_cases hz:sz= -1
   ·subst hz
    simp only [if_true] at hfr
    refine ⟨2,0,Hd.length,⟨2,0,⟨9,0,1,0,0⟩,false,false⟩,?_,hpos,?_,hfr,by decide,by decide,by decide,fun _=>rfl,?_,rfl,rfl,rfl⟩
    ·rw [hB,List.append_assoc];exact hk
    ·rw [hB];simp
    ·rw [hB,hb,hd,hlen]
     have hm:=ck_more (l:=fillL obj ps) (by omega) more
     have e:gBody (-1) (fillL obj ps)++gEnd (-1) true=chunkL (fillL obj ps)++lastL:=rfl
     rw [e]
     show (if (ckTake CkT.start _).2.2.2 then (ckTake CkT.start _).1 else [],(ckTake CkT.start _).2.1,if (ckTake CkT.start _).2.2.2 then 0 else 2,(⟨2,0,(ckTake CkT.start _).2.2.1,!(ckTake CkT.start _).2.2.2,false⟩:FrT))=_
     rw [hm];rfl
   ·rw [if_neg hz] at hfr
    have hs:=T.size hb (by omega)
    obtain ⟨z,rfl⟩:∃z:Nat,sz=z:=⟨sz.toNat,by omega⟩
    have hz2:z=(fillL obj ps).length:=by omega
    refine ⟨1,z,Hd.length,⟨1,0,CkT.start,false,false⟩,?_,hpos,?_,hfr,by decide,by decide,by omega,fun h=>absurd rfl h,?_,rfl,rfl,rfl⟩
    ·rw [hB,List.append_assoc];exact hk
    ·rw [hB];simp
    ·rw [hB,hb,hd,hlen]
     have e:gBody (z:Int) (fillL obj ps)++gEnd (z:Int) true=fillL obj ps:=by
      unfold gBody gEnd
      rw [if_neg hz,if_neg (fun h=>hz h.1),List.append_nil]
     rw [e]
     show (((fillL obj ps++more).take (min z (fillL obj ps++more).length),min z (fillL obj ps++more).length,0,(⟨1,z-min z (fillL obj ps++more).length,CkT.start,false,false⟩:FrT)):List UInt8×Nat×Nat×FrT)=_
     have hm:min z (fillL obj ps++more).length=(fillL obj ps).length:=by rw [List.length_append];omega
     rw [hm,List.take_left,←hz2,Nat.sub_self];rfl
end Go.Proofs.YtflepnkpihfidaaGreatDoor
namespace Go.Proofs.YtflepnkpihfidaaGreatDoor
open Lib (hid)
open Go.RowKit
def TakeEnd (w:World) (g:Nat) (r:List UInt8×Nat×CkT×Bool) (e:Ending) (w':World):Prop:=
 ∃v,e=.returned (.tuple #[v,.int .i64 (r.2.1:Nat),.int .i64 (if r.2.2.2 then 0 else 2)])∧Byts w' v (if r.2.2.2 then r.1 else [])∧CkAt w' g r.2.2.1 (!r.2.2.2)∧w.grownBy w' (some g)∧Fresh w v
theorem ckTake_any (s:CkT) (l:List UInt8) (u:Value) (w:World) (g:Nat) (h:CkAt w g s false) (hk:CkOk s) (hu:Byts w u l) (hne:u.ownBlock≠some g) (hl:l.length≤1000000):Calls Tryz.prog 229 #[.pointer (some ⟨g,0,none⟩),u] w (TakeEnd w g (ckTake s l)):=by
 obtain ⟨A,c,rfl,hc,hx,-⟩:=id hu.open
 have HU:=hid (fun (x:World) (k:w.grownBy x (some g))=>hu.by k (.inr hne))
 have HG:=hid (Bk.lt h)
 have z5:w.cell? ⟨g,5,none⟩=some (.bool false):=h.cells.2.2.2.2.2
 have HA:=hid h
 have HK:=hid hk
 clear h hk hu hne hc hx
 generalize hR:ckTake s l=R at *
 have HR:=hid hR
 clear hR
 go_enter Tryz.func229,Tryz.ntmps229
 go_wp2_with fail
 go_loopw [7,8,9] (fun ov nv mv wr=>∃(k:Nat) (d:List UInt8) (s1:CkT),k≤l.length∧d.length≤k∧nv=.int .i64 k∧Own w wr 5 1 ov d.length (d.map byt)∧CkAt wr g s1 false∧CkOk s1∧w.grownBy wr (some g)∧R=(d++(ckTake s1 (l.drop k)).1,k+(ckTake s1 (l.drop k)).2.1,(ckTake s1 (l.drop k)).2.2)) (fun _ nv _ _=>l.length-(intOf nv).toNat)
 case atStart=>exact ⟨0,[],s,Nat.zero_le _,Nat.le_refl _,rfl,Own.nil _ _ _ _,HA.out,HK.out,(Gr.refl w).by _,by rw [←HR.out];simp⟩
 case round=>
  clear z5 HA HK HR
  obtain ⟨k,d,s1,hk,hd,rfl,hown,hA,hK,hB,hT⟩:=hrel
  obtain ⟨Ao,co,rfl⟩:=hown.form
  have HO:=hid hown
  have HA:=hid hA
  have HK:=hid hK
  have HB:=hid hB
  have HT:=hid hT
  have hNE:=own_ne hown HG.out
  have HNE:=hid hNE
  obtain ⟨z0,z1,z2,z3,z4,z5⟩:=hA.cells
  obtain ⟨f0,f1,f2,f3,f4,f5⟩:=hA.free
  clear z2 z3 z4 z5 f2 f3 f4 hown hA hK hB hT hNE
  by_cases hlt:k < l.length
  ·by_cases h9:s1.pos=9
   ·have e9:(((s1.pos:Nat):Int) != 9)=false:=by simp;omega
    have HX:=hid (show R=(d,k,s1,true) from by rw [HT.out,ckTake_end h9];simp)
    clear h9 HT
    go_wp2_with fail
    go_ret3
    rw [HX.out]
    exact ⟨_,rfl,own_byts HO.out,HA.out,HB.out,fresh_own HO.out⟩
   have e9:(((s1.pos:Nat):Int) != 9)=true:=by simp;omega
   by_cases h3:s1.pos=3
   ·have e3:(((s1.pos:Nat):Int)==3)=true:=by simp;omega
    have hsz:=HK.out.data h3
    have hsb:=HK.out.size
    obtain ⟨m,hm⟩:∃m:Nat,m=min s1.size (l.length-k):=⟨_,rfl⟩
    have hm1:1≤m:=by omega
    have hm2:m≤s1.size:=by omega
    have hm3:k+m≤l.length:=by omega
    have em:min ((s1.size:Nat):Int) ((l.length:Int)-(k:Int))=((m:Nat):Int):=by omega
    have HTN:=hid (show List.take (((k:Int)+(m:Int)).toNat-(k:Int).toNat) (List.drop (k:Int).toNat l)=(l.drop k).take m from by
     rw [show ((k:Int)+(m:Int)).toNat-(k:Int).toNat=m from by omega,Int.toNat_natCast])
    have HLM:=hid (show ((l.drop k).take m).length=m from by rw [List.length_take,List.length_drop];omega)
    have HX:=hid (show R=((d++(l.drop k).take m)++(ckTake (ckData s1 m) (l.drop (k+m))).1,(k+m)+(ckTake (ckData s1 m) (l.drop (k+m))).2.1,(ckTake (ckData s1 m) (l.drop (k+m))).2.2) from by
     have hlen:((l.drop k).take m).length=m:=by rw [List.length_take,List.length_drop];omega
     have hd2:(l.drop k).drop m=l.drop (k+m):=by rw [List.drop_drop]
     have h:=ckTake_many h3 ((l.drop k).take m) ((l.drop k).drop m) (by omega) (by omega)
     rw [List.take_append_drop,hlen,hd2] at h
     rw [HT.out,h]
     simp only [List.append_assoc,Prod.mk.injEq,true_and,and_true]
     omega)
    clear h9 HT hm
    go_upto_region 10 with (first
     | (refine wpList_slLH _ _ _ rfl rfl rfl rfl rfl (HU.out _ HB.out) ?_ ?_ ?_ ?_;omega;omega;omega;intro A2 hA2;have HA2:=hid hA2;clear hA2)
     | (at_builtin;go_loud (refine wpList_appS (W0:=w) (n:=d.length) (m:=m) (news:=((l.drop k).take m).map byt) elemByte rfl _ _ rfl rfl rfl HB.out.size HO.out (by have h:=HA2.out;rw [HTN.out] at h;unfold Byts at h;rw [HLM.out] at h;exact h) (by simp;omega) (one_byt _) (by omega) (by decide) ?_;intro v5 w5 hown5 happ5;obtain ⟨A5,c5,rfl⟩:=hown5.form;have hC5:=CkAt.by HA.out happ5.grown (Ne.symm HNE.out);obtain ⟨z0,z1,z2,z3,z4,z5⟩:=hC5.cells;obtain ⟨f0,f1,f2,f3,f4,f5⟩:=hC5.free;have HC5:=hid hC5;have HO5:=hid (show Own w w5 5 1 (.slice A5 (d.length+m) c5) (d++(l.drop k).take m).length ((d++(l.drop k).take m).map byt) from by rw [List.map_append,List.length_append,List.length_take,List.length_drop,show min m (l.length-k)=m from by omega];exact hown5);have HB5:=hid (by_app HB.out HO.out happ5);clear hown5 happ5 hC5 z2 z3 z4 z5 f2 f3 f4 f5)))
    have HC6:=hid (HC5.out.size (s1.size-m))
    have esub:((s1.size:Nat):Int)-(m:Int)=((s1.size-m:Nat):Int):=by omega
    have HO6:=hid (own_kr HO5.out (by_st ((Gr.refl w5).by (some g)) 1 (.int .i64 ((s1.size-m:Nat):Int))) (.inr (own_ne HO5.out HG.out)))
    have HB6:=hid (by_st HB5.out 1 (.int .i64 ((s1.size-m:Nat):Int)))
    have HLE:=hid (show (d++(l.drop k).take m).length≤k+m from by rw [List.length_append,HLM.out];omega)
    by_cases hz:s1.size-m=0
    ·have ez:(((s1.size-m:Nat):Int)==0)=true:=by simp;omega
     have HZ:=hid hz
     clear hz
     go_wp2_with fail
     refine ⟨⟨k+m,d++(l.drop k).take m,ckData s1 m,hm3,HLE.out,by go_num,own_kr HO6.out (by_st ((Gr.refl _).by (some g)) 0 _) (.inr (own_ne HO6.out HG.out)),?_,ckData_ok HK.out hm1,by_st HB6.out 0 _,HX.out⟩,by simp [intOf];omega⟩
     have h:=HC6.out.pos 4
     unfold ckData
     rw [if_pos HZ.out]
     exact h
    ·have ez:(((s1.size-m:Nat):Int)==0)=false:=by simp;omega
     go_wp2_with fail
     refine ⟨⟨k+m,d++(l.drop k).take m,ckData s1 m,hm3,HLE.out,by go_num,HO6.out,?_,ckData_ok HK.out hm1,HB6.out,HX.out⟩,by simp [intOf];omega⟩
     have h:=HC6.out
     unfold ckData
     rw [if_neg hz]
     rw [h3] at h
     exact h
   ·have e3:(((s1.pos:Nat):Int)==3)=false:=by simp;omega
    obtain ⟨b,o,rfl,hb,hcell⟩:=(HU.out _ HB.out).cellAt k hlt
    have HD:=hid (show l.drop k=l[k]::l.drop (k+1) from List.drop_eq_getElem_cons hlt)
    have HST:=hid (ckStep_any s1 l[k] wr g HA.out HK.out h3 h9)
    cases hs:(ckStep s1 l[k]).2 with
    | true=>
      have HX:=hid (show R=(d++(ckTake (ckStep s1 l[k]).1 (l.drop (k+1))).1,(k+1)+(ckTake (ckStep s1 l[k]).1 (l.drop (k+1))).2.1,(ckTake (ckStep s1 l[k]).1 (l.drop (k+1))).2.2) from by
       rw [HT.out,HD.out,ckTake_step h9 h3 hs]
       simp only [Prod.mk.injEq,true_and,and_true]
       omega)
      have HKS:=hid (ckStep_ok HK.out h3 hs)
      generalize ckStep s1 l[k]=r1 at *
      obtain ⟨s2,b2⟩:=r1
      simp only at hs
      subst hs
      clear HT
      go_wp2_with (go_at_call 271;refine HST.out.mono ?_;rintro e w5 ⟨rfl,hC5,hB5⟩;simp only [])
      exact ⟨⟨k+1,d,s2,by omega,by omega,by go_num,own_kr HO.out hB5 (.inr HNE.out),hC5,HKS.out,by_trans HB.out hB5,HX.out⟩,by simp [intOf];omega⟩
    | false=>
      have HX:=hid (show R=(d,k,(ckStep s1 l[k]).1,false) from by
       rw [HT.out,HD.out,ckTake_bad h9 h3 hs];simp)
      generalize ckStep s1 l[k]=r1 at *
      obtain ⟨s2,b2⟩:=r1
      simp only at hs
      subst hs
      clear HT
      go_upto_region 14 with (go_at_call 271;refine HST.out.mono ?_;rintro e w5 ⟨rfl,hC5,hB5⟩;have f5:=hC5.free.2.2.2.2.2;have z5:=hC5.cells.2.2.2.2.2;have HC5:=hid hC5;have HB5:=hid (by_trans HB.out hB5);clear hC5 hB5;simp only [])
      go_wp2_with fail
      go_ret3
      rw [HX.out]
      exact ⟨_,rfl,Byts.nil _,HC5.out.bad true,by_st HB5.out _ _,fresh_nil _⟩
  ·have HX:=hid (show R=(d,k,s1,true) from by
    rw [HT.out,List.drop_of_length_le (by omega)];simp [ckTake])
   clear HT
   go_wp2_with fail
   go_ret3
   rw [HX.out]
   exact ⟨_,rfl,own_byts HO.out,HA.out,HB.out,fresh_own HO.out⟩
theorem ckDone_any (s:CkT) (b:Bool) (w:World) (g:Nat) (h:CkAt w g s b):Calls Tryz.prog 228 #[.pointer (some ⟨g,0,none⟩)] w fun e w'=>e=.returned (.bool (!b&&s.pos==9))∧Gr w w':=by
 obtain ⟨z0,z1,z2,z3,z4,z5⟩:=h.cells
 clear z1 z2 z3 z4 h
 cases b with
 | true=>
   go_enter Tryz.func228,Tryz.ntmps228
   go_wp2_with fail
   go_ret
   exact ⟨rfl,Gr.refl _⟩
 | false=>
   by_cases h9:s.pos=9
   ·have e9:(((s.pos:Nat):Int)==9)=true:=by simp;omega
    have HX:=hid (show (!false&&s.pos==9)=true from by simp [h9])
    rw [HX.out]
    clear h9
    go_enter Tryz.func228,Tryz.ntmps228
    go_wp2_with fail
    go_ret
    exact ⟨rfl,Gr.refl _⟩
   ·have e9:(((s.pos:Nat):Int)==9)=false:=by simp;omega
    have HX:=hid (show (!false&&s.pos==9)=false from by simp [h9])
    rw [HX.out]
    clear h9
    go_enter Tryz.func228,Tryz.ntmps228
    go_wp2_with fail
    go_ret
    exact ⟨rfl,Gr.refl _⟩
theorem ckNew_any (w:World):Calls Tryz.prog 269 #[] w fun e w'=>∃g,e=.returned (.pointer (some ⟨g,0,none⟩))∧CkAt w' g CkT.start false∧Gr w w'∧w.heap.size≤g:=by
 go_enter Tryz.func269,Tryz.ntmps269
 go_wp2_with fail
 go_ret
 exact ⟨_,rfl,Bk.new _ _ _ _,Gr.al (Gr.refl _) _,Nat.le_refl _⟩
structure FrAt (w:World) (g gc:Nat) (s:FrT):Prop where
 fr:Bk w g 244 #[.int .i64 (s.kind:Nat),.int .i64 (s.left:Nat),.pointer (some ⟨gc,0,none⟩),.bool s.ended] (0,0)
 ck:CkAt w gc s.ck s.bad
 ne:g≠gc
theorem FrAt.gr {w w':World} {g gc:Nat} {s:FrT} (h:FrAt w g gc s) (k:Gr w w'):FrAt w' g gc s:=⟨h.fr.gr k,h.ck.gr k,h.ne⟩
theorem FrAt.by {w w':World} {g gc:Nat} {s:FrT} {r:Option Nat} (h:FrAt w g gc s) (k:w.grownBy w' r) (h1:some g≠r) (h2:some gc≠r):FrAt w' g gc s:=⟨bk_byo h.fr k h1,h.ck.by k h2,h.ne⟩
theorem kr_by {w w':World} {r:Nat} {S:List Nat} (h:w.grownBy w' (some r)) (hs:r∈S):Kr S w.heap.size w w':=(Kr.refl (Nat.le_refl _)).by h (fun k e=>by cases e;exact .inl hs)
theorem frNew_any (k sz:Nat) (w:World) (h1:1≤k) (h4:k≤4) (hs:sz≤1099511627776) (h0:k≠1→sz=0):Calls Tryz.prog 226 #[.int .i64 (k:Nat),.int .i64 (sz:Nat)] w fun e w'=>∃g gc,e=.returned (.tuple #[.pointer (some ⟨g,0,none⟩),.int .i64 0])∧FrAt w' g gc (FrT.new k sz)∧Gr w w'∧w.heap.size≤g∧w.heap.size≤gc:=by
 obtain rfl | rfl | rfl | rfl:k=1∨k=2∨k=3∨k=4:=by omega
 ·have d1:decide ((sz:Int) < 0)=false:=decide_eq_false (by omega)
  have d2:decide (1099511627776 < (sz:Int))=false:=decide_eq_false (by omega)
  clear h0
  show Calls Tryz.prog 226 #[.int .i64 1,.int .i64 (sz:Nat)] w _
  go_enter Tryz.func226,Tryz.ntmps226
  go_wp2_with (go_at_call 269;refine (ckNew_any _).mono ?_;rintro e w1 ⟨gc,rfl,hC,hG,hgc⟩)
  go_ret2
  exact ⟨_,gc,rfl,⟨Bk.new _ _ _ _,hC.gr (Gr.al (Gr.refl _) _),(Nat.ne_of_lt (Bk.lt hC)).symm⟩,Gr.al hG _,hG.size,hgc⟩
 ·obtain rfl:=h0 (by decide)
  show Calls Tryz.prog 226 #[.int .i64 2,.int .i64 0] w _
  go_enter Tryz.func226,Tryz.ntmps226
  go_wp2_with (go_at_call 269;refine (ckNew_any _).mono ?_;rintro e w1 ⟨gc,rfl,hC,hG,hgc⟩)
  go_ret2
  exact ⟨_,gc,rfl,⟨Bk.new _ _ _ _,hC.gr (Gr.al (Gr.refl _) _),(Nat.ne_of_lt (Bk.lt hC)).symm⟩,Gr.al hG _,hG.size,hgc⟩
 ·obtain rfl:=h0 (by decide)
  show Calls Tryz.prog 226 #[.int .i64 3,.int .i64 0] w _
  go_enter Tryz.func226,Tryz.ntmps226
  go_wp2_with (go_at_call 269;refine (ckNew_any _).mono ?_;rintro e w1 ⟨gc,rfl,hC,hG,hgc⟩)
  go_ret2
  exact ⟨_,gc,rfl,⟨Bk.new _ _ _ _,hC.gr (Gr.al (Gr.refl _) _),(Nat.ne_of_lt (Bk.lt hC)).symm⟩,Gr.al hG _,hG.size,hgc⟩
 ·obtain rfl:=h0 (by decide)
  show Calls Tryz.prog 226 #[.int .i64 4,.int .i64 0] w _
  go_enter Tryz.func226,Tryz.ntmps226
  go_wp2_with (go_at_call 269;refine (ckNew_any _).mono ?_;rintro e w1 ⟨gc,rfl,hC,hG,hgc⟩)
  go_ret2
  exact ⟨_,gc,rfl,⟨Bk.new _ _ _ _,hC.gr (Gr.al (Gr.refl _) _),(Nat.ne_of_lt (Bk.lt hC)).symm⟩,Gr.al hG _,hG.size,hgc⟩
def FTakeEnd (w:World) (g gc:Nat) (r:List UInt8×Nat×Nat×FrT) (e:Ending) (w':World):Prop:=
 ∃v,e=.returned (.tuple #[v,.int .i64 (r.2.1:Nat),.int .i64 (r.2.2.1:Nat)])∧Byts w' v r.1∧FrAt w' g gc r.2.2.2∧Kr [g,gc] w.heap.size w w'∧Fresh w v
theorem FrAt.cells {w:World} {g gc:Nat} {s:FrT} (h:FrAt w g gc s):w.cell? ⟨g,0,none⟩=some (.int .i64 (s.kind:Nat))∧w.cell? ⟨g,1,none⟩=some (.int .i64 (s.left:Nat))∧w.cell? ⟨g,2,none⟩=some (.pointer (some ⟨gc,0,none⟩))∧w.cell? ⟨g,3,none⟩=some (.bool s.ended):=⟨h.fr.cell 0,h.fr.cell 1,h.fr.cell 2,h.fr.cell 3⟩
theorem frTakeE_any (s:FrT) (u:Value) (l:List UInt8) (w:World) (g gc:Nat) (h:FrAt w g gc s) (he:s.ended=true):Calls Tryz.prog 166 #[.pointer (some ⟨g,0,none⟩),u] w (FTakeEnd w g gc (frTk s l)):=by
 obtain ⟨z0,z1,z2,z3⟩:=h.cells
 rw [he] at z3
 have HA:=hid h
 have HX:=hid (show frTk s l=([],0,0,s) from if_pos he)
 clear z0 z1 z2 h he
 go_enter Tryz.func166,Tryz.ntmps166
 go_wp2_with fail
 go_ret3
 rw [HX.out]
 exact ⟨_,rfl,Byts.nil _,HA.out,Kr.refl (Nat.le_refl _),fresh_nil _⟩
theorem frTake1_any (left:Nat) (c:CkT) (b:Bool) (l:List UInt8) (u:Value) (w:World) (g gc:Nat) (h:FrAt w g gc ⟨1,left,c,b,false⟩) (hlf:left≤1099511627776) (hu:Byts w u l) (hne:u.ownBlock≠some g) (hl:l.length≤1000000):Calls Tryz.prog 166 #[.pointer (some ⟨g,0,none⟩),u] w (FTakeEnd w g gc (frTk ⟨1,left,c,b,false⟩ l)):=by
 obtain ⟨A,cc,rfl,-,-,-⟩:=id hu.open
 obtain ⟨m,hm⟩:∃m:Nat,m=min left l.length:=⟨_,rfl⟩
 have HX:=hid (show frTk ⟨1,left,c,b,false⟩ l=(l.take m,m,0,⟨1,left-m,c,b,false⟩) from by rw [hm];rfl)
 have z0:w.cell? ⟨g,0,none⟩=some (.int .i64 1):=h.fr.cell 0
 have z1:w.cell? ⟨g,1,none⟩=some (.int .i64 (left:Nat)):=h.fr.cell 1
 have z3:w.cell? ⟨g,3,none⟩=some (.bool false):=h.fr.cell 3
 have f1:w.frozen? ⟨g,1,none⟩=false:=h.fr.free 1 (.inr (Nat.zero_le _))
 have em:min ((left:Nat):Int) ((l.length:Nat):Int)=((m:Nat):Int):=by omega
 have esub:IntKind.i64.wrap (((left:Nat):Int)-(m:Int))=((left-m:Nat):Int):=by rw [IntWalk.i64_in _ (by omega)];omega
 have HU1:=hid (hu.st hne 1 (.int .i64 ((left-m:Nat):Int)))
 have HA:=hid h
 have hml:m≤l.length:=by omega
 clear h hu hne hm
 go_enter Tryz.func166,Tryz.ntmps166
 go_upto_region 12 with fail
 go_wp2_with (first
  | (refine wpList_slHi _ _ rfl rfl rfl rfl HU1.out ?_ ?_ ?_;omega;omega;intro A2 hA2;have HA2:=hid hA2;clear hA2)
  | (at_builtin;refine wpList_appS (W0:=w) (n:=0) (m:=m) (xs:=[]) (news:=(l.take m).map byt) elemByte rfl _ _ rfl rfl rfl (by simp [World.setCell]) (Own.nil _ _ _ _) (by have h:=HA2.out;unfold Byts at h;simp only [Int.toNat_natCast,List.length_take,Nat.min_eq_left hml] at h;exact h) (by simp;omega) (one_byt _) (by omega) (by decide) ?_;intro v5 w5 hown5 happ5;rw [Nat.zero_add,List.nil_append] at hown5;obtain ⟨A5,c5,rfl⟩:=hown5.form;have HO5:=hid hown5;have HG5:=hid (gr_none happ5.grown);clear hown5 happ5))
 go_ret3
 rw [HX.out]
 refine ⟨_,rfl,own_byts (by rw [List.length_take,Nat.min_eq_left hml];exact HO5.out),⟨?_,?_,HA.out.ne⟩,(kr_by (by_st ((Gr.refl w).by (some g)) 1 _) (by simp)).gr HG5.out,fresh_own HO5.out⟩
 ·exact (show Bk (w.setCell ⟨g,1,none⟩ (.int .i64 ((left-m:Nat):Int))) g 244 _ _ from HA.out.fr.set 1 _).gr HG5.out
 ·exact (HA.out.ck.by (by_st ((Gr.refl w).by (some g)) 1 _) (by simpa using HA.out.ne.symm)).gr HG5.out
theorem frTake2_any (left:Nat) (c:CkT) (l:List UInt8) (u:Value) (w:World) (g gc:Nat) (h:FrAt w g gc ⟨2,left,c,false,false⟩) (hk:CkOk c) (hu:Byts w u l) (hne:u.ownBlock≠some gc) (hl:l.length≤1000000):Calls Tryz.prog 166 #[.pointer (some ⟨g,0,none⟩),u] w (FTakeEnd w g gc (frTk ⟨2,left,c,false,false⟩ l)):=by
 have HX:=hid (show frTk ⟨2,left,c,false,false⟩ l=(if (ckTake c l).2.2.2 then (ckTake c l).1 else [],(ckTake c l).2.1,if (ckTake c l).2.2.2 then 0 else 2,⟨2,left,(ckTake c l).2.2.1,!(ckTake c l).2.2.2,false⟩) from rfl)
 have HT:=hid (ckTake_any c l u w gc h.ck hk hu hne hl)
 have z0:w.cell? ⟨g,0,none⟩=some (.int .i64 2):=h.fr.cell 0
 have z2:w.cell? ⟨g,2,none⟩=some (.pointer (some ⟨gc,0,none⟩)):=h.fr.cell 2
 have z3:w.cell? ⟨g,3,none⟩=some (.bool false):=h.fr.cell 3
 have HA:=hid h
 clear h hu hne hk
 generalize ckTake c l=R at *
 obtain ⟨d,n,s',ok⟩:=R
 cases ok
 all_goals
  go_enter Tryz.func166,Tryz.ntmps166
  go_wp2_with (go_at_call 229;refine HT.out.mono ?_;rintro e w1 ⟨v,rfl,hB,hC,hby,hf⟩;have HB:=hid hB;have HC:=hid hC;have HBY:=hid hby;have HF:=hid hf;clear hB hC hby hf)
  go_ret3
  rw [HX.out]
  exact ⟨_,rfl,HB.out,⟨bk_byo HA.out.fr HBY.out (by simpa using HA.out.ne),HC.out,HA.out.ne⟩,kr_by HBY.out (by simp),HF.out⟩
theorem frTake3_any (left:Nat) (c:CkT) (b:Bool) (l:List UInt8) (u:Value) (w:World) (g gc:Nat) (h:FrAt w g gc ⟨3,left,c,b,false⟩) (hu:Byts w u l) (hl:l.length≤1000000):Calls Tryz.prog 166 #[.pointer (some ⟨g,0,none⟩),u] w (FTakeEnd w g gc (frTk ⟨3,left,c,b,false⟩ l)):=by
 obtain ⟨A,cc,rfl,-,-,-⟩:=id hu.open
 have HX:=hid (show frTk ⟨3,left,c,b,false⟩ l=(l,l.length,0,⟨3,left,c,b,false⟩) from rfl)
 have z0:w.cell? ⟨g,0,none⟩=some (.int .i64 3):=h.fr.cell 0
 have z3:w.cell? ⟨g,3,none⟩=some (.bool false):=h.fr.cell 3
 have HU1:=hid hu
 have HA:=hid h
 clear h hu
 go_enter Tryz.func166,Tryz.ntmps166
 go_upto_region 12 with fail
 go_wp2_with (first
  | (refine wpList_slHi _ _ rfl rfl rfl rfl HU1.out ?_ ?_ ?_;omega;omega;intro A2 hA2;have HA2:=hid hA2;clear hA2)
  | (at_builtin;refine wpList_appS (W0:=w) (n:=0) (m:=l.length) (xs:=[]) (news:=l.map byt) elemByte rfl _ _ rfl rfl rfl (Nat.le_refl _) (Own.nil _ _ _ _) (by have h:=HA2.out;unfold Byts at h;simp only [Int.toNat_natCast,List.take_length] at h;exact h) (by simp) (one_byt _) (by omega) (by decide) ?_;intro v5 w5 hown5 happ5;rw [Nat.zero_add,List.nil_append] at hown5;obtain ⟨A5,c5,rfl⟩:=hown5.form;have HO5:=hid hown5;have HG5:=hid (gr_none happ5.grown);clear hown5 happ5))
 go_ret3
 rw [HX.out]
 exact ⟨_,rfl,own_byts HO5.out,HA.out.gr HG5.out,(Kr.refl (Nat.le_refl _)).gr HG5.out,fresh_own HO5.out⟩
theorem frTake4_any (left:Nat) (c:CkT) (b:Bool) (l:List UInt8) (u:Value) (w:World) (g gc:Nat) (h:FrAt w g gc ⟨4,left,c,b,false⟩) (hu:Byts w u l):Calls Tryz.prog 166 #[.pointer (some ⟨g,0,none⟩),u] w (FTakeEnd w g gc (frTk ⟨4,left,c,b,false⟩ l)):=by
 obtain ⟨A,cc,rfl,-,-,-⟩:=id hu.open
 have HX:=hid (show frTk ⟨4,left,c,b,false⟩ l=([],0,0,⟨4,left,c,b,false⟩) from rfl)
 have z0:w.cell? ⟨g,0,none⟩=some (.int .i64 4):=h.fr.cell 0
 have z3:w.cell? ⟨g,3,none⟩=some (.bool false):=h.fr.cell 3
 have HU1:=hid hu
 have HA:=hid h
 clear h hu
 go_enter Tryz.func166,Tryz.ntmps166
 go_upto_region 12 with fail
 go_wp2_with (first
  | (refine wpList_slHi (k:=0) _ _ rfl rfl rfl rfl HU1.out ?_ ?_ ?_;omega;omega;intro A2 hA2;have HA2:=hid hA2;clear hA2)
  | (at_builtin;refine wpList_appS (W0:=w) (n:=0) (m:=0) (xs:=[]) (news:=[]) elemByte rfl _ _ rfl rfl rfl (Nat.le_refl _) (Own.nil _ _ _ _) (by have h:=HA2.out;rw [show List.take (0:Int).toNat l=[] from rfl] at h;exact h) (by simp) (by simp) (by omega) (by decide) ?_;intro v5 w5 hown5 happ5;rw [Nat.zero_add,List.nil_append] at hown5;obtain ⟨A5,c5,rfl⟩:=hown5.form;have HO5:=hid hown5;have HG5:=hid (gr_none happ5.grown);clear hown5 happ5))
 go_ret3
 rw [HX.out]
 exact ⟨_,rfl,own_byts HO5.out,HA.out.gr HG5.out,(Kr.refl (Nat.le_refl _)).gr HG5.out,fresh_own HO5.out⟩
theorem frTake_any (s:FrT) (l:List UInt8) (u:Value) (w:World) (g gc:Nat) (h:FrAt w g gc s) (hk:1≤s.kind∧s.kind≤4) (hb:s.bad=false) (hc:CkOk s.ck) (hlf:s.left≤1099511627776) (hu:Byts w u l) (hne:u.ownBlock≠some g) (hnc:u.ownBlock≠some gc) (hl:l.length≤1000000):Calls Tryz.prog 166 #[.pointer (some ⟨g,0,none⟩),u] w (FTakeEnd w g gc (frTk s l)):=by
 obtain ⟨k,left,c,b,e⟩:=s
 simp only at hk hb hc hlf
 subst hb
 cases e with
 | true=>exact frTakeE_any _ u l w g gc h rfl
 | false=>
   obtain rfl | rfl | rfl | rfl:k=1∨k=2∨k=3∨k=4:=by omega
   ·exact frTake1_any left c false l u w g gc h hlf hu hne hl
   ·exact frTake2_any left c l u w g gc h hc hu hnc hl
   ·exact frTake3_any left c false l u w g gc h hu hl
   ·exact frTake4_any left c false l u w g gc h hu
theorem frDone_any (s:FrT) (w:World) (g gc:Nat) (h:FrAt w g gc s) (hk:1≤s.kind∧s.kind≤4):Calls Tryz.prog 165 #[.pointer (some ⟨g,0,none⟩)] w fun e w'=>e=.returned (.bool (frDone s))∧Gr w w':=by
 obtain ⟨k,left,c,b,e⟩:=s
 simp only at hk
 obtain ⟨z0,z1,z2,z3⟩:=h.cells
 simp only at z0 z1 z3
 have HD:=hid (ckDone_any c b w gc h.ck)
 clear h
 obtain rfl | rfl | rfl | rfl:k=1∨k=2∨k=3∨k=4:=by omega
 ·have z0:w.cell? ⟨g,0,none⟩=some (.int .i64 1):=z0
  have HX:=hid (show frDone ⟨1,left,c,b,e⟩=(left==0) from rfl)
  clear z2 z3 HD hk
  go_enter Tryz.func165,Tryz.ntmps165
  go_wp2_with fail
  go_ret
  refine ⟨ret_bool ?_,Gr.refl _⟩
  rw [HX.out]
  cases left <;> simp
  omega
 ·have z0:w.cell? ⟨g,0,none⟩=some (.int .i64 2):=z0
  have HX:=hid (show frDone ⟨2,left,c,b,e⟩=(!b&&c.pos==9) from rfl)
  clear z1 z3 hk
  go_enter Tryz.func165,Tryz.ntmps165
  go_wp2_with (go_at_call 228;refine HD.out.mono ?_;rintro e w1 ⟨rfl,hg1⟩)
  go_ret
  exact ⟨ret_bool HX.out.symm,hg1⟩
 ·have z0:w.cell? ⟨g,0,none⟩=some (.int .i64 3):=z0
  have HX:=hid (show frDone ⟨3,left,c,b,e⟩=e from rfl)
  clear z1 z2 HD hk
  go_enter Tryz.func165,Tryz.ntmps165
  go_wp2_with fail
  go_ret
  exact ⟨ret_bool HX.out.symm,Gr.refl _⟩
 ·have z0:w.cell? ⟨g,0,none⟩=some (.int .i64 4):=z0
  have HX:=hid (show frDone ⟨4,left,c,b,e⟩=true from rfl)
  clear z1 z2 z3 HD hk
  go_enter Tryz.func165,Tryz.ntmps165
  go_wp2_with fail
  go_ret
  exact ⟨ret_bool HX.out.symm,Gr.refl _⟩
theorem frEnd_any (s:FrT) (w:World) (g gc:Nat) (h:FrAt w g gc s) (hk:1≤s.kind∧s.kind≤4):Calls Tryz.prog 95 #[.pointer (some ⟨g,0,none⟩)] w fun e w'=>e=.returned (.int .i64 (if frDone s.stop then 0 else 13))∧FrAt w' g gc s.stop∧w.grownBy w' (some g):=by
 have z3:w.cell? ⟨g,3,none⟩=some (.bool s.ended):=h.fr.cell 3
 have f3:w.frozen? ⟨g,3,none⟩=false:=h.fr.free 3 (.inr (Nat.zero_le _))
 have hA:FrAt (w.setCell ⟨g,3,none⟩ (.bool true)) g gc s.stop:=⟨by have:=h.fr.set 3 (.bool true);simpa [FrT.stop] using this,h.ck.by (by_st ((Gr.refl w).by (some g)) 3 _) (by simpa using h.ne.symm),h.ne⟩
 have HA:=hid hA
 have HD:=hid (frDone_any s.stop _ g gc hA hk)
 have HB:=hid (by_st ((Gr.refl w).by (some g)) 3 (.bool true))
 clear h hA hk
 cases hd:frDone s.stop with
 | true=>
   rw [hd] at HD
   clear hd
   go_enter Tryz.func95,Tryz.ntmps95
   go_wp2_with (go_at_call 165;refine HD.out.mono ?_;rintro e w1 ⟨rfl,hg1⟩)
   go_ret
   exact ⟨rfl,HA.out.gr hg1,by_gr HB.out hg1⟩
 | false=>
   rw [hd] at HD
   clear hd
   go_enter Tryz.func95,Tryz.ntmps95
   go_wp2_with (go_at_call 165;refine HD.out.mono ?_;rintro e w1 ⟨rfl,hg1⟩)
   go_ret
   exact ⟨rfl,HA.out.gr hg1,by_gr HB.out hg1⟩
theorem frBare_any (st:Int) (w:World):Calls Tryz.prog 265 #[.int .i64 st] w fun e w'=>e=.returned (.bool (bareS st))∧Gr w w':=by
 have HS:=hid (show bareS st=((decide (100≤st)&&decide (st≤199))||(st==204||st==304)) from rfl)
 cases h1:decide (100≤st) <;> cases h2:decide (st≤199) <;> cases h3:(st==204) <;> cases h4:(st==304)
 all_goals
  rw [h1,h2,h3,h4] at HS
  go_enter Tryz.func265,Tryz.ntmps265
  go_wp2_with fail
  go_ret
  exact ⟨ret_bool HS.out.symm,Gr.refl _⟩
theorem chk_bits:∀x:Fin 256,∀m∈[99,104,117,110,107,101,100],(lowN (UInt8.ofNat x.val)).toNat=m→x.val=m∨x.val=m-32:=by decide +kernel
theorem chk_no {a:UInt8} (m:UInt8) (hm:m.toNat∈[99,104,117,110,107,101,100]) (h1:a.toNat≠m.toNat) (h2:a.toNat≠m.toNat-32):lowN a≠m:=by
 intro h
 have:=chk_bits ⟨a.toNat,a.toNat_lt⟩ m.toNat hm (by simp only [UInt8.ofNat_toNat,h])
 simp only at this
 omega
theorem alike_chunk (s:List UInt8):alike s chunkedN=(low s==[99,104,117,110,107,101,100]):=by
 unfold alike
 rw [show low chunkedN=[99,104,117,110,107,101,100] by decide]
theorem alike_seven {s:List UInt8} (h:s.length≠7):alike s chunkedN=false:=by
 rw [alike_chunk,beq_eq_false_iff_ne]
 intro e
 have:=congrArg List.length e
 simp [low] at this
 exact h this
theorem seven_form {s:List UInt8} (h:s.length=7):∃a b c d e f g,s=[a,b,c,d,e,f,g]:=by
 match s,h with
 | [a,b,c,d,e,f,g],_=>exact ⟨a,b,c,d,e,f,g,rfl⟩
theorem frChunked_any (s:List UInt8) (w:World):Calls Tryz.prog 267 #[str s] w fun e' w'=>e'=.returned (.bool (alike s chunkedN))∧Gr w w':=by
 by_cases h7:s.length=7
 case neg=>
  have k1:((s.length:Int) != 7)=true:=by simp;omega
  rw [alike_seven h7]
  clear h7
  go_enter Tryz.func267,Tryz.ntmps267
  go_wp2_with fail
  go_ret
  exact ⟨rfl,Gr.refl _⟩
 obtain ⟨a,b,c,d,e,f,g,rfl⟩:=seven_form h7
 rw [alike_chunk]
 clear h7
 go_enter Tryz.func267,Tryz.ntmps267
 go_upto_region 4 with fail
 go_loopw [3,9] (fun x i wr=>∃k:Nat,k≤7∧i=.int .i64 k∧Gr w wr∧(low [a,b,c,d,e,f,g]).take k=List.take k [99,104,117,110,107,101,100]) (fun _ i _=>7-(intOf i).toNat)
 case atStart=>exact ⟨0,Nat.zero_le _,rfl,Gr.refl _,rfl⟩
 case round=>
  obtain ⟨k,hk,rfl,hG,hE⟩:=hrel
  obtain rfl | rfl | rfl | rfl | rfl | rfl | rfl | rfl:k=0∨k=1∨k=2∨k=3∨k=4∨k=5∨k=6∨k=7:=by omega
  ·by_cases h1:a.toNat=99
   ·have e1:(((a.toNat:Nat):Int) != 99)=false:=by simp;omega
    have HN:=hid (show (low [a,b,c,d,e,f,g]).take 1=List.take 1 [99,104,117,110,107,101,100] from by
     have hl:lowN a=99:=by rw [show a=(99:UInt8) from UInt8.toNat_inj.1 h1];decide
     simp only [low,List.map_cons,List.map_nil,List.take_succ_cons,List.take_zero,List.cons.injEq,and_true] at hE ⊢
     simp only [hl,hE,and_self])
    clear hE
    go_upto_region 6 with fail
    refine wp_region_gw (by kernel_rfl) (by kernel_rfl) ?_
    repeat (first | go_big_quiet_step (fail) | quiet_step (fail))
    refine wpQuiet_nil ?_;intro wq hwq;obtain ⟨iq,rfl⟩:=hwq
    go_wp2_with fail
    exact ⟨⟨1,by omega,rfl,Gr.tr hG (gw_gr _ _),HN.out⟩,by simp [intOf]⟩
   have e1:(((a.toNat:Nat):Int) != 99)=true:=by simp;omega
   by_cases h2:a.toNat=67
   ·have e2:(((a.toNat:Nat):Int) != 67)=false:=by simp;omega
    have HN:=hid (show (low [a,b,c,d,e,f,g]).take 1=List.take 1 [99,104,117,110,107,101,100] from by
     have hl:lowN a=99:=by rw [show a=(67:UInt8) from UInt8.toNat_inj.1 h2];decide
     simp only [low,List.map_cons,List.map_nil,List.take_succ_cons,List.take_zero,List.cons.injEq,and_true] at hE ⊢
     simp only [hl,hE,and_self])
    clear hE
    go_upto_region 6 with fail
    refine wp_region_gw (by kernel_rfl) (by kernel_rfl) ?_
    repeat (first | go_big_quiet_step (fail) | quiet_step (fail))
    refine wpQuiet_nil ?_;intro wq hwq;obtain ⟨iq,rfl⟩:=hwq
    go_wp2_with fail
    exact ⟨⟨1,by omega,rfl,Gr.tr hG (gw_gr _ _),HN.out⟩,by simp [intOf]⟩
   ·have e2:(((a.toNat:Nat):Int) != 67)=true:=by simp;omega
    have HN:=hid (show (low [a,b,c,d,e,f,g]==[99,104,117,110,107,101,100])=false from by
     have hl:lowN a≠99:=chk_no 99 (by decide) h1 h2
     simp only [beq_eq_false_iff_ne,ne_eq,low,List.map_cons,List.map_nil,List.cons.injEq]
     intro hh;exact hl (by simp only [hh]))
    clear hE h1 h2
    go_upto_region 6 with fail
    refine wp_region_gw (by kernel_rfl) (by kernel_rfl) ?_
    repeat (first | go_big_quiet_step (fail) | quiet_step (fail))
    refine wpQuiet_nil ?_;intro wq hwq;obtain ⟨iq,rfl⟩:=hwq
    go_wp2_with fail
    go_ret
    exact ⟨ret_bool HN.out.symm,Gr.tr hG (gw_gr _ _)⟩
  ·by_cases h1:b.toNat=104
   ·have e1:(((b.toNat:Nat):Int) != 104)=false:=by simp;omega
    have HN:=hid (show (low [a,b,c,d,e,f,g]).take 2=List.take 2 [99,104,117,110,107,101,100] from by
     have hl:lowN b=104:=by rw [show b=(104:UInt8) from UInt8.toNat_inj.1 h1];decide
     simp only [low,List.map_cons,List.map_nil,List.take_succ_cons,List.take_zero,List.cons.injEq,and_true] at hE ⊢
     simp only [hl,hE,and_self])
    clear hE
    go_upto_region 6 with fail
    refine wp_region_gw (by kernel_rfl) (by kernel_rfl) ?_
    repeat (first | go_big_quiet_step (fail) | quiet_step (fail))
    refine wpQuiet_nil ?_;intro wq hwq;obtain ⟨iq,rfl⟩:=hwq
    go_wp2_with fail
    exact ⟨⟨2,by omega,rfl,Gr.tr hG (gw_gr _ _),HN.out⟩,by simp [intOf]⟩
   have e1:(((b.toNat:Nat):Int) != 104)=true:=by simp;omega
   by_cases h2:b.toNat=72
   ·have e2:(((b.toNat:Nat):Int) != 72)=false:=by simp;omega
    have HN:=hid (show (low [a,b,c,d,e,f,g]).take 2=List.take 2 [99,104,117,110,107,101,100] from by
     have hl:lowN b=104:=by rw [show b=(72:UInt8) from UInt8.toNat_inj.1 h2];decide
     simp only [low,List.map_cons,List.map_nil,List.take_succ_cons,List.take_zero,List.cons.injEq,and_true] at hE ⊢
     simp only [hl,hE,and_self])
    clear hE
    go_upto_region 6 with fail
    refine wp_region_gw (by kernel_rfl) (by kernel_rfl) ?_
    repeat (first | go_big_quiet_step (fail) | quiet_step (fail))
    refine wpQuiet_nil ?_;intro wq hwq;obtain ⟨iq,rfl⟩:=hwq
    go_wp2_with fail
    exact ⟨⟨2,by omega,rfl,Gr.tr hG (gw_gr _ _),HN.out⟩,by simp [intOf]⟩
   ·have e2:(((b.toNat:Nat):Int) != 72)=true:=by simp;omega
    have HN:=hid (show (low [a,b,c,d,e,f,g]==[99,104,117,110,107,101,100])=false from by
     have hl:lowN b≠104:=chk_no 104 (by decide) h1 h2
     simp only [beq_eq_false_iff_ne,ne_eq,low,List.map_cons,List.map_nil,List.cons.injEq]
     intro hh;exact hl (by simp only [hh]))
    clear hE h1 h2
    go_upto_region 6 with fail
    refine wp_region_gw (by kernel_rfl) (by kernel_rfl) ?_
    repeat (first | go_big_quiet_step (fail) | quiet_step (fail))
    refine wpQuiet_nil ?_;intro wq hwq;obtain ⟨iq,rfl⟩:=hwq
    go_wp2_with fail
    go_ret
    exact ⟨ret_bool HN.out.symm,Gr.tr hG (gw_gr _ _)⟩
  ·by_cases h1:c.toNat=117
   ·have e1:(((c.toNat:Nat):Int) != 117)=false:=by simp;omega
    have HN:=hid (show (low [a,b,c,d,e,f,g]).take 3=List.take 3 [99,104,117,110,107,101,100] from by
     have hl:lowN c=117:=by rw [show c=(117:UInt8) from UInt8.toNat_inj.1 h1];decide
     simp only [low,List.map_cons,List.map_nil,List.take_succ_cons,List.take_zero,List.cons.injEq,and_true] at hE ⊢
     simp only [hl,hE,and_self])
    clear hE
    go_upto_region 6 with fail
    refine wp_region_gw (by kernel_rfl) (by kernel_rfl) ?_
    repeat (first | go_big_quiet_step (fail) | quiet_step (fail))
    refine wpQuiet_nil ?_;intro wq hwq;obtain ⟨iq,rfl⟩:=hwq
    go_wp2_with fail
    exact ⟨⟨3,by omega,rfl,Gr.tr hG (gw_gr _ _),HN.out⟩,by simp [intOf]⟩
   have e1:(((c.toNat:Nat):Int) != 117)=true:=by simp;omega
   by_cases h2:c.toNat=85
   ·have e2:(((c.toNat:Nat):Int) != 85)=false:=by simp;omega
    have HN:=hid (show (low [a,b,c,d,e,f,g]).take 3=List.take 3 [99,104,117,110,107,101,100] from by
     have hl:lowN c=117:=by rw [show c=(85:UInt8) from UInt8.toNat_inj.1 h2];decide
     simp only [low,List.map_cons,List.map_nil,List.take_succ_cons,List.take_zero,List.cons.injEq,and_true] at hE ⊢
     simp only [hl,hE,and_self])
    clear hE
    go_upto_region 6 with fail
    refine wp_region_gw (by kernel_rfl) (by kernel_rfl) ?_
    repeat (first | go_big_quiet_step (fail) | quiet_step (fail))
    refine wpQuiet_nil ?_;intro wq hwq;obtain ⟨iq,rfl⟩:=hwq
    go_wp2_with fail
    exact ⟨⟨3,by omega,rfl,Gr.tr hG (gw_gr _ _),HN.out⟩,by simp [intOf]⟩
   ·have e2:(((c.toNat:Nat):Int) != 85)=true:=by simp;omega
    have HN:=hid (show (low [a,b,c,d,e,f,g]==[99,104,117,110,107,101,100])=false from by
     have hl:lowN c≠117:=chk_no 117 (by decide) h1 h2
     simp only [beq_eq_false_iff_ne,ne_eq,low,List.map_cons,List.map_nil,List.cons.injEq]
     intro hh;exact hl (by simp only [hh]))
    clear hE h1 h2
    go_upto_region 6 with fail
    refine wp_region_gw (by kernel_rfl) (by kernel_rfl) ?_
    repeat (first | go_big_quiet_step (fail) | quiet_step (fail))
    refine wpQuiet_nil ?_;intro wq hwq;obtain ⟨iq,rfl⟩:=hwq
    go_wp2_with fail
    go_ret
    exact ⟨ret_bool HN.out.symm,Gr.tr hG (gw_gr _ _)⟩
  ·by_cases h1:d.toNat=110
   ·have e1:(((d.toNat:Nat):Int) != 110)=false:=by simp;omega
    have HN:=hid (show (low [a,b,c,d,e,f,g]).take 4=List.take 4 [99,104,117,110,107,101,100] from by
     have hl:lowN d=110:=by rw [show d=(110:UInt8) from UInt8.toNat_inj.1 h1];decide
     simp only [low,List.map_cons,List.map_nil,List.take_succ_cons,List.take_zero,List.cons.injEq,and_true] at hE ⊢
     simp only [hl,hE,and_self])
    clear hE
    go_upto_region 6 with fail
    refine wp_region_gw (by kernel_rfl) (by kernel_rfl) ?_
    repeat (first | go_big_quiet_step (fail) | quiet_step (fail))
    refine wpQuiet_nil ?_;intro wq hwq;obtain ⟨iq,rfl⟩:=hwq
    go_wp2_with fail
    exact ⟨⟨4,by omega,rfl,Gr.tr hG (gw_gr _ _),HN.out⟩,by simp [intOf]⟩
   have e1:(((d.toNat:Nat):Int) != 110)=true:=by simp;omega
   by_cases h2:d.toNat=78
   ·have e2:(((d.toNat:Nat):Int) != 78)=false:=by simp;omega
    have HN:=hid (show (low [a,b,c,d,e,f,g]).take 4=List.take 4 [99,104,117,110,107,101,100] from by
     have hl:lowN d=110:=by rw [show d=(78:UInt8) from UInt8.toNat_inj.1 h2];decide
     simp only [low,List.map_cons,List.map_nil,List.take_succ_cons,List.take_zero,List.cons.injEq,and_true] at hE ⊢
     simp only [hl,hE,and_self])
    clear hE
    go_upto_region 6 with fail
    refine wp_region_gw (by kernel_rfl) (by kernel_rfl) ?_
    repeat (first | go_big_quiet_step (fail) | quiet_step (fail))
    refine wpQuiet_nil ?_;intro wq hwq;obtain ⟨iq,rfl⟩:=hwq
    go_wp2_with fail
    exact ⟨⟨4,by omega,rfl,Gr.tr hG (gw_gr _ _),HN.out⟩,by simp [intOf]⟩
   ·have e2:(((d.toNat:Nat):Int) != 78)=true:=by simp;omega
    have HN:=hid (show (low [a,b,c,d,e,f,g]==[99,104,117,110,107,101,100])=false from by
     have hl:lowN d≠110:=chk_no 110 (by decide) h1 h2
     simp only [beq_eq_false_iff_ne,ne_eq,low,List.map_cons,List.map_nil,List.cons.injEq]
     intro hh;exact hl (by simp only [hh]))
    clear hE h1 h2
    go_upto_region 6 with fail
    refine wp_region_gw (by kernel_rfl) (by kernel_rfl) ?_
    repeat (first | go_big_quiet_step (fail) | quiet_step (fail))
    refine wpQuiet_nil ?_;intro wq hwq;obtain ⟨iq,rfl⟩:=hwq
    go_wp2_with fail
    go_ret
    exact ⟨ret_bool HN.out.symm,Gr.tr hG (gw_gr _ _)⟩
  ·by_cases h1:e.toNat=107
   ·have e1:(((e.toNat:Nat):Int) != 107)=false:=by simp;omega
    have HN:=hid (show (low [a,b,c,d,e,f,g]).take 5=List.take 5 [99,104,117,110,107,101,100] from by
     have hl:lowN e=107:=by rw [show e=(107:UInt8) from UInt8.toNat_inj.1 h1];decide
     simp only [low,List.map_cons,List.map_nil,List.take_succ_cons,List.take_zero,List.cons.injEq,and_true] at hE ⊢
     simp only [hl,hE,and_self])
    clear hE
    go_upto_region 6 with fail
    refine wp_region_gw (by kernel_rfl) (by kernel_rfl) ?_
    repeat (first | go_big_quiet_step (fail) | quiet_step (fail))
    refine wpQuiet_nil ?_;intro wq hwq;obtain ⟨iq,rfl⟩:=hwq
    go_wp2_with fail
    exact ⟨⟨5,by omega,rfl,Gr.tr hG (gw_gr _ _),HN.out⟩,by simp [intOf]⟩
   have e1:(((e.toNat:Nat):Int) != 107)=true:=by simp;omega
   by_cases h2:e.toNat=75
   ·have e2:(((e.toNat:Nat):Int) != 75)=false:=by simp;omega
    have HN:=hid (show (low [a,b,c,d,e,f,g]).take 5=List.take 5 [99,104,117,110,107,101,100] from by
     have hl:lowN e=107:=by rw [show e=(75:UInt8) from UInt8.toNat_inj.1 h2];decide
     simp only [low,List.map_cons,List.map_nil,List.take_succ_cons,List.take_zero,List.cons.injEq,and_true] at hE ⊢
     simp only [hl,hE,and_self])
    clear hE
    go_upto_region 6 with fail
    refine wp_region_gw (by kernel_rfl) (by kernel_rfl) ?_
    repeat (first | go_big_quiet_step (fail) | quiet_step (fail))
    refine wpQuiet_nil ?_;intro wq hwq;obtain ⟨iq,rfl⟩:=hwq
    go_wp2_with fail
    exact ⟨⟨5,by omega,rfl,Gr.tr hG (gw_gr _ _),HN.out⟩,by simp [intOf]⟩
   ·have e2:(((e.toNat:Nat):Int) != 75)=true:=by simp;omega
    have HN:=hid (show (low [a,b,c,d,e,f,g]==[99,104,117,110,107,101,100])=false from by
     have hl:lowN e≠107:=chk_no 107 (by decide) h1 h2
     simp only [beq_eq_false_iff_ne,ne_eq,low,List.map_cons,List.map_nil,List.cons.injEq]
     intro hh;exact hl (by simp only [hh]))
    clear hE h1 h2
    go_upto_region 6 with fail
    refine wp_region_gw (by kernel_rfl) (by kernel_rfl) ?_
    repeat (first | go_big_quiet_step (fail) | quiet_step (fail))
    refine wpQuiet_nil ?_;intro wq hwq;obtain ⟨iq,rfl⟩:=hwq
    go_wp2_with fail
    go_ret
    exact ⟨ret_bool HN.out.symm,Gr.tr hG (gw_gr _ _)⟩
  ·by_cases h1:f.toNat=101
   ·have e1:(((f.toNat:Nat):Int) != 101)=false:=by simp;omega
    have HN:=hid (show (low [a,b,c,d,e,f,g]).take 6=List.take 6 [99,104,117,110,107,101,100] from by
     have hl:lowN f=101:=by rw [show f=(101:UInt8) from UInt8.toNat_inj.1 h1];decide
     simp only [low,List.map_cons,List.map_nil,List.take_succ_cons,List.take_zero,List.cons.injEq,and_true] at hE ⊢
     simp only [hl,hE,and_self])
    clear hE
    go_upto_region 6 with fail
    refine wp_region_gw (by kernel_rfl) (by kernel_rfl) ?_
    repeat (first | go_big_quiet_step (fail) | quiet_step (fail))
    refine wpQuiet_nil ?_;intro wq hwq;obtain ⟨iq,rfl⟩:=hwq
    go_wp2_with fail
    exact ⟨⟨6,by omega,rfl,Gr.tr hG (gw_gr _ _),HN.out⟩,by simp [intOf]⟩
   have e1:(((f.toNat:Nat):Int) != 101)=true:=by simp;omega
   by_cases h2:f.toNat=69
   ·have e2:(((f.toNat:Nat):Int) != 69)=false:=by simp;omega
    have HN:=hid (show (low [a,b,c,d,e,f,g]).take 6=List.take 6 [99,104,117,110,107,101,100] from by
     have hl:lowN f=101:=by rw [show f=(69:UInt8) from UInt8.toNat_inj.1 h2];decide
     simp only [low,List.map_cons,List.map_nil,List.take_succ_cons,List.take_zero,List.cons.injEq,and_true] at hE ⊢
     simp only [hl,hE,and_self])
    clear hE
    go_upto_region 6 with fail
    refine wp_region_gw (by kernel_rfl) (by kernel_rfl) ?_
    repeat (first | go_big_quiet_step (fail) | quiet_step (fail))
    refine wpQuiet_nil ?_;intro wq hwq;obtain ⟨iq,rfl⟩:=hwq
    go_wp2_with fail
    exact ⟨⟨6,by omega,rfl,Gr.tr hG (gw_gr _ _),HN.out⟩,by simp [intOf]⟩
   ·have e2:(((f.toNat:Nat):Int) != 69)=true:=by simp;omega
    have HN:=hid (show (low [a,b,c,d,e,f,g]==[99,104,117,110,107,101,100])=false from by
     have hl:lowN f≠101:=chk_no 101 (by decide) h1 h2
     simp only [beq_eq_false_iff_ne,ne_eq,low,List.map_cons,List.map_nil,List.cons.injEq]
     intro hh;exact hl (by simp only [hh]))
    clear hE h1 h2
    go_upto_region 6 with fail
    refine wp_region_gw (by kernel_rfl) (by kernel_rfl) ?_
    repeat (first | go_big_quiet_step (fail) | quiet_step (fail))
    refine wpQuiet_nil ?_;intro wq hwq;obtain ⟨iq,rfl⟩:=hwq
    go_wp2_with fail
    go_ret
    exact ⟨ret_bool HN.out.symm,Gr.tr hG (gw_gr _ _)⟩
  ·by_cases h1:g.toNat=100
   ·have e1:(((g.toNat:Nat):Int) != 100)=false:=by simp;omega
    have HN:=hid (show (low [a,b,c,d,e,f,g]).take 7=List.take 7 [99,104,117,110,107,101,100] from by
     have hl:lowN g=100:=by rw [show g=(100:UInt8) from UInt8.toNat_inj.1 h1];decide
     simp only [low,List.map_cons,List.map_nil,List.take_succ_cons,List.take_zero,List.cons.injEq,and_true] at hE ⊢
     simp only [hl,hE,and_self])
    clear hE
    go_upto_region 6 with fail
    refine wp_region_gw (by kernel_rfl) (by kernel_rfl) ?_
    repeat (first | go_big_quiet_step (fail) | quiet_step (fail))
    refine wpQuiet_nil ?_;intro wq hwq;obtain ⟨iq,rfl⟩:=hwq
    go_wp2_with fail
    exact ⟨⟨7,by omega,rfl,Gr.tr hG (gw_gr _ _),HN.out⟩,by simp [intOf]⟩
   have e1:(((g.toNat:Nat):Int) != 100)=true:=by simp;omega
   by_cases h2:g.toNat=68
   ·have e2:(((g.toNat:Nat):Int) != 68)=false:=by simp;omega
    have HN:=hid (show (low [a,b,c,d,e,f,g]).take 7=List.take 7 [99,104,117,110,107,101,100] from by
     have hl:lowN g=100:=by rw [show g=(68:UInt8) from UInt8.toNat_inj.1 h2];decide
     simp only [low,List.map_cons,List.map_nil,List.take_succ_cons,List.take_zero,List.cons.injEq,and_true] at hE ⊢
     simp only [hl,hE,and_self])
    clear hE
    go_upto_region 6 with fail
    refine wp_region_gw (by kernel_rfl) (by kernel_rfl) ?_
    repeat (first | go_big_quiet_step (fail) | quiet_step (fail))
    refine wpQuiet_nil ?_;intro wq hwq;obtain ⟨iq,rfl⟩:=hwq
    go_wp2_with fail
    exact ⟨⟨7,by omega,rfl,Gr.tr hG (gw_gr _ _),HN.out⟩,by simp [intOf]⟩
   ·have e2:(((g.toNat:Nat):Int) != 68)=true:=by simp;omega
    have HN:=hid (show (low [a,b,c,d,e,f,g]==[99,104,117,110,107,101,100])=false from by
     have hl:lowN g≠100:=chk_no 100 (by decide) h1 h2
     simp only [beq_eq_false_iff_ne,ne_eq,low,List.map_cons,List.map_nil,List.cons.injEq]
     intro hh;exact hl (by simp only [hh]))
    clear hE h1 h2
    go_upto_region 6 with fail
    refine wp_region_gw (by kernel_rfl) (by kernel_rfl) ?_
    repeat (first | go_big_quiet_step (fail) | quiet_step (fail))
    refine wpQuiet_nil ?_;intro wq hwq;obtain ⟨iq,rfl⟩:=hwq
    go_wp2_with fail
    go_ret
    exact ⟨ret_bool HN.out.symm,Gr.tr hG (gw_gr _ _)⟩
  ·have HN:=hid (show (low [a,b,c,d,e,f,g]==[99,104,117,110,107,101,100])=true from by
    rw [beq_iff_eq]
    have h:=hE
    rw [List.take_of_length_le (by simp [low])] at h
    rw [h];rfl)
   clear hE
   go_wp2_with fail
   go_ret
   exact ⟨ret_bool HN.out.symm,hG⟩
theorem wpY_plainW {P:Program} {ops:Array Oper} {Q:Exit→Act→World→Prop} {o:Oper} {rest:List Oper} {a:Act} {w:World} (hw:Region.wanted o (yielded ops a.tmps)=true)
  (h:∀K:Act→World→Prop,(∀a w,wpListIn Fence.wide 0 P ops Q rest a w→K a w)→o.wp P a w K Q):wpListIn Fence.wide 0 P ops Q (o::rest) a w:=by
 simp only [wpListIn,hw,if_true]
 refine ⟨fun _ _=>trivial,?_⟩
 rw [Fence.wide_round,Oper.semAt_none]
 have h:=h _ (fun _ _ h=>h)
 unfold Oper.wp at h
 generalize (execOp a.eval o).run P w=r at *
 cases r with
 | ok x w'=>
   cases x <;> simp only [Oper.upon] at h <;> simp only [Oper.uponIn] <;>
    first
     | exact h
     | exact ⟨fun hx=>by simp [Fence.wide] at hx,callsIn_wide.2 h⟩
     | exact ⟨fun hx=>by simp [Fence.wide] at hx,fun c cs _=>let ⟨v,w',r,s⟩:=h c cs;⟨v,w',r,stepsIn_wide.2 s⟩⟩
 | halt x w'=>cases x <;> simp only [Oper.upon] at h <;> simp only [Oper.uponIn] <;> exact h
theorem wpY_yieldW {P:Program} {ops:Array Oper} {Q:Exit→Act→World→Prop} {o:Oper} {rest:List Oper} {a:Act} {w:World} (hw:Region.wanted o (yielded ops a.tmps)=true) {l:Nat} {args:Array Value} {R:Ending→World→Prop}
  (hy:YieldAt Fence.wide 0 P l args w R) (hrun:∀r,(Instr.yield l args).run P w=r→(execOp a.eval o).run P w=r)
  (h:∀e w',R e w'→∃v,e=.returned v∧wpListIn Fence.wide 0 P ops Q rest (a.put o.dst v) w'):wpListIn Fence.wide 0 P ops Q (o::rest) a w:=by
 simp only [wpListIn,hw,if_true]
 refine ⟨fun _ _=>trivial,?_⟩
 rw [Fence.wide_round,Oper.semAt_none]
 obtain ⟨fn,tmps,assign,body,hy,hR⟩:=hy
 rw [hrun _ hy]
 refine ⟨fun hx=>by simp [Fence.wide] at hx,hR.mono fun e w' hr=>?_⟩
 obtain ⟨v,rfl,h2⟩:=h e w' hr
 exact h2
theorem itemsIter (pc:Addr) (av:Value) (vs:List (List UInt8)) (w0:World) (hs:∀x∈vs,x.length≤1000000) (_hv:vs.length≤1000000) :
  IterC Tryz.prog 299 #[.pointer (some pc)] (fun x=>#[str x]) (itemsAll vs) w0 none (fun A=>A.cell? pc=some av∧Strs A av vs):=by
 intro l J Jx W hJ hJx hJ0 hround _ hJi
 obtain ⟨hp,hst⟩:=hJ0 _ _ hJi
 obtain ⟨A,c,rfl,hc,hx,-⟩:=hst.open
 have HS:=hid hs
 have HG:=hid (fun (pre:List (List UInt8)) (a b:World) (h:J pre a) (g:Gr a b)=>hJ pre a b h (g.by none))
 have HALL:=hid hJ0
 have HR:=hid hround
 have H0:=hid hJi
 clear hs hJ hJx hJ0 hround hJi hst
 show Calls _ _ #[.func (.yield l) #[] #[],.pointer (some pc)] _ _
 go_enter Tryz.func299,Tryz.ntmps299
 go_wp2_with fail
 go_loopw [4,5,6,7,10] (fun a4 a5 a6 a7 i wr=>∃(k:Nat) (pre:List (List UInt8)),k≤vs.length∧i=.int .i64 k∧J pre wr∧itemsAll vs=pre++itemsAll (vs.drop k)) (fun _ _ _ _ i _=>vs.length-(intOf i).toNat)
 case atStart=>exact ⟨0,[],Nat.zero_le _,rfl,H0.out,by simp⟩
 case round=>
  clear H0 hp
  obtain ⟨k,pre,hk,rfl,hJp,hT⟩:=hrel
  have HJp:=hid hJp;have HT:=hid hT
  clear hJp hT
  obtain ⟨wo,hwo⟩:∃wo:World,wo=wr:=⟨_,rfl⟩
  subst hwo
  by_cases hlt:k < vs.length
  ·obtain ⟨b1,o1,rfl,hb1,hc1⟩:=(HALL.out _ _ HJp.out).2.cellAt k hlt
   have hB1:=HS.out _ (List.getElem_mem hlt)
   rw [itemsAll_drop vs k hlt] at HT
   go_upto_region 4 with fail
   generalize hv:vs[k]=v at *
   have HV:=hid hv;clear hv
   go_loopw [5,6,7] (fun bv a6 a7 wr=>∃(b:Nat) (pre:List (List UInt8)),b≤v.length+1∧bv=.int .i64 b∧J pre wr∧itemsAll vs=pre++(remI v b++itemsAll (vs.drop (k+1)))) (fun bv _ _ _=>v.length+1-(intOf bv).toNat)
   case atStart=>exact ⟨0,pre,by omega,rfl,HJp.out,by rw [remI_zero];exact HT.out⟩
   case round=>
    clear HJp HT hc1 hb1
    obtain ⟨b,pre,hb,rfl,hJp,hT⟩:=hrel
    have HJp:=hid hJp
    clear hJp
    by_cases hbl:b≤v.length
    ·rw [remI_step v b hbl] at hT
     have hie:=iendAt_le v b hbl
     have hib:b≤iendAt v b:=by unfold iendAt;omega
     have HT:=hid hT
     clear hT
     have hlx:((v.drop b).take (iendAt v b-b)).length≤1000000:=by rw [List.length_take,List.length_drop];omega
     have HIT:=hid (fun (w':World)=>itemEnd_any v b w' (by omega) hbl)
     generalize hen:iendAt v b=en at *
     clear hen
     cases he:(trim ((v.drop b).take (en-b))).isEmpty with
     | true=>
       rw [he] at HT
       go_wp2_with (first
        | (go_at_call 300;refine (HIT.out _).mono ?_;rintro e w1 ⟨rfl,hG1⟩)
        | (go_at_call 138;refine (trim_any _ _ (by omega)).mono ?_;rintro e w2 ⟨rfl,hG2⟩))
       exact ⟨⟨en+1,pre,by omega,by go_num,HG.out _ _ _ HJp.out (Gr.tr hG1 hG2),by simpa using HT.out⟩,by simp [intOf];omega⟩
     | false=>
       have hT:=HT.out
       rw [he,if_neg (by simp),List.append_assoc,List.singleton_append] at hT
       have HT2:=hid hT
       clear hT HT
       go_upto_region 7 with (first
        | (go_at_call 300;refine (HIT.out _).mono ?_;rintro e w1 ⟨rfl,hG1⟩)
        | (go_at_call 138;refine (trim_any _ _ (by omega)).mono ?_;rintro e w2 ⟨rfl,hG2⟩))
       have HY:=hid (HR.out pre _ _ w2 HT2.out (HG.out _ _ _ HJp.out (Gr.tr hG1 hG2)))
       clear HJp hG1 hG2
       refine wpY_region ?_
       (refine wpY_plain rfl (fun K hK=>?_);go_simp;refine hK _ _ ?_;clear hK K)
       (refine wpY_plain rfl (fun K hK=>?_);go_simp;refine hK _ _ ?_;clear hK K)
       (refine wpY_plain rfl (fun K hK=>?_);go_simp;refine hK _ _ ?_;clear hK K)
       (refine wpY_plainW (by go_simp) (fun K hK=>?_);go_simp;refine hK _ _ ?_;clear hK K)
       (refine wpY_plainW (by go_simp) (fun K hK=>?_);go_simp;refine hK _ _ ?_;clear hK K)
       refine wpY_yieldW (by go_simp) HY.out (fun r hr=>by rw [←hr];go_simp) ?_
       rintro e w3 (⟨rfl,hJ2,-⟩ | ⟨rfl,hJ2⟩)
       ·have HJ2:=hid hJ2
        clear hJ2 HY
        refine ⟨_,rfl,?_⟩
        (refine wpY_plainW (by go_simp) (fun K hK=>?_);go_simp;refine hK _ _ ?_;clear hK K)
        (refine wpY_plain rfl (fun K hK=>?_);go_simp;refine hK _ _ ?_;clear hK K)
        refine wpListIn_nil ?_
        simp only [Exit.then]
        go_wp2_with fail
        exact ⟨⟨en+1,pre++[trim ((v.drop b).take (en-b))],by omega,by go_num,HJ2.out,by rw [List.append_assoc];exact HT2.out⟩,by simp [intOf];omega⟩
       ·have HJ2:=hid hJ2
        clear hJ2 HY
        refine ⟨_,rfl,?_⟩
        (refine wpY_plainW (by go_simp) (fun K hK=>?_);go_simp;refine hK _ _ ?_;clear hK K)
        (refine wpY_plain rfl (fun K hK=>?_);go_simp;refine hK _ _ ?_;clear hK K)
        refine wpListIn_nil ?_
        simp only [Exit.then]
        go_wp2_with fail
        refine bodyPost_ret (results_none rfl _ _ _) rfl ?_
        exact ⟨⟨_,rfl⟩,.inr ⟨pre,_,_,HT2.out,HJ2.out⟩⟩
    ·rw [remI_past v b hbl] at hT
     have HT:=hid hT
     clear hT
     go_wp2_with fail
     exact ⟨⟨k+1,pre,by omega,by go_num,HJp.out,by simpa using HT.out⟩,by simp [intOf];omega⟩
  ·have he:vs.drop k=[]:=List.drop_of_length_le (by omega)
   rw [he] at HT
   have HT2:=hid (show itemsAll vs=pre from by have h:=HT.out;rw [show itemsAll ([]:List (List UInt8))=[] from rfl,List.append_nil] at h;exact h)
   go_wp2_with fail
   go_end0
   exact ⟨⟨_,rfl⟩,.inl (by rw [HT2.out];exact HJp.out)⟩
theorem ofN_short {fs:List Fld} {n:List UInt8} {k:Nat} (h:∀f∈fs,f.2.length≤k):∀x∈ofN fs n,x.length≤k:=by
 intro x hx
 unfold ofN at hx
 rw [List.mem_map] at hx
 obtain ⟨f,hf,rfl⟩:=hx
 exact h f (List.mem_filter.1 hf).1
def lenP:List (List UInt8)→Int
 | []=>-1
 | x::_=>numM x
def okP (pre:List (List UInt8)):Prop:=∀y∈pre,0≤numM y∧numM y=lenP pre
theorem lenI_ok {L:List (List UInt8)} (h:okP L):lenI L=lenP L:=by
 cases L with
 | nil=>rfl
 | cons x r=>
   show (if r.all (fun y=>numM y==numM x) then numM x else -1)=numM x
   rw [if_pos]
   rw [List.all_eq_true]
   intro y hy
   have:=(h y (List.mem_cons_of_mem _ hy)).2
   simpa [lenP] using this
theorem lenI_bad {pre post:List (List UInt8)} {x:List UInt8} (h:okP pre) (hx:numM x < 0∨(pre≠[]∧numM x≠lenP pre)):lenI (pre++x::post) < 0:=by
 have hge:-1≤numM x:=by unfold numM;split <;> omega
 cases pre with
 | nil=>
   have hx:numM x < 0:=by
    rcases hx with h | h
    ·exact h
    ·exact absurd rfl h.1
   show (if post.all (fun y=>numM y==numM x) then numM x else -1) < 0
   split <;> omega
 | cons y r=>
   show (if (r++x::post).all (fun z=>numM z==numM y) then numM y else -1) < 0
   have hy:=(h y (List.mem_cons_self ..)).1
   rw [if_neg]
   ·omega
   ·intro ha
    have:=List.all_eq_true.1 ha x (by simp)
    have he:numM x=numM y:=by simpa using this
    rcases hx with h | h
    ·omega
    ·exact h.2 he
theorem okP_snoc {pre:List (List UInt8)} {x:List UInt8} (h:okP pre) (h0:0≤numM x) (hx:pre=[]∨numM x=lenP pre):okP (pre++[x])∧lenP (pre++[x])=numM x:=by
 cases pre with
 | nil=>exact ⟨fun y hy=>by have:y=x:=by simpa using hy
                            subst this;exact ⟨h0,rfl⟩,rfl⟩
 | cons z r=>
   have hx:numM x=numM z:=by
    rcases hx with h | h
    ·cases h
    ·exact h
   refine ⟨fun y hy=>?_,hx.symm⟩
   show 0≤numM y∧numM y=numM z
   rcases List.mem_append.1 hy with hy | hy
   ·exact h y hy
   ·have:y=x:=by simpa using hy
    subst this;exact ⟨h0,hx⟩
theorem sl_kr {w0 w w':World} {S:List Nat} {N:Nat} {v:Value} {n:Nat} {cs:List Value} (h:Sl w0 v n cs) (g:Gr w0 w) (k:Kr S N w w') (hN:w0.heap.size≤N) (hn:∀b,v.ownBlock=some b→b < w0.heap.size→b∉S):Sl w' v n cs:=by
 obtain ⟨A,c,rfl,hc,hm,h⟩:=h
 refine ⟨A,c,rfl,hc,hm,?_⟩
 rcases h with h | ⟨b,o,hA,hb,hj⟩
 ·exact .inl h
 ·subst hA
  have hb2:b∉S:=hn b rfl hb
  refine .inr ⟨b,o,rfl,Nat.lt_of_lt_of_le hb (Nat.le_trans g.size k.size),fun j u hu=>?_⟩
  rw [World.cell?_of_block ((k.block b (by omega) hb2).trans (g.block b hb))];exact hj j u hu
theorem cell_lt {w:World} {p:Addr} {v:Value} (h:w.cell? p=some v):p.block < w.heap.size:=by
 rcases Nat.lt_or_ge p.block w.heap.size with hl | hl
 ·exact hl
 ·simp [World.cell?,Array.getElem?_eq_none hl] at h
theorem skeep0 {S:List Nat} {D N:Nat} {A B:World} (h:Kr S N A B) (hN:N=D+2) (hS:∀k∈S,k < D):∀k,(k=D∨k=D+1∨(none:Option Nat)=some k)→B.heap[k]?=A.heap[k]?:=by
 rintro k (rfl | rfl | hk)
 ·exact h.block _ (by omega) (fun hm=>by have:=hS _ hm;omega)
 ·exact h.block _ (by omega) (fun hm=>by have:=hS _ hm;omega)
 ·cases hk
theorem bodyM_mark2 {P:Program} {fn:Func} {R:Ending→World→Prop} {a:Act} {w:World} {v:Value} {D1 D2:Nat} (h2:w.heap[D2]?=some (.deferred (some []))) (h1:w.heap[D1]?=some (.deferred (some []))) (hne:D1≠D2)
  (hd:a.defers=[{ target:=.collected D2,args:=#[] },{ target:=.collected D1,args:=#[] }])
  (hr:(results fn a.tmps).run P ((w.putObj D2 (.deferred none)).putObj D1 (.deferred none))=.ok v ((w.putObj D2 (.deferred none)).putObj D1 (.deferred none))) (h:R (.returned v) ((w.putObj D2 (.deferred none)).putObj D1 (.deferred none))):bodyPostM Fence.wide 0 P fn R .ret a w:=by
 show LeavesInM Fence.wide 0 P fn a.tmps R a.defers .returning w
 rw [hd]
 exact ⟨by simp,.inl ⟨D2,_,rfl,run_takeDeferred h2,by simp,.inl ⟨D1,_,rfl,run_takeDeferred ((World.putObj_heap_other hne).trans h1),v,hr,h⟩⟩⟩
structure FI (p:Nat) (W1:World) (n m:Nat) (A:World):Prop where
 kr:Kr [p,p+1,W1.heap.size-1] W1.heap.size W1 A
 c:Bk A p 3 #[.int .i64 (n:Nat)] (0,0)
 o:Bk A (p+1) 3 #[.int .i64 (m:Nat)] (0,0)
theorem FI.gr {p:Nat} {W1:World} {n m:Nat} {A B:World} (h:FI p W1 n m A) (k:Gr A B):FI p W1 n m B:=⟨h.kr.gr k,h.c.gr k,h.o.gr k⟩
theorem FI.put {p:Nat} {W1:World} {n m:Nat} {A:World} (h:FI p W1 n m A) (o:Obj) (hp:p+2 < W1.heap.size):FI p W1 n m (A.putObj (W1.heap.size-1) o):=
 ⟨h.kr.put (.inl (by simp)) o,bk_byo h.c (grownBy_putObj' A _ o) (by simp;omega),bk_byo h.o (grownBy_putObj' A _ o) (by simp;omega)⟩
def cntC (pre:List (List UInt8)):Nat:=(pre.filter (fun x=>alike x chunkedN)).length
theorem cntC_snoc (pre:List (List UInt8)) (x:List UInt8):cntC (pre++[x])=cntC pre+(if alike x chunkedN then 1 else 0):=by
 unfold cntC;rw [List.filter_append,List.length_append]
 congr 1
 cases h:alike x chunkedN <;> simp [h]
theorem cntC_le (pre:List (List UInt8)):cntC pre≤pre.length:=List.length_filter_le _ _
theorem cntC_one {L:List (List UInt8)} (h1:L.length=1):(cntC L=1)↔L.all (fun x=>alike x chunkedN)=true:=by
 match L,h1 with
 | [x],_=>
   unfold cntC
   cases h:alike x chunkedN <;> simp [h]
def FInv (p:Nat) (W1:World) (pre:List (List UInt8)) (A:World):Prop:=FI p W1 pre.length (cntC pre) A
structure NI (s:Nat) (W1:World) (z:Int) (A:World):Prop where
 kr:Kr [s,W1.heap.size-1] W1.heap.size W1 A
 z:Bk A s 2 #[.int .i64 z] (0,0)
theorem NI.gr {s:Nat} {W1:World} {z:Int} {A B:World} (h:NI s W1 z A) (k:Gr A B):NI s W1 z B:=⟨h.kr.gr k,h.z.gr k⟩
theorem NI.put {s:Nat} {W1:World} {z:Int} {A:World} (h:NI s W1 z A) (o:Obj) (hs:s+1 < W1.heap.size):NI s W1 z (A.putObj (W1.heap.size-1) o):=
 ⟨h.kr.put (.inl (by simp)) o,bk_byo h.z (grownBy_putObj' A _ o) (by simp;omega)⟩
def NInv (s:Nat) (W1:World) (pre:List (List UInt8)) (A:World):Prop:=okP pre∧NI s W1 (lenP pre) A
structure R3 (g:Nat) (k:Int) (z e:Int) (A:World):Prop where
 r0:Bk A (g+1) 3 #[.int .i64 k] (0,0)
 r1:Bk A (g+2) 2 #[.int .i64 z] (0,0)
 r2:Bk A (g+3) 41 #[.int .i64 e] (0,0)
theorem R3.gr {g:Nat} {k z e:Int} {A B:World} (h:R3 g k z e A) (x:Gr A B):R3 g k z e B:=⟨h.r0.gr x,h.r1.gr x,h.r2.gr x⟩
theorem R3.put {g:Nat} {k z e:Int} {A:World} (h:R3 g k z e A) {D:Nat} (o:Obj) (hD:g+3 < D):R3 g k z e (A.putObj D o):=
 ⟨bk_byo h.r0 (grownBy_putObj' A D o) (by simp;omega),bk_byo h.r1 (grownBy_putObj' A D o) (by simp;omega),bk_byo h.r2 (grownBy_putObj' A D o) (by simp;omega)⟩
def st3 (A:World) (g:Nat) (k z e:Int):World:=((A.setCell ⟨g+1,0,none⟩ (.int .i64 k)).setCell ⟨g+2,0,none⟩ (.int .i64 z)).setCell ⟨g+3,0,none⟩ (.int .i64 e)
theorem R3.st {g:Nat} {k z e:Int} {A:World} (h:R3 g k z e A) (k' z' e':Int):R3 g k' z' e' (st3 A g k' z' e'):=by
 unfold st3
 refine ⟨?_,?_,?_⟩
 ·exact ((h.r0.set 0 _).far (p:=⟨g+2,0,none⟩) (by simp) _).far (p:=⟨g+3,0,none⟩) (by simp) _
 ·exact ((h.r1.far (p:=⟨g+1,0,none⟩) (by simp) _).set 0 _).far (p:=⟨g+3,0,none⟩) (by simp) _
 ·exact ((h.r2.far (p:=⟨g+1,0,none⟩) (by simp) _).far (p:=⟨g+2,0,none⟩) (by simp) _).set 0 _
theorem gr_st3 {w A:World} (h:Gr w A) {g:Nat} (hg:w.heap.size≤g) (k z e:Int):Gr w (st3 A g k z e):=by
 unfold st3
 exact Gr.st (Gr.st (Gr.st h (by show _≤g+1;omega) _) (by show _≤g+2;omega) _) (by show _≤g+3;omega) _
theorem st3_heap {A:World} {g D:Nat} (k z e:Int) (h:g+3 < D):(st3 A g k z e).heap[D]?=A.heap[D]?:=by
 unfold st3
 rw [Below.heap_setCell _ ⟨g+3,0,none⟩ _ _ (by show D≠g+3;omega),Below.heap_setCell _ ⟨g+2,0,none⟩ _ _ (by show D≠g+2;omega),Below.heap_setCell _ ⟨g+1,0,none⟩ _ _ (by show D≠g+1;omega)]
theorem R3.cells {g:Nat} {k z e:Int} {A:World} (h:R3 g k z e A):A.cell? ⟨g+1,0,none⟩=some (.int .i64 k)∧A.cell? ⟨g+2,0,none⟩=some (.int .i64 z)∧A.cell? ⟨g+3,0,none⟩=some (.int .i64 e):=⟨h.r0.cell 0,h.r1.cell 0,h.r2.cell 0⟩
theorem R3.free {g:Nat} {k z e:Int} {A:World} (h:R3 g k z e A):A.frozen? ⟨g+1,0,none⟩=false∧A.frozen? ⟨g+2,0,none⟩=false∧A.frozen? ⟨g+3,0,none⟩=false:=⟨h.r0.free 0 (.inr (Nat.zero_le _)),h.r1.free 0 (.inr (Nat.zero_le _)),h.r2.free 0 (.inr (Nat.zero_le _))⟩
theorem strs_far {w:World} {v:Value} {V:List (List UInt8)} {b:Nat} {t:TypeId} {kd:IntKind} {z:Int} {fr:Nat×Nat} (h:Strs w v V) (hb:Bk w b t #[.int kd z] fr) (u:Value):Strs (w.setCell ⟨b,0,none⟩ u) v V:=by
 obtain ⟨A,c,rfl,hc,hm,hh⟩:=id h
 rcases hh with hh | ⟨b',o,hA,hb',hj⟩
 ·exact ⟨A,c,rfl,hc,hm,.inl hh⟩
 ·subst hA
  cases V with
  | nil=>exact ⟨_,c,rfl,hc,hm,.inl rfl⟩
  | cons x r=>
    refine Sl.st h ?_ 0 u
    intro e
    simp only [Value.ownBlock,Option.some.injEq] at e
    subst e
    have h1:=hj 0 (str x) rfl
    rw [hb.cell] at h1
    cases o with
    | zero=>simp at h1
    | succ o=>simp at h1
def NInx (g:Nat) (W1:World) (c:Code) (pre:List (List UInt8)) (A:World):Prop:=c=.ret∧(∀post,lenI (pre++post) < 0)∧R3 g 0 0 2 A∧Kr [g+1,g+2,g+3,W1.heap.size-1] W1.heap.size W1 A
theorem lenP_ge {pre:List (List UInt8)} (h:okP pre) (hn:pre≠[]):0≤lenP pre:=by
 cases pre with
 | nil=>exact absurd rfl hn
 | cons y r=>exact (h y (List.mem_cons_self ..)).1
def OfEnd (w:World) (r:Nat×Int×Nat) (e:Ending) (w':World):Prop:=e=.returned (.tuple #[.int .i64 (r.1:Nat),.int .i64 r.2.1,.int .i64 (r.2.2:Nat)])∧Gr w w'
theorem cells_of4 {w w0:World} {H:Array Value} {a b c:Value} (h:w0=(((w.alloc (.cells H 123)).alloc (.cells #[a] 3)).alloc (.cells #[b] 2)).alloc (.cells #[c] 41)):Bk w0 w.heap.size 123 H (0,0)∧Bk w0 (w.heap.size+1) 3 #[a] (0,0)∧Bk w0 (w.heap.size+2) 2 #[b] (0,0)∧Bk w0 (w.heap.size+3) 41 #[c] (0,0)∧Gr w w0:=by
 subst h
 have b0:=Bk.new w 123 H (0,0)
 have b1:=Bk.new (w.alloc (.cells H 123)) 3 #[a] (0,0)
 have b2:=Bk.new ((w.alloc (.cells H 123)).alloc (.cells #[a] 3)) 2 #[b] (0,0)
 have b3:=Bk.new (((w.alloc (.cells H 123)).alloc (.cells #[a] 3)).alloc (.cells #[b] 2)) 41 #[c] (0,0)
 simp only [World.size_alloc] at b1 b2 b3
 exact ⟨((b0.al _).al _).al _,(b1.al _).al _,b2.al _,b3,Gr.al (Gr.al (Gr.al (Gr.al (Gr.refl w) _) _) _) _⟩
theorem frOf_head (st:Int) (fs:List Fld) (m o:List UInt8) (A:Option Addr) (c:Nat) (w:World):Calls Tryz.prog 225 #[.agg #[str m,str o,.int .i64 st,.slice A fs.length c],str [72,69,65,68]] w (OfEnd w (4,0,0)):=by
 (refine calls_of_wp_marks Tryz.func225 rfl ?_;simp only [Tryz.ntmps225,List.size_toArray,List.length_cons,List.length_nil,Nat.reduceAdd,Nat.reduceSub,Array.replicate_succ,Array.replicate_zero,List.push_toArray,List.append_toArray,List.nil_append,List.cons_append])
 go_upto_region 1 with fail
 refine at_world (P:=Code.wp _ _ _ _) (w0:=(((w.alloc (Obj.cells #[str m,str o,.int .i64 st,.slice A fs.length c] 123)).alloc (Obj.cells #[.int .i64 0] 3)).alloc (Obj.cells #[.int .i64 0] 2)).alloc (Obj.cells #[.int .i64 0] 41)) ?_
 intro w0 hw0
 obtain ⟨hH,hk,hz,he,hG0⟩:=cells_of4 hw0
 have HG0:=hid hG0
 have HR0:=hid (show R3 w.heap.size 0 0 0 w0 from ⟨hk,hz,he⟩)
 clear hw0 hk hz he hG0
 obtain ⟨g,hg⟩:∃g,g=w.heap.size:=⟨_,rfl⟩
 have HG:=hid (show w.heap.size≤g from Nat.le_of_eq hg.symm)
 rw [←hg] at HR0 hH ⊢
 have HG4:=hid (show g+3 < w0.heap.size from HR0.out.r2.lt)
 have c2:∀x,Gr w0 x→x.cell? ⟨g,2,none⟩=some (.int .i64 st):=fun x h=>(hH.gr h).cell 2
 have c3:∀x,Gr w0 x→x.cell? ⟨g,3,none⟩=some (.slice A fs.length c):=fun x h=>(hH.gr h).cell 3
 have h00:=Gr.refl w0
 clear hg hH
 obtain ⟨f1,f2,f3⟩:=HR0.out.free
 obtain ⟨z1,z2,z3⟩:=HR0.out.cells
 go_wp2_with fail
 obtain ⟨h1,h2,h3⟩:=(HR0.out.st 4 0 0).cells
 have hfin:=gr_st3 HG0.out HG.out 4 0 0
 unfold st3 at h1 h2 h3 hfin
 refine bodyM_ret (v:=.tuple #[.int .i64 4,.int .i64 0,.int .i64 0]) (by simp [results,Tryz.results225,go_sem,h1,h2,h3]) rfl ?_
 exact ⟨rfl,hfin⟩
theorem frOf_bare (st:Int) (fs:List Fld) (asked m o:List UInt8) (A:Option Addr) (c:Nat) (w:World) (ha:¬asked=headB) (hb:bareS st=true):Calls Tryz.prog 225 #[.agg #[str m,str o,.int .i64 st,.slice A fs.length c],str asked] w (OfEnd w (4,0,0)):=by
 have e1:(asked==[72,69,65,68])=false:=by simpa [headB] using ha
 have HB:=hid (fun (x:World)=>frBare_any st x)
 rw [hb] at HB
 clear ha hb
 (refine calls_of_wp_marks Tryz.func225 rfl ?_;simp only [Tryz.ntmps225,List.size_toArray,List.length_cons,List.length_nil,Nat.reduceAdd,Nat.reduceSub,Array.replicate_succ,Array.replicate_zero,List.push_toArray,List.append_toArray,List.nil_append,List.cons_append])
 go_upto_region 1 with fail
 refine at_world (P:=Code.wp _ _ _ _) (w0:=(((w.alloc (Obj.cells #[str m,str o,.int .i64 st,.slice A fs.length c] 123)).alloc (Obj.cells #[.int .i64 0] 3)).alloc (Obj.cells #[.int .i64 0] 2)).alloc (Obj.cells #[.int .i64 0] 41)) ?_
 intro w0 hw0
 obtain ⟨hH,hk,hz,he,hG0⟩:=cells_of4 hw0
 have HG0:=hid hG0
 have HR0:=hid (show R3 w.heap.size 0 0 0 w0 from ⟨hk,hz,he⟩)
 clear hw0 hk hz he hG0
 obtain ⟨g,hg⟩:∃g,g=w.heap.size:=⟨_,rfl⟩
 have HG:=hid (show w.heap.size≤g from Nat.le_of_eq hg.symm)
 rw [←hg] at HR0 hH ⊢
 have HG4:=hid (show g+3 < w0.heap.size from HR0.out.r2.lt)
 have c2:∀x,Gr w0 x→x.cell? ⟨g,2,none⟩=some (.int .i64 st):=fun x h=>(hH.gr h).cell 2
 have c3:∀x,Gr w0 x→x.cell? ⟨g,3,none⟩=some (.slice A fs.length c):=fun x h=>(hH.gr h).cell 3
 have h00:=Gr.refl w0
 clear hg hH
 go_upto_region 2 with (go_at_call 265;refine (HB.out _).mono ?_;rintro e w1 ⟨rfl,hg1⟩)
 have HR1:=hid (HR0.out.gr hg1)
 obtain ⟨f1,f2,f3⟩:=HR1.out.free
 obtain ⟨z1,z2,z3⟩:=HR1.out.cells
 have HG1:=hid (Gr.tr HG0.out hg1)
 go_wp2_with fail
 obtain ⟨h1,h2,h3⟩:=(HR1.out.st 4 0 0).cells
 have hfin:=gr_st3 HG1.out HG.out 4 0 0
 unfold st3 at h1 h2 h3 hfin
 refine bodyM_ret (v:=.tuple #[.int .i64 4,.int .i64 0,.int .i64 0]) (by simp [results,Tryz.results225,go_sem,h1,h2,h3]) rfl ?_
 exact ⟨rfl,hfin⟩
theorem frOf_some (st:Int) (fs:List Fld) (asked m o:List UInt8) (A:Option Addr) (c:Nat) (w:World) (hf:Flds w (.slice A fs.length c) fs) (hs:Short2 fs) (hv:∀f∈fs,f.2.length≤1000000) (hn:fs.length≤1000) (hi:(itemsAll (ofN fs codingN)).length≤1000000000) (ha:¬asked=headB) (hb:bareS st=false):Calls Tryz.prog 225 #[.agg #[str m,str o,.int .i64 st,.slice A fs.length c],str asked] w (OfEnd w (frameL st fs asked)):=by
 have HF:=hid (fun (x:World) (k:Gr w x)=>hf.gr k)
 have HS:=hid hs
 have HV:=hid (fun (n:List UInt8)=>ofN_short (n:=n) hv)
 have HL:=hid (fun (n:List UInt8)=>show (ofN fs n).length≤1000 from Nat.le_trans (ofN_len fs n) hn)
 have HI:=hid hi
 have HX:=hid (show frameL st fs asked=if itemsAll (ofN fs codingN)≠[] then
  (if (itemsAll (ofN fs codingN)).length=1∧(itemsAll (ofN fs codingN)).all (fun x=>alike x chunkedN)=true∧ofN fs lengthN=[] then (2,0,0) else (0,0,2))
  else if ofN fs lengthN=[] then (3,0,0)
  else if lenI (itemsAll (ofN fs lengthN)) < 0∨1099511627776 < lenI (itemsAll (ofN fs lengthN)) then (0,0,2)
  else (1,lenI (itemsAll (ofN fs lengthN)),0) from by
   unfold frameL;rw [if_neg (by rintro (h | h);exact ha h;rw [hb] at h;cases h)])
 have e1:(asked==[72,69,65,68])=false:=by simpa [headB] using ha
 have HB:=hid (fun (x:World)=>frBare_any st x)
 rw [hb] at HB
 clear ha hb hf hs hv hi
 (refine calls_of_wp_marks Tryz.func225 rfl ?_;simp only [Tryz.ntmps225,List.size_toArray,List.length_cons,List.length_nil,Nat.reduceAdd,Nat.reduceSub,Array.replicate_succ,Array.replicate_zero,List.push_toArray,List.append_toArray,List.nil_append,List.cons_append])
 go_upto_region 1 with fail
 refine at_world (P:=Code.wp _ _ _ _) (w0:=(((w.alloc (Obj.cells #[str m,str o,.int .i64 st,.slice A fs.length c] 123)).alloc (Obj.cells #[.int .i64 0] 3)).alloc (Obj.cells #[.int .i64 0] 2)).alloc (Obj.cells #[.int .i64 0] 41)) ?_
 intro w0 hw0
 obtain ⟨hH,hk,hz,he,hG0⟩:=cells_of4 hw0
 have HG0:=hid hG0
 have HR0:=hid (show R3 w.heap.size 0 0 0 w0 from ⟨hk,hz,he⟩)
 clear hw0 hk hz he hG0
 obtain ⟨g,hg⟩:∃g,g=w.heap.size:=⟨_,rfl⟩
 have HG:=hid (show w.heap.size≤g from Nat.le_of_eq hg.symm)
 rw [←hg] at HR0 hH ⊢
 have HG4:=hid (show g+3 < w0.heap.size from HR0.out.r2.lt)
 have c2:∀x,Gr w0 x→x.cell? ⟨g,2,none⟩=some (.int .i64 st):=fun x h=>(hH.gr h).cell 2
 have c3:∀x,Gr w0 x→x.cell? ⟨g,3,none⟩=some (.slice A fs.length c):=fun x h=>(hH.gr h).cell 3
 have h00:=Gr.refl w0
 clear hg hH
 go_upto_region 4 with (go_at_call 265;refine (HB.out _).mono ?_;rintro e w1 ⟨rfl,hg1⟩)
 refine at_world (P:=Code.wp _ _ _ _) (w0:=(w1.alloc (Obj.cells #[.int .i64 0] 3)).alloc (Obj.cells #[.int .i64 0] 3)) ?_
 intro wp hwp
 have hp1:Bk wp w1.heap.size 3 #[.int .i64 0] (0,0):=by rw [hwp];exact (Bk.new w1 _ _ _).al _
 have hp2:Bk wp (w1.heap.size+1) 3 #[.int .i64 0] (0,0):=by
  rw [hwp]
  have:=Bk.new (w1.alloc (Obj.cells #[.int .i64 0] 3)) 3 #[.int .i64 0] (0,0)
  simpa only [World.size_alloc] using this
 have hGp:Gr w1 wp:=by rw [hwp];exact Gr.al (Gr.al (Gr.refl w1) _) _
 have hpg:g+3 < w1.heap.size:=Nat.lt_of_lt_of_le HG4.out hg1.size
 have hpw:w0.heap.size≤w1.heap.size:=hg1.size
 have hg0p:Gr w0 wp:=Gr.tr hg1 hGp
 clear hwp hg1 hGp
 generalize w1.heap.size=p at *
 have HP1:=hid hp1
 have HP2:=hid hp2
 clear hp1 hp2
 go_wp2_with (first
  | (go_at_call 67;refine (of_any _ fs codingN _ (HF.out _ (Gr.tr HG0.out hg0p)) HS.out (by decide) (by omega)).mono ?_;rintro e w2 ⟨v2,rfl,hv2,hG2⟩;have HV2:=hid hv2;clear hv2)
  | (go_at_call 266;refine (items_any _ (ofN fs codingN) _ HV2.out (by have:=HL.out codingN;omega)).mono ?_;rintro e w3 ⟨ga,av,rfl,hca,hav,hG3,hga,hva⟩))
 have HG03:=hid (Gr.tr hg0p (Gr.tr hG2 hG3))
 have HQ1:=hid (HP1.out.gr (Gr.tr hG2 hG3))
 have HQ2:=hid (HP2.out.gr (Gr.tr hG2 hG3))
 have hp3:p+1 < w2.heap.size:=(HP2.out.gr hG2).lt
 have hgl:ga < w3.heap.size:=cell_lt hca
 have h23:=hG3.size
 clear hG2 hG3 hg0p HP1 HP2 HV2
 refine wp_rangeFunc_it (gf:=299) rfl (enters_of Tryz.func299 (by kernel_rfl) rfl) (itemsIter ⟨ga,0,none⟩ av (ofN fs codingN) w3 (HV.out codingN) (by have:=HL.out codingN;omega)) (fun _=>rfl) ?hw0 (FInv p) (fun _ _ _ _=>False) ?hI ?hIx ?hIL ?hIxL ?hI0 ?h0 ?a1 ?hassign ?hbody ?hdone ?hstop
 case hassign=>
  intro l x W K hK
  gi_wp2_with (first | (refine wpR_region (by kernel_rfl) (fun _ _ h=>h) ?_) | go_step)
  exact hK
 case hw0=>intro k hk;cases hk
 case hI=>intro W1 pre A B _ _ h hgr;exact FI.gr h (gr_none hgr)
 case hIx=>intro W1 c pre A B _ _ h _;exact h
 case hIL=>
  intro W1 pre A k o _ hsz h hk
  have h2:=FI.put h o (by omega)
  rw [show W1.heap.size-1=k from by omega] at h2
  exact h2
 case hIxL=>intro W1 c pre A k o _ _ h _;exact h
 case hI0=>
  intro W1 pre A hgr hsz h
  refine ⟨(World.cell?_of_block (h.kr.block ga (by omega) (by simp;omega))).trans (hgr.cell hca),sl_kr hav hgr h.kr (by omega) (fun b hb hlt=>?_)⟩
  rcases hva with hv | ⟨b',hb',hge⟩
  ·rw [hv] at hb;cases hb
  ·rw [hb'] at hb;cases hb;simp;omega
 case h0=>
  intro W1 hgr hsz
  exact ⟨Kr.refl (Nat.le_refl _),HQ1.out.gr hgr,HQ2.out.gr hgr⟩
 case hbody=>
  intro W1 l pre x post A hgr hsz hxs h hAs
  have hpl:pre.length < 1000000000:=by have:=HI.out;rw [hxs,List.length_append,List.length_cons] at this;omega
  have hcl:=cntC_le pre
  have HSN:=hid (cntC_snoc pre x)
  obtain ⟨hkr,hc,ho⟩:=h
  have q1:A.cell? ⟨p,0,none⟩=some (.int .i64 (pre.length:Nat)):=hc.cell 0
  have f1:=hc.free 0 (.inr (Nat.le_refl _))
  have HC:=hid hc
  have HO:=hid ho
  have HK:=hid hkr
  have HKA:=hid (Kr.refl hAs:Kr [p,p+1] W1.heap.size A A)
  have HCH:=hid (fun (y:World)=>frChunked_any x y)
  have hlen:((pre++[x]).length:Nat)=pre.length+1:=by simp
  have HLN:=hid hlen
  have HNE:=hid (show p+1≠p from by omega)
  generalize cntC pre=n at *
  clear hkr hc ho hxs hlen
  cases hal:alike x chunkedN with
  | true=>
    rw [hal] at HCH HSN
    have HSN:=hid (show cntC (pre++[x])=n+1 from HSN.out)
    clear hal
    gi_upto_region 8 with (first | (go_at_call 267;refine (HCH.out _).mono ?_;rintro e w5 ⟨rfl,hG5⟩) | (refine wpR_region (by kernel_rfl) (fun _ _ h=>h) ?_) | go_guarded | go_step | go_upon)
    have ho5:=(HO.out.far (p:=⟨p,0,none⟩) HNE.out (.int .i64 ((pre.length:Int)+1))).gr hG5
    have q2:w5.cell? ⟨p+1,0,none⟩=some (.int .i64 (n:Nat)):=ho5.cell 0
    have f2:=ho5.free 0 (.inr (Nat.le_refl _))
    have HO5:=hid ho5
    have HC5:=hid ((HC.out.set 0 (.int .i64 ((pre.length:Int)+1))).gr hG5)
    have HK5:=hid ((HK.out.set (.inl (by simp)) 0 (.int .i64 ((pre.length:Int)+1)):Kr _ _ _ (A.setCell ⟨p,0,none⟩ _)).gr hG5)
    have HA5:=hid ((HKA.out.set (.inl (by simp)) 0 (.int .i64 ((pre.length:Int)+1)):Kr _ _ _ (A.setCell ⟨p,0,none⟩ _)).gr hG5)
    clear ho5 hG5 q1 f1
    gi_wp2_with (first | (refine wpR_region (by kernel_rfl) (fun _ _ h=>h) ?_) | go_guarded | go_step | go_upon)
    refine ⟨skeep0 (HA5.out.set (g:=p+1) (.inl (by simp)) 0 _) hsz (by simp only [List.mem_cons,List.not_mem_nil,or_false];omega),?_,?_,?_⟩
    ·exact HK5.out.set (g:=p+1) (.inl (by simp)) 0 _
    ·rw [HLN.out]
     have:=HC5.out.far (p:=⟨p+1,0,none⟩) (Ne.symm HNE.out) (.int .i64 ((n:Int)+1))
     simpa using this
    ·rw [HSN.out]
     have:=HO5.out.set 0 (.int .i64 ((n:Int)+1))
     simpa using this
  | false=>
    rw [hal] at HCH HSN
    have HSN:=hid (show cntC (pre++[x])=n from HSN.out)
    clear hal
    gi_wp2_with (first | (go_at_call 267;refine (HCH.out _).mono ?_;rintro e w5 ⟨rfl,hG5⟩) | (refine wpR_region (by kernel_rfl) (fun _ _ h=>h) ?_) | go_guarded | go_step | go_upon)
    refine ⟨skeep0 ((HKA.out.set (g:=p) (.inl (by simp)) 0 _).gr hG5) hsz (by simp only [List.mem_cons,List.not_mem_nil,or_false];omega),?_,?_,?_⟩
    ·exact (HK.out.set (g:=p) (.inl (by simp)) 0 _).gr hG5
    ·rw [HLN.out]
     have:=(HC.out.set 0 (.int .i64 ((pre.length:Int)+1))).gr hG5
     simpa using this
    ·rw [HSN.out]
     exact (HO.out.far (p:=⟨p,0,none⟩) HNE.out _).gr hG5
 case hstop=>intro W1 A c pre x post _ _ _ h _;exact h.elim
 case hdone=>
  intro W1 B0 hgr hsz h hD
  obtain ⟨hkr,hc,ho⟩:=h
  have hw3:=HG03.out.size
  have hGA:Gr w0 B0:=hkr.old (Gr.tr HG03.out hgr) (by intro k hk;simp only [List.mem_cons,List.not_mem_nil,or_false] at hk;omega) (by omega)
  have q1:B0.cell? ⟨p,0,none⟩=some (.int .i64 ((itemsAll (ofN fs codingN)).length:Nat)):=hc.cell 0
  have q2:B0.cell? ⟨p+1,0,none⟩=some (.int .i64 (cntC (itemsAll (ofN fs codingN)):Nat)):=ho.cell 0
  have HDL:=hid (show w3.heap.size < B0.heap.size from (Array.getElem?_eq_some_iff.1 hD).1)
  have hgD:g+3 < w3.heap.size:=by omega
  have hwD:w.heap.size≤w3.heap.size:=(Gr.tr HG0.out HG03.out).size
  have HD0:=hid hD
  clear hkr hc ho hD hgr hsz hca hav hga hva hgl h23 hp3 HQ1 HQ2 hw3
  generalize w3.heap.size=D at *
  generalize itemsAll (ofN fs codingN)=L at *
  go_upto_region 10 with (go_at_call 67;refine (of_any _ fs lengthN _ (HF.out _ (Gr.tr HG0.out hGA)) HS.out (by decide) (by omega)).mono ?_;rintro e B ⟨v4,rfl,hv4,hGB⟩;obtain ⟨A4,c4,rfl,-⟩:=id hv4.open;have HV4:=hid hv4;clear hv4)
  have q1:=hGB.cell q1
  have q2:=hGB.cell q2
  have HRB:=hid (HR0.out.gr (Gr.tr hGA hGB))
  have HGB:=hid (Gr.tr HG0.out (Gr.tr hGA hGB))
  have HD:=hid ((hGB.block _ HDL.out).trans HD0.out)
  have HDB:=hid (Nat.lt_of_lt_of_le HDL.out hGB.size)
  obtain ⟨f1,f2,f3⟩:=HRB.out.free
  obtain ⟨z1,z2,z3⟩:=HRB.out.cells
  have HLV:=hid (HL.out lengthN)
  have HVS:=hid (HV.out lengthN)
  clear hGA hGB HD0 HDL HR0 HG03 c2 c3 h00 HF HS HV HL HB
  generalize ofN fs lengthN=V at *
  by_cases hL:L=[]
  ·subst hL
   have q1:B.cell? ⟨p,0,none⟩=some (.int .i64 0):=q1
   rw [if_neg (show ¬([]:List (List UInt8))≠[] from fun h=>h rfl)] at HX
   by_cases hV:V=[]
   ·subst hV
    rw [if_pos rfl] at HX
    clear q2
    go_wp2_with fail
    obtain ⟨h1,h2,h3⟩:=((HRB.out.st 3 0 0).put (D:=D) (.deferred none) (by omega)).cells
    have hfin:=sgr_put (gr_st3 HGB.out HG.out 3 0 0) (D:=D) (by omega) (.deferred none)
    have hD2:=(st3_heap (A:=B) (g:=g) (D:=D) 3 0 0 (by omega)).trans HD.out
    unfold st3 at h1 h2 h3 hfin hD2
    refine bodyM_mark (v:=.tuple #[.int .i64 3,.int .i64 0,.int .i64 0]) hD2 rfl (by simp [results,Tryz.results225,go_sem,h1,h2,h3]) ?_
    rw [HX.out]
    exact ⟨rfl,hfin⟩
   rw [if_neg hV] at HX
   have k0:(((V.length:Nat):Int)==0)=false:=by have:=List.length_pos_iff.2 hV;simp;omega
   have HN:=hid hV
   clear hV q2
   go_upto_region 17 with fail
   refine at_world (P:=Code.wp _ _ _ _) (w0:=B.setCell ⟨g+2,0,none⟩ (.int .i64 (-1))) ?_
   intro B1 hB1
   have hR1:R3 g 0 (-1) 0 B1:=by
    rw [hB1]
    exact ⟨HRB.out.r0.far (p:=⟨g+2,0,none⟩) (by simp) _,by have:=HRB.out.r1.set 0 (.int .i64 (-1));simpa using this,HRB.out.r2.far (p:=⟨g+2,0,none⟩) (by simp) _⟩
   have hG1:Gr w B1:=by rw [hB1];exact Gr.st HGB.out (by have:=HG.out;show _≤g+2;omega) _
   have hD1:B1.heap[D]?=some (.deferred (some [])):=by rw [hB1,Below.heap_setCell _ _ _ _ (by show D≠g+2;omega)];exact HD.out
   have HV5:=hid (show Strs B1 (.slice A4 V.length c4) V from by rw [hB1];exact strs_far HV4.out HRB.out.r1 _)
   clear hB1 HRB HGB HD HDB HV4 f1 f2 f3 z1 z2 z3 q1
   go_wp2_with (go_at_call 266;refine (items_any _ V _ HV5.out (by have:=HLV.out;omega)).mono ?_;rintro e B3 ⟨gb,bv,rfl,hcb,hbv,hG3,hgb,hvb⟩)
   have HR3:=hid (hR1.gr hG3)
   have HGB:=hid (Gr.tr hG1 hG3)
   have hDl1:=(Array.getElem?_eq_some_iff.1 hD1).1
   have HD3:=hid ((hG3.block _ hDl1).trans hD1)
   have hDl:D < B3.heap.size:=Nat.lt_of_lt_of_le hDl1 hG3.size
   have hgl2:gb < B3.heap.size:=cell_lt hcb
   have hgg:D < gb:=by omega
   have hvb2:∀b,bv.ownBlock=some b→D < b:=by
    intro b hb
    rcases hvb with h | ⟨b',h,hl⟩
    ·rw [h] at hb;cases hb
    ·rw [h] at hb;cases hb;omega
   have HGW:=HG.out
   clear hR1 hG1 hD1 hDl1 hG3 hgb hvb HV5
   refine wp_rangeFunc_it (gf:=299) rfl (enters_of Tryz.func299 (by kernel_rfl) rfl) (itemsIter ⟨gb,0,none⟩ bv V B3 HVS.out (by have:=HLV.out;omega)) (fun _=>rfl) ?hw0 (NInv (g+2)) (NInx g) ?hI ?hIx ?hIL ?hIxL ?hI0 ?h0 ?b1 ?hassign ?hbody ?hdone ?hstop
   case hassign=>
    intro l x W K hK
    gi_wp2_with (first | (refine wpR_region (by kernel_rfl) (fun _ _ h=>h) ?_) | go_step)
    exact hK
   case hw0=>intro k hk;cases hk
   case hI=>intro W1 pre A B _ _ h hgr;exact ⟨h.1,h.2.gr (gr_none hgr)⟩
   case hIx=>intro W1 c pre A B _ _ h hgr;exact ⟨h.1,h.2.1,h.2.2.1.gr (gr_none hgr),h.2.2.2.gr (gr_none hgr)⟩
   case hIL=>
    intro W1 pre A k o _ hsz h hk
    have h2:=NI.put h.2 o (by omega)
    rw [show W1.heap.size-1=k from by omega] at h2
    exact ⟨h.1,h2⟩
   case hIxL=>
    intro W1 c pre A k o _ hsz h hk
    exact ⟨h.1,h.2.1,h.2.2.1.put o (by omega),h.2.2.2.put (.inl (by simp;omega)) o⟩
   case hI0=>
    intro W1 pre A hgr hsz h
    refine ⟨(World.cell?_of_block (h.2.kr.block gb (by omega) (by simp;omega))).trans (hgr.cell hcb),sl_kr hbv hgr h.2.kr (by omega) (fun b hb hlt=>?_)⟩
    have:=hvb2 b hb
    simp;omega
   case h0=>
    intro W1 hgr hsz
    exact ⟨fun y hy=>absurd hy (by simp),Kr.refl (Nat.le_refl _),HR3.out.r1.gr hgr⟩
   case hbody=>
    intro W1 l pre x post A hgr hsz hxs h hAs
    obtain ⟨hok,hni⟩:=h
    have hRA:R3 g 0 (lenP pre) 0 A:=⟨hni.kr.bk (HR3.out.gr hgr).r0 (by omega) (by simp;omega),hni.z,hni.kr.bk (HR3.out.gr hgr).r2 (by omega) (by simp;omega)⟩
    obtain ⟨z1,z2,z3⟩:=hRA.cells
    obtain ⟨f1,f2,f3⟩:=hRA.free
    have HRA:=hid hRA
    have HNK:=hid hni.kr
    have HKA:=hid (Kr.refl hAs:Kr [g+1,g+2,g+3] W1.heap.size A A)
    clear hni hRA
    cases hnum:numberL x with
    | none=>
      have HBAD:=hid (fun (post:List (List UInt8))=>lenI_bad (post:=post) hok (x:=x) (.inl (by rw [numM_no hnum];decide)))
      have HNM:=hid (fun (y:World)=>show Calls Tryz.prog 268 #[str x] y (fun e w'=>e=.returned (.tuple #[.int .i64 0,.bool false])∧y=w') from by have h:=frameNum_any x y;rw [hnum] at h;exact h)
      clear hnum hok hxs
      gi_upto_region 20 with (first | (go_at_call 268;refine (HNM.out _).mono ?_;rintro e w5 ⟨rfl,rfl⟩) | (refine wpR_region (by kernel_rfl) (fun _ _ h=>h) ?_) | go_guarded | go_step | go_upon)
      (refine wpR_region (by kernel_rfl) (fun _ _ h=>h) ?_)
      go_wp2_with fail
      gi_wp2_with (first | (refine wpR_region (by kernel_rfl) (fun _ _ h=>h) ?_) | go_guarded | go_step | go_upon)
      exact ⟨skeep0 (((HKA.out.set (g:=g+1) (.inl (by simp)) 0 _).set (g:=g+2) (.inl (by simp)) 0 _).set (g:=g+3) (.inl (by simp)) 0 _) hsz (by simp only [List.mem_cons,List.not_mem_nil,or_false];omega),rfl,fun post=>by rw [List.append_assoc];exact HBAD.out post,HRA.out.st 0 0 2,(((HNK.out.more (by simp)).set (g:=g+1) (.inl (by simp)) 0 _).set (g:=g+2) (.inl (by simp)) 0 _).set (g:=g+3) (.inl (by simp)) 0 _⟩
    | some n=>
      have hm:numM x=n:=numM_some hnum
      have HNX:=hid hm
      have hlt:=numL_lt hnum
      have HNM:=hid (fun (y:World)=>show Calls Tryz.prog 268 #[str x] y (fun e w'=>e=.returned (.tuple #[.int .i64 (n:Nat),.bool true])∧y=w') from by have h:=frameNum_any x y;rw [hnum] at h;exact h)
      clear hnum hxs
      by_cases hpre:pre=[]
      ·subst hpre
       have z2:A.cell? ⟨g+2,0,none⟩=some (.int .i64 (-1)):=z2
       have HOKS:=hid (okP_snoc hok (x:=x) (by omega) (.inl rfl))
       clear hm hok
       gi_upto_region 20 with (first | (go_at_call 268;refine (HNM.out _).mono ?_;rintro e w5 ⟨rfl,rfl⟩) | (refine wpR_region (by kernel_rfl) (fun _ _ h=>h) ?_) | go_guarded | go_step | go_upon)
       (refine wpR_region (by kernel_rfl) (fun _ _ h=>h) ?_)
       go_wp2_with fail
       gi_wp2_with (first | (refine wpR_region (by kernel_rfl) (fun _ _ h=>h) ?_) | go_guarded | go_step | go_upon)
       exact ⟨skeep0 (HKA.out.set (g:=g+2) (.inl (by simp)) 0 _) hsz (by simp only [List.mem_cons,List.not_mem_nil,or_false];omega),HOKS.out.1,HNK.out.set (g:=g+2) (.inl (by simp)) 0 _,by have h:=HRA.out.r1.set 0 (.int .i64 (n:Int));have e:=HOKS.out.2.trans HNX.out;first | (rw [e];simpa using h) | (have e:lenP [x]=(n:Int):=HNX.out;rw [e];simpa using h)⟩
      ·have h0:=lenP_ge hok hpre
       obtain ⟨z,hz⟩:∃z:Nat,lenP pre=z:=⟨(lenP pre).toNat,by omega⟩
       have HZ:=hid hz
       rw [hz] at z2
       have dz:decide ((0:Int)≤((z:Nat):Int))=true:=decide_eq_true (by omega)
       by_cases hne:n=z
       ·have en:(((n:Nat):Int) != ((z:Nat):Int))=false:=by simp;omega
        have HOKS:=hid (okP_snoc hok (x:=x) (by omega) (.inr (by omega)))
        clear hm hok hz h0 hne hpre
        gi_upto_region 20 with (first | (go_at_call 268;refine (HNM.out _).mono ?_;rintro e w5 ⟨rfl,rfl⟩) | (refine wpR_region (by kernel_rfl) (fun _ _ h=>h) ?_) | go_guarded | go_step | go_upon)
        (refine wpR_region (by kernel_rfl) (fun _ _ h=>h) ?_)
        go_wp2_with fail
        gi_wp2_with (first | (refine wpR_region (by kernel_rfl) (fun _ _ h=>h) ?_) | go_guarded | go_step | go_upon)
        exact ⟨skeep0 (HKA.out.set (g:=g+2) (.inl (by simp)) 0 _) hsz (by simp only [List.mem_cons,List.not_mem_nil,or_false];omega),HOKS.out.1,HNK.out.set (g:=g+2) (.inl (by simp)) 0 _,by have h:=HRA.out.r1.set 0 (.int .i64 (n:Int));have e:=HOKS.out.2.trans HNX.out;first | (rw [e];simpa using h) | (have e:lenP [x]=(n:Int):=HNX.out;rw [e];simpa using h)⟩
       ·have en:(((n:Nat):Int) != ((z:Nat):Int))=true:=by simp;omega
        have HBAD:=hid (fun (post:List (List UInt8))=>lenI_bad (post:=post) hok (x:=x) (.inr ⟨hpre,by omega⟩))
        clear hm hok hz h0 hne hpre
        gi_upto_region 20 with (first | (go_at_call 268;refine (HNM.out _).mono ?_;rintro e w5 ⟨rfl,rfl⟩) | (refine wpR_region (by kernel_rfl) (fun _ _ h=>h) ?_) | go_guarded | go_step | go_upon)
        (refine wpR_region (by kernel_rfl) (fun _ _ h=>h) ?_)
        go_wp2_with fail
        gi_wp2_with (first | (refine wpR_region (by kernel_rfl) (fun _ _ h=>h) ?_) | go_guarded | go_step | go_upon)
        exact ⟨skeep0 (((HKA.out.set (g:=g+1) (.inl (by simp)) 0 _).set (g:=g+2) (.inl (by simp)) 0 _).set (g:=g+3) (.inl (by simp)) 0 _) hsz (by simp only [List.mem_cons,List.not_mem_nil,or_false];omega),rfl,fun post=>by rw [List.append_assoc];exact HBAD.out post,HRA.out.st 0 0 2,(((HNK.out.more (by simp)).set (g:=g+1) (.inl (by simp)) 0 _).set (g:=g+2) (.inl (by simp)) 0 _).set (g:=g+3) (.inl (by simp)) 0 _⟩
   case hstop=>
    rintro W1 A c pre x post hgr hsz hxs ⟨rfl,hbad,hR,hK⟩ hD2
    have HX:=hid (show frameL st fs asked=(0,0,2) from by
     rw [HX.out,if_pos (.inl (by rw [hxs,show pre++x::post=(pre++[x])++post from by simp];exact hbad post))])
    have hDA:A.heap[D]?=some (.deferred (some [])):=(hK.block D (by omega) (by simp;omega)).trans ((hgr.block D (by omega)).trans HD3.out)
    have hwB:=HGB.out.size
    have hGA:Gr w A:=hK.old (Gr.tr HGB.out hgr) (by intro k hk;simp only [List.mem_cons,List.not_mem_nil,or_false] at hk;omega) (by omega)
    go_wp2_with fail
    obtain ⟨h1,h2,h3⟩:=((hR.put (D:=B3.heap.size) (.deferred none) (by omega)).put (D:=D) (.deferred none) (by omega)).cells
    refine bodyM_mark2 (v:=.tuple #[.int .i64 0,.int .i64 0,.int .i64 2]) hD2 hDA (by omega) rfl (by simp [results,Tryz.results225,go_sem,h1,h2,h3]) ?_
    rw [HX.out]
    exact ⟨rfl,sgr_put (sgr_put hGA (by omega) _) (by omega) _⟩
   case hdone=>
    rintro W1 A hgr hsz ⟨hok,hni⟩ hD2
    have hRA:R3 g 0 (lenP (itemsAll V)) 0 A:=⟨hni.kr.bk (HR3.out.gr hgr).r0 (by omega) (by simp;omega),hni.z,hni.kr.bk (HR3.out.gr hgr).r2 (by omega) (by simp;omega)⟩
    have HDA:=hid ((hni.kr.block D (by omega) (by simp;omega)).trans ((hgr.block D (by omega)).trans HD3.out))
    have hwB:=HGB.out.size
    have HGA:=hid (show Gr w A from hni.kr.old (Gr.tr HGB.out hgr) (by intro k hk;simp only [List.mem_cons,List.not_mem_nil,or_false] at hk;omega) (by omega))
    have HX:=hid (show frameL st fs asked=if lenP (itemsAll V) < 0∨1099511627776 < lenP (itemsAll V) then (0,0,2) else (1,lenP (itemsAll V),0) from by rw [HX.out,lenI_ok hok])
    have HD2:=hid hD2
    have HRA:=hid hRA
    obtain ⟨z1,z2,z3⟩:=hRA.cells
    obtain ⟨f1,f2,f3⟩:=hRA.free
    clear hok hni hD2 hRA HR3 hgr hsz hcb hbv hvb2 hgl2 hgg
    generalize B3.heap.size=D2 at *
    generalize lenP (itemsAll V)=Z at *
    by_cases h0:Z < 0
    ·have d0:decide (Z < 0)=true:=decide_eq_true h0
     rw [if_pos (.inl h0)] at HX
     clear h0
     go_wp2_with fail
     obtain ⟨h1,h2,h3⟩:=(((HRA.out.st 0 0 2).put (D:=D2) (.deferred none) (by omega)).put (D:=D) (.deferred none) (by omega)).cells
     have hfin:=sgr_put (sgr_put (gr_st3 HGA.out HG.out 0 0 2) (D:=D2) (by omega) (.deferred none)) (D:=D) (by omega) (.deferred none)
     have h22:=(st3_heap (A:=A) (g:=g) (D:=D2) 0 0 2 (by omega)).trans HD2.out
     have h21:=(st3_heap (A:=A) (g:=g) (D:=D) 0 0 2 (by omega)).trans HDA.out
     unfold st3 at h1 h2 h3 hfin h22 h21
     refine bodyM_mark2 (v:=.tuple #[.int .i64 0,.int .i64 0,.int .i64 2]) h22 h21 (by omega) rfl (by simp [results,Tryz.results225,go_sem,h1,h2,h3]) ?_
     rw [HX.out]
     exact ⟨rfl,hfin⟩
    ·have d0:decide (Z < 0)=false:=decide_eq_false h0
     by_cases h1:1099511627776 < Z
     ·have d1:decide (1099511627776 < Z)=true:=decide_eq_true h1
      rw [if_pos (.inr h1)] at HX
      clear h0 h1
      go_wp2_with fail
      obtain ⟨h1,h2,h3⟩:=(((HRA.out.st 0 0 2).put (D:=D2) (.deferred none) (by omega)).put (D:=D) (.deferred none) (by omega)).cells
      have hfin:=sgr_put (sgr_put (gr_st3 HGA.out HG.out 0 0 2) (D:=D2) (by omega) (.deferred none)) (D:=D) (by omega) (.deferred none)
      have h22:=(st3_heap (A:=A) (g:=g) (D:=D2) 0 0 2 (by omega)).trans HD2.out
      have h21:=(st3_heap (A:=A) (g:=g) (D:=D) 0 0 2 (by omega)).trans HDA.out
      unfold st3 at h1 h2 h3 hfin h22 h21
      refine bodyM_mark2 (v:=.tuple #[.int .i64 0,.int .i64 0,.int .i64 2]) h22 h21 (by omega) rfl (by simp [results,Tryz.results225,go_sem,h1,h2,h3]) ?_
      rw [HX.out]
      exact ⟨rfl,hfin⟩
     ·have d1:decide (1099511627776 < Z)=false:=decide_eq_false h1
      rw [if_neg (by rintro (h | h);exact h0 h;exact h1 h)] at HX
      clear h0 h1
      go_upto_region 25 with fail
      refine wp_region_orders [[0,1,2,3],[1,0,2,3]] (by kernel_rfl) (by kernel_rfl) (by kernel_rfl) ?_
      intro ord hord
      simp only [List.mem_cons,List.not_mem_nil,or_false] at hord
      rcases hord with rfl | rfl
      all_goals
       simp only [pickOps,List.filterMap_cons,List.filterMap_nil,List.getElem?_cons_zero,List.getElem?_cons_succ]
       change wpList _ _ _ (_::_::_::_::[]) _ _
       go_wp2_with fail
       obtain ⟨h1,h2,h3⟩:=((((HRA.out.st 1 Z 0).gr (Gr.dr (Gr.refl _))).put (D:=D2) (.deferred none) (by omega)).put (D:=D) (.deferred none) (by omega)).cells
       have hfin:=sgr_put (sgr_put (Gr.dr (gr_st3 HGA.out HG.out 1 Z 0)) (D:=D2) (by omega) (.deferred none)) (D:=D) (by omega) (.deferred none)
       have h22:=show (st3 A g 1 Z 0).drew.heap[D2]?=_ from (st3_heap (A:=A) (g:=g) (D:=D2) 1 Z 0 (by omega)).trans HD2.out
       have h21:=show (st3 A g 1 Z 0).drew.heap[D]?=_ from (st3_heap (A:=A) (g:=g) (D:=D) 1 Z 0 (by omega)).trans HDA.out
       unfold st3 at h1 h2 h3 hfin h22 h21
       refine bodyM_mark2 (v:=.tuple #[.int .i64 1,.int .i64 Z,.int .i64 0]) h22 h21 (by omega) rfl (by simp [results,Tryz.results225,go_sem,h1,h2,h3]) ?_
       rw [HX.out]
       exact ⟨rfl,hfin⟩
  ·have hlp:0 < L.length:=List.length_pos_iff.2 hL
   have dlp:decide ((0:Int) < ((L.length:Nat):Int))=true:=decide_eq_true (by omega)
   rw [if_pos hL] at HX
   clear hL
   by_cases h1:L.length=1
   ·have k1:(((L.length:Nat):Int) != 1)=false:=by simp;omega
    by_cases h2:cntC L=1
    ·have k2:(((cntC L:Nat):Int) != 1)=false:=by simp;omega
     have HA:=hid ((cntC_one h1).1 h2)
     by_cases hV:V=[]
     ·subst hV
      rw [if_pos ⟨h1,HA.out,rfl⟩] at HX
      clear h1 h2
      go_wp2_with fail
      obtain ⟨h1,h2,h3⟩:=((HRB.out.st 2 0 0).put (D:=D) (.deferred none) (by omega)).cells
      have hfin:=sgr_put (gr_st3 HGB.out HG.out 2 0 0) (D:=D) (by omega) (.deferred none)
      have hD2:=(st3_heap (A:=B) (g:=g) (D:=D) 2 0 0 (by omega)).trans HD.out
      unfold st3 at h1 h2 h3 hfin hD2
      refine bodyM_mark (v:=.tuple #[.int .i64 2,.int .i64 0,.int .i64 0]) hD2 rfl (by simp [results,Tryz.results225,go_sem,h1,h2,h3]) ?_
      rw [HX.out]
      exact ⟨rfl,hfin⟩
     ·rw [if_neg (fun h=>hV h.2.2)] at HX
      have hvp:0 < V.length:=List.length_pos_iff.2 hV
      have dvp:decide ((0:Int) < ((V.length:Nat):Int))=true:=decide_eq_true (by omega)
      clear h1 h2 hV
      go_wp2_with fail
      obtain ⟨h1,h2,h3⟩:=((HRB.out.st 0 0 2).put (D:=D) (.deferred none) (by omega)).cells
      have hfin:=sgr_put (gr_st3 HGB.out HG.out 0 0 2) (D:=D) (by omega) (.deferred none)
      have hD2:=(st3_heap (A:=B) (g:=g) (D:=D) 0 0 2 (by omega)).trans HD.out
      unfold st3 at h1 h2 h3 hfin hD2
      refine bodyM_mark (v:=.tuple #[.int .i64 0,.int .i64 0,.int .i64 2]) hD2 rfl (by simp [results,Tryz.results225,go_sem,h1,h2,h3]) ?_
      rw [HX.out]
      exact ⟨rfl,hfin⟩
    ·have k2:(((cntC L:Nat):Int) != 1)=true:=by simp;omega
     rw [if_neg (fun h=>h2 ((cntC_one h1).2 h.2.1))] at HX
     clear h1 h2
     go_wp2_with fail
     obtain ⟨h1,h2,h3⟩:=((HRB.out.st 0 0 2).put (D:=D) (.deferred none) (by omega)).cells
     have hfin:=sgr_put (gr_st3 HGB.out HG.out 0 0 2) (D:=D) (by omega) (.deferred none)
     have hD2:=(st3_heap (A:=B) (g:=g) (D:=D) 0 0 2 (by omega)).trans HD.out
     unfold st3 at h1 h2 h3 hfin hD2
     refine bodyM_mark (v:=.tuple #[.int .i64 0,.int .i64 0,.int .i64 2]) hD2 rfl (by simp [results,Tryz.results225,go_sem,h1,h2,h3]) ?_
     rw [HX.out]
     exact ⟨rfl,hfin⟩
   ·have k1:(((L.length:Nat):Int) != 1)=true:=by simp;omega
    rw [if_neg (fun h=>h1 h.1)] at HX
    clear h1
    go_wp2_with fail
    obtain ⟨h1,h2,h3⟩:=((HRB.out.st 0 0 2).put (D:=D) (.deferred none) (by omega)).cells
    have hfin:=sgr_put (gr_st3 HGB.out HG.out 0 0 2) (D:=D) (by omega) (.deferred none)
    have hD2:=(st3_heap (A:=B) (g:=g) (D:=D) 0 0 2 (by omega)).trans HD.out
    unfold st3 at h1 h2 h3 hfin hD2
    refine bodyM_mark (v:=.tuple #[.int .i64 0,.int .i64 0,.int .i64 2]) hD2 rfl (by simp [results,Tryz.results225,go_sem,h1,h2,h3]) ?_
    rw [HX.out]
    exact ⟨rfl,hfin⟩
theorem frOf_any (st:Int) (fs:List Fld) (asked m o:List UInt8) (A:Option Addr) (c:Nat) (w:World) (hf:Flds w (.slice A fs.length c) fs) (hs:Short2 fs) (hv:∀f∈fs,f.2.length≤1000000) (hn:fs.length≤1000) (hi:(itemsAll (ofN fs codingN)).length≤1000000000):Calls Tryz.prog 225 #[.agg #[str m,str o,.int .i64 st,.slice A fs.length c],str asked] w (OfEnd w (frameL st fs asked)):=by
 by_cases ha:asked=headB
 ·subst ha
  rw [show frameL st fs headB=(4,0,0) from by unfold frameL;rw [if_pos (.inl rfl)]]
  exact frOf_head st fs m o A c w
 ·cases hb:bareS st with
  | true=>
    rw [show frameL st fs asked=(4,0,0) from by unfold frameL;rw [if_pos (.inr hb)]]
    exact frOf_bare st fs asked m o A c w ha hb
  | false=>exact frOf_some st fs asked m o A c w hf hs hv hn hi ha hb
end Go.Proofs.YtflepnkpihfidaaGreatDoor
