/- Parts. No conditions but those that each theorem names. -/
import Derived.Test.YtflepnkpihfidaaGreatDoorJHead2
import Derived.Test.YtflepnkpihfidaaGreatDoorJLawA
import Derived.Lib.ItoaNum
import Derived.Test.YtflepnkpihfidaaGreatDoorTab
import Derived.Test.YtflepnkpihfidaaGreatDoorJBytes
import Derived.Test.YtflepnkpihfidaaGreatDoorJPut
import Derived.Test.YtflepnkpihfidaaGreatDoorJHead1
set_option linter.unusedVariables false
set_option linter.unusedSimpArgs false
namespace Go.Proofs.YtflepnkpihfidaaGreatDoor
def lineP (T:HeadT):List UInt8:=if tellsB T.1 T.2.1 T.2.2.1 then httpB++[32]++Lib.itoa T.2.2.1++[32]++reason T.2.2.1 else T.1++[32]++T.2.1++[32]++httpB
def putH (T:HeadT):List UInt8×Nat:=
 if tellsB T.1 T.2.1 T.2.2.1||asksB T.1 T.2.1 T.2.2.1 then (if (put T.2.2.2).2=0 then (lineP T++[13,10]++(put T.2.2.2).1,0) else ([],(put T.2.2.2).2)) else ([],1)
theorem dec3 (n:Nat) (h1:100≤n) (h2:n≤999):Lib.decDigits n=[UInt8.ofNat (48+n / 100),UInt8.ofNat (48+n / 10 % 10),UInt8.ofNat (48+n % 10)]:=by
 rw [Lib.decDigits,dif_neg (by omega),Lib.decDigits,dif_neg (by omega),Lib.decDigits,dif_pos (by omega)]
 rw [show n / 10 / 10=n / 100 from by omega]
 rfl
theorem itoa3 (n:Int) (h1:100≤n) (h2:n≤999):Lib.itoa n=[UInt8.ofNat (48+n.toNat / 100),UInt8.ofNat (48+n.toNat / 10 % 10),UInt8.ofNat (48+n.toNat % 10)]:=by
 unfold Lib.itoa;rw [if_neg (by omega)];exact dec3 _ (by omega) (by omega)
theorem tells_of {m o:List UInt8} {st:Int} (h:tellsB m o st=true):m=[]∧o=[]∧100≤st∧st≤599:=by
 unfold tellsB at h
 simp only [Bool.and_eq_true,decide_eq_true_eq,List.isEmpty_iff] at h
 exact ⟨h.1.1.1,h.1.1.2,h.1.2,h.2⟩
theorem asks_of {m o:List UInt8} {st:Int} (h:asksB m o st=true):(m=getB∨m=headB)∧objB o=true∧st=0:=by
 unfold asksB at h
 simp only [Bool.and_eq_true,Bool.or_eq_true,beq_iff_eq] at h
 exact ⟨h.1.1,h.1.2,h.2⟩
theorem reason_len (n:Int):(reason n).length≤30:=by
 unfold reason
 repeat (split;· simp)
 simp
theorem lineP_tells {T:HeadT} (h:tellsB T.1 T.2.1 T.2.2.1=true):lineP T=httpB++[32]++Lib.itoa T.2.2.1++[32]++reason T.2.2.1:=by unfold lineP;rw [h];rfl
theorem lineP_asks {T:HeadT} (h:tellsB T.1 T.2.1 T.2.2.1=false):lineP T=T.1++[32]++T.2.1++[32]++httpB:=by unfold lineP;rw [h];rfl
theorem putH_none {T:HeadT} (h1:tellsB T.1 T.2.1 T.2.2.1=false) (h2:asksB T.1 T.2.1 T.2.2.1=false):putH T=([],1):=by unfold putH;rw [h1,h2];rfl
theorem putH_bad {T:HeadT} (h:(tellsB T.1 T.2.1 T.2.2.1||asksB T.1 T.2.1 T.2.2.1)=true) (h2:(put T.2.2.2).2≠0):putH T=([],(put T.2.2.2).2):=by unfold putH;rw [h,if_pos rfl,if_neg h2]
theorem putH_good {T:HeadT} (h:(tellsB T.1 T.2.1 T.2.2.1||asksB T.1 T.2.1 T.2.2.1)=true) (h2:(put T.2.2.2).2=0):putH T=(lineP T++[13,10]++(put T.2.2.2).1,0):=by unfold putH;rw [h,if_pos rfl,if_pos h2]
theorem put_len (l:List Fld):(put l).1.length≤65536:=by
 unfold put
 split
 ·split
  ·simp
  ·simp only;omega
 ·simp
end Go.Proofs.YtflepnkpihfidaaGreatDoor
namespace Go.Proofs.YtflepnkpihfidaaGreatDoor
open Go.RowKit
def PutEnd (w:World) (r:List UInt8×Nat) (e:Ending) (w':World):Prop:=∃A c,e=.returned (.tuple #[.slice A r.1.length c,.int .i64 r.2])∧Byts w' (.slice A r.1.length c) r.1∧Gr w w'∧Fresh w (.slice A r.1.length c)
theorem put_zero (l:List Fld):(put l).2=0∨(put l).2≠0:=by omega
end Go.Proofs.YtflepnkpihfidaaGreatDoor
namespace Go.Proofs.YtflepnkpihfidaaGreatDoor
open Go.RowKit
end Go.Proofs.YtflepnkpihfidaaGreatDoor
namespace Go.Proofs.YtflepnkpihfidaaGreatDoor
theorem objB_all {o:List UInt8} (h:objB o=true):o.all objC=true∧o.length≤200∧0 < o.length:=by
 cases o with
 | nil=>cases h
 | cons c t=>
   rw [objB_cons] at h
   simp only [Bool.and_eq_true,decide_eq_true_eq] at h
   exact ⟨h.2,by simp;omega,by simp⟩
theorem objC_ne {c:UInt8} (h:objC c=true):c≠13:=by rintro rfl;exact absurd h (by decide)
theorem reason_vis (n:Int):∀c∈reason n,visC c=true:=by
 intro c hc
 unfold reason at hc
 repeat (split at hc;· revert c;decide)
 revert c;decide
theorem visC_ne {c:UInt8} (h:visC c=true):c≠13:=by rintro rfl;exact absurd h (by decide)
theorem dig_ofNat (k:Nat) (h:k≤9):digC (UInt8.ofNat (48+k))=true∧(UInt8.ofNat (48+k)).toNat-48=k∧visC (UInt8.ofNat (48+k))=true:=by
 have h1:(UInt8.ofNat (48+k)).toNat=48+k:=by rw [UInt8.toNat_ofNat'];omega
 exact ⟨digC_yes _ (by omega),by omega,visC_yes _ (by omega)⟩
theorem itoa3_all (n:Int) (h1:100≤n) (h2:n≤599):(Lib.itoa n).length=3∧(Lib.itoa n).all digC=true∧((numB (Lib.itoa n):Nat):Int)=n∧(Lib.itoa n).all visC=true:=by
 rw [itoa3 n h1 (by omega)]
 obtain ⟨a1,a2,a3⟩:=dig_ofNat (n.toNat / 100) (by omega)
 obtain ⟨b1,b2,b3⟩:=dig_ofNat (n.toNat / 10 % 10) (by omega)
 obtain ⟨c1,c2,c3⟩:=dig_ofNat (n.toNat % 10) (by omega)
 refine ⟨rfl,by simp only [List.all_cons,List.all_nil,a1,b1,c1];rfl,?_,by simp only [List.all_cons,List.all_nil,a3,b3,c3];rfl⟩
 have:numB [UInt8.ofNat (48+n.toNat / 100),UInt8.ofNat (48+n.toNat / 10 % 10),UInt8.ofNat (48+n.toNat % 10)]=((0*10+((UInt8.ofNat (48+n.toNat / 100)).toNat-48))*10+((UInt8.ofNat (48+n.toNat / 10 % 10)).toNat-48))*10+((UInt8.ofNat (48+n.toNat % 10)).toNat-48):=rfl
 rw [this,a2,b2,c2]
 omega
theorem line_no {T:HeadT} (h:(tellsB T.1 T.2.1 T.2.2.1||asksB T.1 T.2.1 T.2.2.1)=true):(∀c∈lineP T,c≠13)∧(lineP T).length≤300:=by
 obtain ⟨m,o,st,fs⟩:=T
 simp only at h
 cases ht:tellsB m o st with
 | true=>
   obtain ⟨rfl,rfl,h1,h2⟩:=tells_of ht
   rw [lineP_tells ht]
   obtain ⟨i1,_,_,i4⟩:=itoa3_all st h1 h2
   have hr:=reason_len st
   refine ⟨fun c hc=>?_,by simp [httpB,i1];omega⟩
   simp only [List.mem_append,List.mem_singleton] at hc
   rcases hc with (((hc | hc) | hc) | hc) | hc
   ·rintro rfl;revert hc;decide
   ·subst hc;decide
   ·exact visC_ne (List.all_eq_true.1 i4 c hc)
   ·subst hc;decide
   ·exact visC_ne (reason_vis st c hc)
 | false=>
   rw [ht,Bool.false_or] at h
   obtain ⟨hm,ho,_⟩:=asks_of h
   obtain ⟨oa,ol,_⟩:=objB_all ho
   rw [lineP_asks ht]
   refine ⟨fun c hc=>?_,?_⟩
   ·simp only [List.mem_append,List.mem_singleton] at hc
    rcases hc with (((hc | hc) | hc) | hc) | hc
    ·rcases hm with rfl | rfl <;> (rintro rfl;revert hc;decide)
    ·subst hc;decide
    ·exact objC_ne (List.all_eq_true.1 oa c hc)
    ·subst hc;decide
    ·rintro rfl;revert hc;decide
   ·rcases hm with rfl | rfl <;> simp [httpB,getB,headB] <;> omega
theorem put_block {fs:List Fld} (h:(put fs).2=0):(put fs).1=block fs∧fs.all right=true∧fs.length≤100∧(block fs).length≤65536:=by
 unfold put at *
 split at h
 ·rename_i hr
  rw [if_pos hr]
  split at h
  ·cases h
  ·rename_i h1
   rw [if_neg h1]
   exact ⟨rfl,hr,by omega,by omega⟩
 ·cases h
theorem line_first {T:HeadT} (h:(tellsB T.1 T.2.1 T.2.2.1||asksB T.1 T.2.1 T.2.2.1)=true) (t:List UInt8):firstL (lineP T++13::10::t)=(lineP T,(lineP T).length+2,0):=by
 obtain ⟨h1,h2⟩:=line_no h
 unfold firstL
 rw [crlf_hit _ _ h1]
 simp only
 rw [if_neg (by omega),List.take_left]
theorem tell_line {T:HeadT} (ht:tellsB T.1 T.2.1 T.2.2.1=true):tellN (lineP T)=some T.2.2.1.toNat:=by
 obtain ⟨m,o,st,fs⟩:=T
 obtain ⟨rfl,rfl,h1,h2⟩:=tells_of ht
 rw [lineP_tells ht]
 simp only
 obtain ⟨i1,i2,i3,i4⟩:=itoa3_all st h1 h2
 have e:httpB++[32]++Lib.itoa st++[32]++reason st=(httpB++[32])++(Lib.itoa st++32::reason st):=by simp
 have hd9:((httpB++[32])++(Lib.itoa st++32::reason st)).drop 9=Lib.itoa st++32::reason st:=List.drop_left' rfl
 have hpr:(httpB++[32]).isPrefixOf ((httpB++[32])++(Lib.itoa st++32::reason st))=true:=List.isPrefixOf_iff_prefix.2 ⟨_,rfl⟩
 rw [e,tellN_pre hpr,hd9]
 have t3:(Lib.itoa st++32::reason st).take 3=Lib.itoa st:=List.take_left' i1
 have d3:(Lib.itoa st++32::reason st).drop 3=32::reason st:=List.drop_left' i1
 rw [statR_yes (by simp [i1]) (by rw [t3];exact i2) (by rw [d3,List.all_cons];simp only [Bool.and_eq_true];exact ⟨by decide,List.all_eq_true.2 (reason_vis st)⟩) (fun h=>by
  have:(Lib.itoa st++32::reason st)[3]=32:=by
   rw [List.getElem_append_right (by omega)];simp [i1]
  rw [this];rfl) (by rw [t3];simp only at h1 h2;omega),t3]
 congr 1;omega
theorem ask_line {T:HeadT} (ht:tellsB T.1 T.2.1 T.2.2.1=false) (ha:asksB T.1 T.2.1 T.2.2.1=true):askN (lineP T)=some (T.1,T.2.1):=by
 obtain ⟨m,o,st,fs⟩:=T
 obtain ⟨hm,ho,_⟩:=asks_of ha
 rw [lineP_asks ht]
 simp only at hm ho ⊢
 rw [←askP_eq,show m++[32]++o++[32]++httpB=m++32::(o++32::httpB) from by simp]
 exact askP_of m o hm ho
theorem putH_ok {T:HeadT} (h:(putH T).2=0):(tellsB T.1 T.2.1 T.2.2.1||asksB T.1 T.2.1 T.2.2.1)=true∧putH T=(lineP T++13::10::block T.2.2.2,0)∧T.2.2.2.all right=true∧T.2.2.2.length≤100∧(block T.2.2.2).length≤65536:=by
 cases hb:(tellsB T.1 T.2.1 T.2.2.1||asksB T.1 T.2.1 T.2.2.1) with
 | false=>
   rw [Bool.or_eq_false_iff] at hb
   rw [putH_none hb.1 hb.2] at h;cases h
 | true=>
   rcases Classical.em ((put T.2.2.2).2=0) with hz | hz
   ·obtain ⟨p1,p2,p3,p4⟩:=put_block hz
    refine ⟨rfl,?_,p2,p3,p4⟩
    rw [putH_good hb hz,p1];simp
   ·rw [putH_bad hb hz] at h;exact absurd h hz
theorem rest_back (m o:List UInt8) (st:Int) (a:List UInt8) (fs:List Fld) (more:List UInt8) (hr:fs.all right=true) (hn:fs.length≤100) (hb:(block fs).length≤65536) :
  restL m o st (a++13::10::(block fs++more)) (a.length+2)=((m,o,st,fs),a.length+2+(block fs).length,0):=by
 have hd:(a++13::10::(block fs++more)).drop (a.length+2)=block fs++more:=by
  rw [show a++13::10::(block fs++more)=(a++[13,10])++(block fs++more) from by simp]
  exact List.drop_left' (by simp)
 have hp:=parse_back fs more hr hn hb
 rw [restL_ok (by rw [hd,hp]),hd,hp]
theorem back_eq (T:HeadT) (more:List UInt8) (h:(putH T).2=0):(if T.2.2.1=0 then askR ((putH T).1++more) else tellR ((putH T).1++more))=(T,(putH T).1.length,0):=by
 obtain ⟨hb,he,hr,hn,hl⟩:=putH_ok h
 have e1:(putH T).1++more=lineP T++13::10::(block T.2.2.2++more):=by rw [he];simp
 have e2:(putH T).1.length=(lineP T).length+2+(block T.2.2.2).length:=by rw [he];simp;omega
 rw [e1,e2]
 have hf:=line_first hb (block T.2.2.2++more)
 cases ht:tellsB T.1 T.2.1 T.2.2.1 with
 | true=>
   obtain ⟨h1,h2,h3,h4⟩:=tells_of ht
   rw [if_neg (by omega),tellR_some hf (tell_line ht),rest_back _ _ _ _ _ _ hr hn hl]
   obtain ⟨m,o,st,fs⟩:=T
   simp only at h1 h2 h3 ⊢
   subst h1 h2
   rw [show ((st.toNat:Nat):Int)=st from by omega]
 | false=>
   rw [ht,Bool.false_or] at hb
   obtain ⟨_,_,h0⟩:=asks_of hb
   rw [if_pos h0,askR_some hf (ask_line ht hb),rest_back _ _ _ _ _ _ hr hn hl]
   obtain ⟨m,o,st,fs⟩:=T
   simp only at h0 ⊢
   subst h0
   rfl
end Go.Proofs.YtflepnkpihfidaaGreatDoor
