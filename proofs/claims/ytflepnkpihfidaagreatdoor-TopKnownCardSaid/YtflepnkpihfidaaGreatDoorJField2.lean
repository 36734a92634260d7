/- Parts. No conditions but those that each theorem names. -/
import Derived.Test.YtflepnkpihfidaaGreatDoorJField1
import Derived.Test.YtflepnkpihfidaaGreatDoorJWords
import Derived.Test.YtflepnkpihfidaaGreatDoorJLawA
set_option linter.unusedVariables false
set_option linter.unusedSimpArgs false
namespace Go.Proofs.YtflepnkpihfidaaGreatDoor
open Lib (hid)
open Go.RowKit
theorem two_of_map {α β:Type} {φ:α→β} {l:List α} {x y:β} (h:l.map φ=[x,y]):∃f g,l=[f,g]∧φ f=x∧φ g=y:=by
 rcases l with _ | ⟨f,_ | ⟨g,_ | ⟨i,l⟩⟩⟩
 ·simp at h
 ·simp at h
 ·simp at h;exact ⟨f,g,rfl,h.1,h.2⟩
 ·simp at h
end Go.Proofs.YtflepnkpihfidaaGreatDoor
namespace Go.Proofs.YtflepnkpihfidaaGreatDoor
open Lib (hid)
open Go.RowKit
theorem elemStr:ElemOk Tryz.prog 64 9 (str []) 1 16:=⟨Tryz.underlying64,by kernel_rfl,rfl,by omega⟩
theorem elemFld:ElemOk Tryz.prog 34 127 (.agg #[str [],str []]) 2 32:=⟨Tryz.underlying34,by kernel_rfl,rfl,by omega⟩
theorem one_str (l:List UInt8):∀u∈[str l],u.oneCell'=true:=by intro u hu;simp at hu;subst hu;rfl
theorem one_str2 (l m:List UInt8):∀u∈[str l,str m],u.oneCell'=true:=by intro u hu;simp at hu;rcases hu with rfl | rfl <;> rfl
theorem own_fld {W0 w:World} {v:Value} {xs:List Fld} {n:Nat} {cs:List Value} (h:Own W0 w 127 2 v n cs) (hn:n=xs.length) (hc:cs=flat2 xs):Flds w v xs:=by
 subst hn hc;exact h.sl (by omega)
theorem own_str {W0 w:World} {v:Value} {xs:List (List UInt8)} {n:Nat} {cs:List Value} (h:Own W0 w 9 1 v n cs) (hn:n=xs.length) (hc:cs=xs.map str):Strs w v xs:=by
 subst hn hc;exact h.sl (by omega)
set_option maxHeartbeats 1000000 in
theorem of_any (u:Value) (xs:List Fld) (n:List UInt8) (w:World) (hu:Flds w u xs) (hs:Short2 xs) (_hn:n.length≤140737488355328) (_hx:xs.length≤1000000) :
  Calls Tryz.prog 67 #[u,str n] w fun e w'=>∃v,e=.returned v∧Strs w' v (ofN xs n)∧Gr w w':=by
 obtain ⟨A,c,rfl,hc,hx,hA⟩:=hu.open
 have HA:=hid hA;have HS:=hid hs;clear hA hu hs
 go_enter Tryz.func67,Tryz.ntmps67
 go_wp2_with fail
 go_loopw [5,7,10] (fun v x i wr=>∃(k:Nat),k≤xs.length∧i=.int .i64 k∧Gr w wr∧Own w wr 9 1 v (ofN (xs.take k) n).length ((ofN (xs.take k) n).map str)) (fun _ _ i _=>xs.length-(intOf i).toNat)
 case atStart=>exact ⟨0,Nat.zero_le _,rfl,Gr.refl _,Own.nil _ _ _ _⟩
 case round=>
  obtain ⟨k,hk,rfl,hG,hown⟩:=hrel
  have HO:=hid hown;clear hown
  by_cases hlt:k < xs.length
  ·obtain ⟨b1,o1,rfl,hb1,hc1,hc1'⟩:=HA.out k hlt
   obtain ⟨hB1,hB2⟩:=HS.out.at k hlt
   have hc2:=Gr.cell hG hc1
   have hc2':=Gr.cell hG hc1'
   have hs:=hid (ofN_succ xs n k hlt)
   have hle:(ofN (xs.take k) n).length≤1000000:=by have:=ofN_len (xs.take k) n;rw [List.length_take] at this;omega
   clear HA HS
   go_upto_region 5 with fail
   obtain ⟨hGb,cf0,cf1⟩:=box2 wr (str xs[k].1) (str xs[k].2) 127
   have HO:=hid (HO.out.gr hGb)
   have hG:=Gr.tr hG hGb
   generalize wr.alloc (Obj.cells #[str xs[k].1,str xs[k].2] 127)=wb at *
   clear hGb hc2 hc2'
   cases ha:alike xs[k].1 n with
   | true=>
     go_wp2_with (first
      | (go_at_call 133;refine (alike_any _ _ _ (by omega) (by omega)).mono ?_;rintro e w1 ⟨rfl,hG1⟩;have cf1:=Gr.cell hG1 cf1)
      | (at_builtin;refine wpList_app1 elemStr rfl _ _ rfl rfl rfl (Gr.tr hG hG1) (HO.out.gr hG1) rfl (one_str _) (by omega) (by omega) ?_;intro v' w' hown' hG'))
     exact ⟨⟨k+1,by omega,by go_num,hG',by rw [hs.out,ha];simpa using hown'⟩,by simp [intOf];omega⟩
   | false=>
     go_wp2_with (go_at_call 133;refine (alike_any _ _ _ (by omega) (by omega)).mono ?_;rintro e w1 ⟨rfl,hG1⟩)
     exact ⟨⟨k+1,by omega,by go_num,Gr.tr hG hG1,by rw [hs.out,ha];simpa using HO.out.gr hG1⟩,by simp [intOf];omega⟩
  ·go_wp2_with fail
   go_ret
   exact ⟨_,rfl,own_str HO.out (by rw [List.take_of_length_le (by omega)]) (by rw [List.take_of_length_le (by omega)]),hG⟩
theorem ofN_nil_step (l:List Fld) (n:List UInt8) (k:Nat) (h:k < l.length) (h0:ofN (l.take k) n=[]) (ha:alike l[k].1 n=false):ofN (l.take (k+1)) n=[]:=by
 rw [ofN_succ l n k h,h0,ha];rfl
theorem getN_hit (l:List Fld) (n:List UInt8) (k:Nat) (h:k < l.length) (h0:ofN (l.take k) n=[]) (ha:alike l[k].1 n=true):getN l n=(l[k].2,true):=by
 unfold getN
 have e:ofN l n=l[k].2::ofN (l.drop (k+1)) n:=by
  have hl:l=l.take k++l[k]::l.drop (k+1):=by
   rw [←List.drop_eq_getElem_cons h,List.take_append_drop]
  conv=>lhs;rw [hl]
  unfold ofN at *
  rw [List.filter_append,List.map_append,h0,List.filter_cons,ha]
  rfl
 rw [e]
theorem getN_none (l:List Fld) (n:List UInt8) (k:Nat) (h:¬k < l.length) (h0:ofN (l.take k) n=[]):getN l n=([],false):=by
 rw [List.take_of_length_le (by omega)] at h0
 unfold getN;rw [h0]
set_option maxHeartbeats 1000000 in
theorem get_any (u:Value) (xs:List Fld) (n:List UInt8) (w:World) (hu:Flds w u xs) (hs:Short2 xs) (_hn:n.length≤140737488355328) :
  Calls Tryz.prog 66 #[u,str n] w fun e w'=>e=.returned (.tuple #[str (getN xs n).1,.bool (getN xs n).2])∧Gr w w':=by
 obtain ⟨A,c,rfl,hc,hx,hA⟩:=hu.open
 have HA:=hid hA;have HS:=hid hs;clear hA hu hs
 go_enter Tryz.func66,Tryz.ntmps66
 go_wp2_with fail
 go_loopw [4,5,7,10] (fun r s x i wr=>∃(k:Nat),k≤xs.length∧i=.int .i64 k∧Gr w wr∧ofN (xs.take k) n=[]) (fun _ _ _ i _=>xs.length-(intOf i).toNat)
 case atStart=>exact ⟨0,Nat.zero_le _,rfl,Gr.refl _,rfl⟩
 case round=>
  obtain ⟨k,hk,rfl,hG,hE⟩:=hrel
  have HE:=hid hE;clear hE
  by_cases hlt:k < xs.length
  ·obtain ⟨b1,o1,rfl,hb1,hc1,hc1'⟩:=HA.out k hlt
   obtain ⟨hB1,hB2⟩:=HS.out.at k hlt
   have hc2:=Gr.cell hG hc1
   have hc2':=Gr.cell hG hc1'
   clear HA HS
   go_upto_region 4 with fail
   obtain ⟨hGb,cf0,cf1⟩:=box2 wr (str xs[k].1) (str xs[k].2) 127
   have hG:=Gr.tr hG hGb
   generalize wr.alloc (Obj.cells #[str xs[k].1,str xs[k].2] 127)=wb at *
   clear hGb hc2 hc2'
   cases ha:alike xs[k].1 n with
   | true=>
     have hg:=hid (getN_hit xs n k hlt HE.out ha)
     go_wp2_with (go_at_call 133;refine (alike_any _ _ _ (by omega) (by omega)).mono ?_;rintro e w1 ⟨rfl,hG1⟩;have cf1:=Gr.cell hG1 cf1)
     go_ret2
     exact ⟨by rw [hg.out];rfl,Gr.tr hG hG1⟩
   | false=>
     go_wp2_with (go_at_call 133;refine (alike_any _ _ _ (by omega) (by omega)).mono ?_;rintro e w1 ⟨rfl,hG1⟩)
     exact ⟨⟨k+1,by omega,by go_num,Gr.tr hG hG1,ofN_nil_step xs n k hlt HE.out ha⟩,by simp [intOf];omega⟩
  ·have hg:=hid (getN_none xs n k hlt HE.out)
   go_wp2_with fail
   go_ret2
   exact ⟨by rw [hg.out];rfl,hG⟩
end Go.Proofs.YtflepnkpihfidaaGreatDoor
namespace Go.Proofs.YtflepnkpihfidaaGreatDoor
open Lib (hid)
open Go.RowKit
theorem fieldR_hit {l a b:List UInt8} (h:cutC l=some (a,b)):fieldR l=((a,trim b),right (a,trim b)):=by unfold fieldR;rw [h]
theorem fieldR_none {l:List UInt8} (h:cutC l=none):fieldR l=(([],[]),false):=by unfold fieldR;rw [h]
end Go.Proofs.YtflepnkpihfidaaGreatDoor
namespace Go.Proofs.YtflepnkpihfidaaGreatDoor
open Lib (hid)
open Go.RowKit
def Ml (w:World):Prop:=∃m,w.cell? ⟨0,0,none⟩=some (.int .i64 m)
theorem Ml.gr {w w':World} (h:Ml w) (g:Gr w w'):Ml w':=by obtain ⟨m,h⟩:=h;exact ⟨m,Gr.cell g h⟩
theorem crlf_any (l:List UInt8) (w:World) (hm:Ml w) (hl:l.length < 4294967281):Calls Tryz.prog 253 #[str l,.string ⟨#[13,10]⟩] w fun e w'=>e=.returned (.int .i64 (Lib.index l [13,10]))∧Gr w w':=by
 obtain ⟨m,hm⟩:=hm
 exact (Tryz.strings_Index ⟨l.toArray⟩ ⟨#[13,10]⟩ m w hl hm).mono fun e w' ⟨h1,h2⟩=>⟨h1,by rw [h2];exact Gr.refl _⟩
theorem cut_any (l:List UInt8) (w:World) (hm:Ml w) (hl:l.length < 4294967281):Calls Tryz.prog 130 #[str l,.string ⟨#[58]⟩] w fun e w'=>e=.returned (.tuple #[str (Lib.cut l [58]).1,str (Lib.cut l [58]).2.1,.bool (Lib.cut l [58]).2.2])∧Gr w w':=by
 obtain ⟨m,hm⟩:=hm
 exact (Tryz.strings_Cut ⟨l.toArray⟩ ⟨#[58]⟩ m w hl hm).mono fun e w' ⟨h1,n,h2⟩=>⟨h1,by rw [h2];exact Gr.drN (Gr.refl _) n⟩
theorem nil_fld (w:World):Flds w (.slice none 0 0) []:=⟨none,0,rfl,Nat.le_refl _,by simp,.inl rfl⟩
theorem parseGo_none {s:List UInt8} {fuel k:Nat} {acc:List Fld} (h:crlf (s.drop k)=none):parseGo s (fuel+1) k acc=if 65536 < s.length then ([],0,4) else ([],0,3):=by
 rw [parseGo,h]
theorem parseGo_some {s:List UInt8} {fuel k j:Nat} {acc:List Fld} (h:crlf (s.drop k)=some j):parseGo s (fuel+1) k acc=if 65536 < k+j+2 then ([],0,4) else if j=0 then (acc,k+2,0) else if acc.length=100 then ([],0,4)
  else if (fieldR ((s.drop k).take j)).2 then parseGo s fuel (k+j+2) (acc++[(fieldR ((s.drop k).take j)).1]) else ([],0,2):=by
 rw [parseGo,h]
def Fresh (w:World) (v:Value):Prop:=∀b,v.ownBlock=some b→w.heap.size≤b
theorem fresh_nil (w:World):Fresh w (.slice none 0 0):=fun b h=>by simp [Value.ownBlock] at h
theorem fresh_own {W0 w:World} {e:TypeId} {size n:Nat} {v:Value} {xs:List Value} (h:Own W0 w e size v n xs):Fresh W0 v:=fun b hb=>(World.ownsRow.lt h b hb).1
theorem Fresh.tr {a b:World} {v:Value} (g:Gr a b) (h:Fresh b v):Fresh a v:=fun k hk=>Nat.le_trans g.size (h k hk)
def ParseEndF (w:World) (r:List Fld×Nat×Nat) (e:Ending) (w':World):Prop:=∃v,e=.returned (.tuple #[v,.int .i64 r.2.1,.int .i64 r.2.2])∧Flds w' v r.1∧Gr w w'∧Fresh w v
set_option maxHeartbeats 2000000 in
set_option maxRecDepth 100000 in
theorem parse_anyF (s:List UInt8) (w:World) (hm:Ml w) (_hs:s.length < 4294967000):Calls Tryz.prog 201 #[str s] w (ParseEndF w (parse s)):=by
 have HM:=hid hm;clear hm
 go_enter Tryz.func201,Tryz.ntmps201
 go_wp2_with fail
 go_loopw [2,3,4,5,6,7,8,9,10,11,12] (fun x2 x3 x4 v i x7 x8 x9 x10 x11 x12 wr=>∃(k fuel:Nat) (acc:List Fld),k≤s.length∧s.length < fuel+k∧acc.length≤100∧i=.int .i64 k∧Gr w wr∧parseGo s fuel k acc=parse s∧Own w wr 127 2 v acc.length (flat2 acc)) (fun _ _ _ _ i _ _ _ _ _ _ _=>s.length-(intOf i).toNat)
 case atStart=>exact ⟨0,s.length+1,[],Nat.zero_le _,by omega,by simp,rfl,Gr.refl _,rfl,Own.nil _ _ _ _⟩
 case round=>
  obtain ⟨k,fuel,acc,hk,hf,hacc,rfl,hG,hP,hown⟩:=hrel
  have HO:=hid hown;clear hown
  have HP:=hid hP;clear hP
  obtain ⟨A,cp,rfl⟩:=HO.out.form
  obtain ⟨fuel,rfl⟩:∃f,fuel=f+1:=⟨fuel-1,by omega⟩
  have hML:=hid (HM.out.gr hG)
  have hd:(s.drop k).length < 4294967281:=by rw [List.length_drop];omega
  cases hc:crlf (s.drop k) with
  | none=>
    have hI:Lib.index (s.drop k) [13,10]= -1:=by rw [crlf_lib,hc]
    have HP:=hid ((parseGo_none (fuel:=fuel) (acc:=acc) hc).symm.trans HP.out)
    clear hc
    by_cases hl:65536 < s.length
    ·have hd1:decide (65536 < (s.length:Int))=true:=decide_eq_true (by omega)
     go_wp2_with (go_at_call 253;refine (crlf_any _ _ hML.out (by omega)).mono ?_;rintro e w1 ⟨rfl,hG1⟩)
     go_ret3
     exact ⟨.slice none 0 0,by rw [←HP.out,if_pos hl];rfl,by rw [←HP.out,if_pos hl];exact nil_fld _,Gr.tr hG hG1,fresh_nil _⟩
    ·have hd1:decide (65536 < (s.length:Int))=false:=decide_eq_false (by omega)
     go_wp2_with (go_at_call 253;refine (crlf_any _ _ hML.out (by omega)).mono ?_;rintro e w1 ⟨rfl,hG1⟩)
     go_ret3
     exact ⟨.slice none 0 0,by rw [←HP.out,if_neg hl];rfl,by rw [←HP.out,if_neg hl];exact nil_fld _,Gr.tr hG hG1,fresh_nil _⟩
  | some j=>
    have hI:Lib.index (s.drop k) [13,10]=(j:Int):=by rw [crlf_lib,hc]
    have HP:=hid ((parseGo_some (fuel:=fuel) (acc:=acc) hc).symm.trans HP.out)
    have hj:k+j+2≤s.length:=by have:=crlf_lt hc;rw [List.length_drop] at this;omega
    clear hc
    by_cases hl:65536 < k+j+2
    ·have hl':(65536:Int) < (k:Int)+((j:Int)+2):=by omega
     go_wp2_with (go_at_call 253;refine (crlf_any _ _ hML.out (by omega)).mono ?_;rintro e w1 ⟨rfl,hG1⟩)
     go_ret3
     exact ⟨.slice none 0 0,by rw [←HP.out,if_pos hl];rfl,by rw [←HP.out,if_pos hl];exact nil_fld _,Gr.tr hG hG1,fresh_nil _⟩
    ·have hl':decide (65536 < (k:Int)+((j:Int)+2))=false:=decide_eq_false (by omega)
     have hlx:k+j+2≤70000:=by omega
     have HLX:=hid (show k+j+2≤65536 by omega)
     rw [if_neg hl] at HP
     clear hl
     by_cases h0:j=0
     ·subst h0
      have hl':decide (65536 < (k:Int)+2)=false:=decide_eq_false (by have:=HLX.out;omega)
      go_wp2_with (go_at_call 253;refine (crlf_any _ _ hML.out (by omega)).mono ?_;rintro e w1 ⟨rfl,hG1⟩)
      go_ret3
      exact ⟨_,by rw [←HP.out];go_num,by rw [←HP.out];exact own_fld (HO.out.gr hG1) rfl rfl,Gr.tr hG hG1,fresh_own HO.out⟩
     ·have hll:((s.drop k).take j).length=j:=by rw [List.length_take,List.length_drop];omega
      have hle:((s.drop k).take j).isEmpty=false:=by rw [List.isEmpty_eq_false_iff_exists_mem];exact ⟨_,List.getElem_mem (show 0 < _ by omega)⟩
      have hll':((s.drop k).take j).length≤70000:=by omega
      clear hll
      rw [if_neg h0] at HP
      have hkj:k+j-k=j:=by omega
      by_cases h100:acc.length=100
      ·have hb:((acc.length:Int)==100)=true:=by simp [h100]
       rw [if_pos h100] at HP
       clear h100
       go_wp2_with (go_at_call 253;refine (crlf_any _ _ hML.out (by omega)).mono ?_;rintro e w1 ⟨rfl,hG1⟩)
       go_ret3
       exact ⟨.slice none 0 0,by rw [←HP.out];rfl,by rw [←HP.out];exact nil_fld _,Gr.tr hG hG1,fresh_nil _⟩
      ·have hb:((acc.length:Int)==100)=false:=by simp;omega
       rw [if_neg h100] at HP
       have hcl:=cutC_lib ((s.drop k).take j)
       go_upto_region 16 with (go_at_call 253;refine (crlf_any _ _ hML.out (by omega)).mono ?_;rintro e w1 ⟨rfl,hG1⟩)
       simp only [hkj]
       generalize hln:(s.drop k).take j=ln at *
       have HLN:=hid hln;clear hln hkj
       have hML1:=hid (hML.out.gr hG1)
       have hG1':=Gr.tr hG hG1
       have HO1:=hid (HO.out.gr hG1)
       clear hI
       cases hcc:cutC ln with
       | none=>
         rw [hcc] at hcl
         simp only at hcl
         have HF:=hid (fieldR_none hcc);clear hcc
         go_wp2_with (first
          | (go_at_call 130;refine (cut_any _ _ hML1.out (by omega)).mono ?_;rintro e w2 ⟨rfl,hG2⟩)
          | (go_at_call 138;refine (trim_any _ _ (by simp)).mono ?_;rintro e w3 ⟨rfl,hG3⟩))
         go_ret3
         have hr:=HP.out
         rw [HF.out] at hr
         simp only [Bool.false_eq_true,if_false] at hr
         exact ⟨.slice none 0 0,by rw [←hr];rfl,by rw [←hr];exact nil_fld _,Gr.tr hG1' (Gr.tr hG2 (Gr.al hG3 _)),fresh_nil _⟩
       | some p=>
         rw [hcc] at hcl
         simp only at hcl
         have hpl:=cutC_len hcc
         have hp1:p.1.length≤70000:=by omega
         have hp2:p.2.length≤70000:=by omega
         have hp3:(trim p.2).length≤70000:=by have:=trim_le p.2;omega
         clear hpl
         have HF:=hid (fieldR_hit (a:=p.1) (b:=p.2) hcc);clear hcc
         go_upto_region 18 with (first
          | (go_at_call 130;refine (cut_any _ _ hML1.out (by omega)).mono ?_;rintro e w2 ⟨rfl,hG2⟩)
          | (go_at_call 138;refine (trim_any _ _ (by omega)).mono ?_;rintro e w3 ⟨rfl,hG3⟩))
         obtain ⟨hG4,c0,c1⟩:=box2 w3 (str p.1) (str (trim p.2)) 127
         have hG4':=Gr.tr hG1' (Gr.tr hG2 (Gr.tr hG3 hG4))
         have HO4:=hid (HO1.out.gr (Gr.tr hG2 (Gr.tr hG3 hG4)))
         generalize w3.alloc (Obj.cells #[str p.1,str (trim p.2)] 127)=w4 at *
         clear hG2 hG3 hG4 hG1 hG HO HO1 hcl
         have hr:=HP.out
         rw [HF.out] at hr
         simp only at hr
         cases hri:right (p.1,trim p.2) with
         | false=>
           rw [hri] at hr
           simp only [Bool.false_eq_true,if_false] at hr
           have HR:=hid hr;clear hr HP
           go_wp2_with (go_at_call 185;refine (right_any _ _ _ (by omega) (by omega)).mono ?_;rintro e w5 ⟨rfl,hG5⟩)
           go_ret3
           exact ⟨.slice none 0 0,by rw [←HR.out];rfl,by rw [←HR.out];exact nil_fld _,Gr.tr hG4' hG5,fresh_nil _⟩
         | true=>
           rw [hri] at hr
           simp only [if_true] at hr
           have HR:=hid hr;clear hr HP
           go_wp2_with (first
            | (go_at_call 185;refine (right_any _ _ _ (by omega) (by omega)).mono ?_;rintro e w5 ⟨rfl,hG5⟩;have c0:=Gr.cell hG5 c0;have c1:=Gr.cell hG5 c1)
            | (at_builtin;refine wpList_app1 elemFld rfl _ _ rfl rfl rfl (Gr.tr hG4' hG5) (HO4.out.gr hG5) rfl (one_str2 _ _) (by omega) (by omega) ?_;intro v' w' hown' hG'))
           refine ⟨⟨k+j+2,fuel,acc++[(p.1,trim p.2)],by omega,by omega,by simp;omega,by go_num,hG',HR.out,by simpa [flat2_append,flat2] using hown'⟩,by simp [intOf];omega⟩
end Go.Proofs.YtflepnkpihfidaaGreatDoor
