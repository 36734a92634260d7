/- Parts. No conditions but those that each theorem names. -/
import Derived.Test.YtflepnkpihfidaaGreatDoorJGateO
import Derived.Test.YtflepnkpihfidaaGreatDoorJCond
import Derived.Test.YtflepnkpihfidaaGreatDoorJCond3
import Derived.Test.YtflepnkpihfidaaGreatDoorJSpec
import Derived.Test.YtflepnkpihfidaaGreatDoorJHead1
import Derived.Test.YtflepnkpihfidaaGreatDoorJGate1
import Derived.Test.YtflepnkpihfidaaGreatDoorJItems
import Derived.Test.YtflepnkpihfidaaGreatDoorJWords
set_option linter.unusedVariables false
set_option linter.unusedSimpArgs false
namespace Go.Proofs.YtflepnkpihfidaaGreatDoor
open Lib (hid)
open Go.RowKit
set_option maxHeartbeats 8000000 in
set_option maxRecDepth 100000 in
theorem gateRight_any (q:ReqT) (vs vm vn:Value) (w:World) (ha:ReqA w q vs vm vn) (hl:ReqLow q) (h1:q.2.2.2.mt.length≤1000000) (h2:q.2.2.2.no.length≤1000000) :
  Calls Tryz.prog 61 #[reqV q vs vm vn] w fun e w'=>e=.returned (.bool (reqB q))∧Gr w w':=by
 obtain ⟨hd,o,l,mt,no,am,an,si,un,rx,rk⟩:=q
 obtain ⟨ho,hrg,hmt,hno⟩:=hl
 simp only at ho hrg hmt hno
 obtain ⟨hs,hm,hn⟩:=ha
 simp only at hs hm hn
 obtain ⟨A1,a1,rfl,_,_,hA⟩:=id hs.open
 obtain ⟨A2,a2,rfl,_,_,_⟩:=id hm.open
 obtain ⟨A3,a3,rfl,_,_,_⟩:=id hn.open
 simp only at h1 h2
 have HOB:=hid (fun (x:World)=>object_any o x (by omega))
 have HCR:=hid (fun (x:World) (g:Gr w x)=>show Calls Tryz.prog 91 #[.agg #[.slice A2 mt.length a2,.slice A3 no.length a3,.bool am,.bool an,.int .i64 si,.int .i64 un,str rx,.bool rk]] x _ from condRight_any ⟨mt,no,am,an,si,un,(rx,rk)⟩ _ _ x (hm.gr g) (hn.gr g) hmt hno h1 h2 hrg)
 have HSR:=hid (fun (s:SpecT) (x:World)=>show Calls Tryz.prog 92 #[.agg #[.int .i64 s.1,.int .i64 s.2]] x (fun e w'=>e=.returned (.bool (specB s))∧Gr x w') from specRight_any s.1 s.2 x)
 have HA:=hid hA
 have hbr:=Bk.new w 29 #[.bool hd,str o,.slice A1 l.length a1,.slice A2 mt.length a2,.slice A3 no.length a3,.bool am,.bool an,.int .i64 si,.int .i64 un,str rx,.bool rk] (0,0)
 have hG0:=Gr.al (Gr.refl w) (Obj.cells #[.bool hd,str o,.slice A1 l.length a1,.slice A2 mt.length a2,.slice A3 no.length a3,.bool am,.bool an,.int .i64 si,.int .i64 un,str rx,.bool rk] 29)
 have HQ:=hid (show reqB (hd,o,l,⟨mt,no,am,an,si,un,(rx,rk)⟩)=(((objB o&&decide (l.length≤64))&&condB ⟨mt,no,am,an,si,un,(rx,rk)⟩)&&l.all specB) from rfl)
 generalize reqB (hd,o,l,⟨mt,no,am,an,si,un,(rx,rk)⟩)=RB at *
 generalize condB ⟨mt,no,am,an,si,un,(rx,rk)⟩=cb at *
 clear hs hm hn hA hmt hno
 unfold reqV
 simp only
 go_enter Tryz.func61,Tryz.ntmps61
 go_upto_region 1 with fail
 generalize w.alloc (Obj.cells #[.bool hd,str o,.slice A1 l.length a1,.slice A2 mt.length a2,.slice A3 no.length a3,.bool am,.bool an,.int .i64 si,.int .i64 un,str rx,.bool rk] 29)=w0 at *
 generalize w.heap.size=g at *
 have r0:∀x,Gr w0 x→x.cell? ⟨g,0,none⟩=some (.bool hd):=fun x h=>(hbr.gr h).cell 0
 have r1:∀x,Gr w0 x→x.cell? ⟨g,1,none⟩=some (str o):=fun x h=>(hbr.gr h).cell 1
 have r2:∀x,Gr w0 x→x.cell? ⟨g,2,none⟩=some (.slice A1 l.length a1):=fun x h=>(hbr.gr h).cell 2
 have r3:∀x,Gr w0 x→x.cell? ⟨g,3,none⟩=some (.slice A2 mt.length a2):=fun x h=>(hbr.gr h).cell 3
 have r4:∀x,Gr w0 x→x.cell? ⟨g,4,none⟩=some (.slice A3 no.length a3):=fun x h=>(hbr.gr h).cell 4
 have r5:∀x,Gr w0 x→x.cell? ⟨g,5,none⟩=some (.bool am):=fun x h=>(hbr.gr h).cell 5
 have r6:∀x,Gr w0 x→x.cell? ⟨g,6,none⟩=some (.bool an):=fun x h=>(hbr.gr h).cell 6
 have r7:∀x,Gr w0 x→x.cell? ⟨g,7,none⟩=some (.int .i64 si):=fun x h=>(hbr.gr h).cell 7
 have r8:∀x,Gr w0 x→x.cell? ⟨g,8,none⟩=some (.int .i64 un):=fun x h=>(hbr.gr h).cell 8
 have r9:∀x,Gr w0 x→x.cell? ⟨g,9,none⟩=some (str rx):=fun x h=>(hbr.gr h).cell 9
 have r10:∀x,Gr w0 x→x.cell? ⟨g,10,none⟩=some (.bool rk):=fun x h=>(hbr.gr h).cell 10
 have h00:Gr w0 w0:=Gr.refl w0
 have HG0:=hid hG0
 clear hbr hG0
 cases k0:objB o with
 | false=>
   rw [k0] at HOB HQ
   have HX:=hid (show RB=false from by rw [HQ.out];rfl)
   clear k0 HQ HCR HSR
   go_wp2_with (go_at_call 90;refine (HOB.out _).mono ?_;rintro e wn ⟨rfl,hgn⟩)
   go_ret
   exact ⟨ret_bool HX.out.symm,Gr.tr HG0.out hgn⟩
 | true=>
   rw [k0] at HOB HQ
   by_cases k1:l.length≤64
   ·have d1:decide (64 < (l.length:Int))=false:=decide_eq_false (by omega)
    cases k2:cb with
    | false=>
      rw [k2] at HCR HQ
      have HX:=hid (show RB=false from by rw [HQ.out];simp)
      clear k0 k1 k2 HQ HSR
      go_wp2_with (first | (go_at_call 90;refine (HOB.out _).mono ?_;rintro e wn ⟨rfl,hgn⟩) | (go_at_call 91;refine (HCR.out _ (Gr.tr HG0.out (by assumption))).mono ?_;rintro e wm ⟨rfl,hgm⟩))
      go_ret
      exact ⟨ret_bool HX.out.symm,Gr.tr HG0.out (Gr.tr hgn hgm)⟩
    | true=>
      rw [k2] at HCR HQ
      have HX:=hid (show RB=l.all specB from by rw [HQ.out,decide_eq_true k1];rfl)
      clear k0 k2 HQ
      go_upto_region 4 with (first | (go_at_call 90;refine (HOB.out _).mono ?_;rintro e wn ⟨rfl,hgn⟩) | (go_at_call 91;refine (HCR.out _ (Gr.tr HG0.out (by assumption))).mono ?_;rintro e wm ⟨rfl,hgm⟩;have hgnm:=Gr.tr hgn hgm))
      have hG2:=hgnm
      clear HCR HOB hgn hgm
      go_loopw [4,24] (fun x4 i wr=>∃k:Nat,k≤l.length∧i=.int .i64 k∧Gr w0 wr∧(l.take k).all specB=true) (fun _ i _=>l.length-(intOf i).toNat)
      case atStart=>exact ⟨0,Nat.zero_le _,rfl,hG2,rfl⟩
      case round=>
       obtain ⟨k,hk,rfl,hG,hE⟩:=hrel
       have HE:=hid hE
       clear hE
       by_cases hlt:k < l.length
       ·obtain ⟨b5,o5,rfl,hb5,p5,p6⟩:=HA.out k hlt
        have p5:=Gr.cell (Gr.tr HG0.out hG) p5
        have p6:=Gr.cell (Gr.tr HG0.out hG) p6
        have HT:=hid (HSR.out l[k])
        go_upto_region 6 with fail
        cases hz:specB l[k] with
        | true=>
          rw [hz] at HT
          have HS:=hid (all_take_succ _ l k hlt HE.out hz)
          have hGb:=Gr.al (Gr.refl wr) (Obj.cells #[.int .i64 l[k].1,.int .i64 l[k].2] 96)
          have hbb:=Bk.new wr 96 #[.int .i64 l[k].1,.int .i64 l[k].2] (0,0)
          have hG:=Gr.tr hG hGb
          generalize wr.alloc (Obj.cells #[.int .i64 l[k].1,.int .i64 l[k].2] 96)=wb at *
          obtain ⟨y0,y1⟩:=hbb.cells2
          clear hGb hbb
          go_wp2_with (go_at_call 92;refine (HT.out _).mono ?_;rintro e wn ⟨rfl,hgn⟩)
          exact ⟨⟨k+1,by omega,by go_num,Gr.tr hG hgn,HS.out⟩,by simp [intOf];omega⟩
        | false=>
          rw [hz] at HT
          have HX:=hid (show RB=false from by rw [HX.out,List.all_eq_false];exact ⟨l[k],List.getElem_mem hlt,by simp [hz]⟩)
          have hGb:=Gr.al (Gr.refl wr) (Obj.cells #[.int .i64 l[k].1,.int .i64 l[k].2] 96)
          have hbb:=Bk.new wr 96 #[.int .i64 l[k].1,.int .i64 l[k].2] (0,0)
          have hG:=Gr.tr hG hGb
          generalize wr.alloc (Obj.cells #[.int .i64 l[k].1,.int .i64 l[k].2] 96)=wb at *
          obtain ⟨y0,y1⟩:=hbb.cells2
          clear hGb hbb
          go_wp2_with (go_at_call 92;refine (HT.out _).mono ?_;rintro e wn ⟨rfl,hgn⟩)
          go_ret
          exact ⟨ret_bool HX.out.symm,Gr.tr HG0.out (Gr.tr hG hgn)⟩
       ·have hvk:l.take k=l:=List.take_of_length_le (by omega)
        have HX:=hid (show RB=true from by rw [HX.out];have:=HE.out;rwa [hvk] at this)
        clear hvk
        go_wp2_with fail
        go_ret
        exact ⟨ret_bool HX.out.symm,Gr.tr HG0.out hG⟩
   ·have d1:decide (64 < (l.length:Int))=true:=decide_eq_true (by omega)
    have HX:=hid (show RB=false from by rw [HQ.out,decide_eq_false k1];simp)
    clear k0 k1 HQ HCR HSR
    go_wp2_with (go_at_call 90;refine (HOB.out _).mono ?_;rintro e wn ⟨rfl,hgn⟩)
    go_ret
    exact ⟨ret_bool HX.out.symm,Gr.tr HG0.out hgn⟩
end Go.Proofs.YtflepnkpihfidaaGreatDoor
namespace Go.Proofs.YtflepnkpihfidaaGreatDoor
open Lib (hid)
open Go.RowKit
set_option maxHeartbeats 16000000 in
set_option maxRecDepth 100000 in
theorem gatePut_any (q:ReqT) (vs vm vn:Value) (w:World) (hp:Pw w) (ha:ReqA w q vs vm vn) (hl:ReqLow q) (h1:q.2.2.2.mt.length≤1000000) (h2:q.2.2.2.no.length≤1000000) :
  Calls Tryz.prog 22 #[reqV q vs vm vn] w (PutM w (putQ q)):=by
 obtain ⟨hd,o,l,mt,no,am,an,si,un,rx,rk⟩:=q
 obtain ⟨ho,hrg,hmt,hno⟩:=id hl
 simp only at ho hrg hmt hno
 obtain ⟨hs,hm,hn⟩:=id ha
 simp only at hs hm hn h1 h2
 obtain ⟨A1,a1,rfl,_,_,_⟩:=id hs.open
 obtain ⟨A2,a2,rfl,_,_,_⟩:=id hm.open
 obtain ⟨A3,a3,rfl,_,_,_⟩:=id hn.open
 have HRB:=hid (fun (x:World) (g:Gr w x)=>show Calls Tryz.prog 61 #[.agg #[.bool hd,str o,.slice A1 l.length a1,.slice A2 mt.length a2,.slice A3 no.length a3,.bool am,.bool an,.int .i64 si,.int .i64 un,str rx,.bool rk]] x (fun e w'=>e=.returned (.bool (reqB (hd,o,l,⟨mt,no,am,an,si,un,(rx,rk)⟩)))∧Gr x w') from gateRight_any (hd,o,l,⟨mt,no,am,an,si,un,(rx,rk)⟩) _ _ _ x (ha.gr g) hl h1 h2)
 have HTX0:=hid (fun (h:l.length≤1000000) (x:World) (g:Gr w x)=>specText_any (.slice A1 l.length a1) l x (hp.gr g) (hs.gr g) h)
 have HCF0:=hid (fun (hc:condB ⟨mt,no,am,an,si,un,(rx,rk)⟩=true) (x:World) (g:Gr w x)=>show Calls Tryz.prog 63 #[.agg #[.slice A2 mt.length a2,.slice A3 no.length a3,.bool am,.bool an,.int .i64 si,.int .i64 un,str rx,.bool rk]] x (FieldsEnd (condF ⟨mt,no,am,an,si,un,(rx,rk)⟩) x) from condFields_any ⟨mt,no,am,an,si,un,(rx,rk)⟩ _ _ x (hm.gr g) (hn.gr g) hmt hno h1 h2 hrg hc)
 have HPU:=hid (fun (m:List UInt8) (L:List Fld) (A':Option Addr) (c':Nat) (x:World) (g:Gr w x) (h:Flds x (.slice A' L.length c') L) (hm:m.length≤600) (hol:o.length≤600) (hl:L.length≤6) (hb:bulk2 L≤9600)=>show Calls Tryz.prog 64 #[.agg #[str m,str o,.int .i64 0,.slice A' L.length c']] x (PutM x (putH (m,o,0,L))) from put12_w (m,o,0,L) A' c' x (hp.gr g) h (fun f hf=>by have:=bulk2_short hb f hf;omega) hm hol (by show L.length≤140;omega) (by show bulk2 L≤12400;omega))
 have hbr:=Bk.new w 29 #[.bool hd,str o,.slice A1 l.length a1,.slice A2 mt.length a2,.slice A3 no.length a3,.bool am,.bool an,.int .i64 si,.int .i64 un,str rx,.bool rk] (0,0)
 have hG0:=Gr.al (Gr.refl w) (Obj.cells #[.bool hd,str o,.slice A1 l.length a1,.slice A2 mt.length a2,.slice A3 no.length a3,.bool am,.bool an,.int .i64 si,.int .i64 un,str rx,.bool rk] 29)
 have HB:=hid (show reqB (hd,o,l,⟨mt,no,am,an,si,un,(rx,rk)⟩)=false→putQ (hd,o,l,⟨mt,no,am,an,si,un,(rx,rk)⟩)=([],1) from fun h=>by unfold putQ;rw [h];rfl)
 have HK:=hid (show reqB (hd,o,l,⟨mt,no,am,an,si,un,(rx,rk)⟩)=true→putQ (hd,o,l,⟨mt,no,am,an,si,un,(rx,rk)⟩)=putH (if hd then headB else getB,o,0,fldsS l++condF ⟨mt,no,am,an,si,un,(rx,rk)⟩) from fun h=>by unfold putQ;rw [h];rfl)
 have HSZ0:=hid (show reqB (hd,o,l,⟨mt,no,am,an,si,un,(rx,rk)⟩)=true→(fldsS l++condF ⟨mt,no,am,an,si,un,(rx,rk)⟩).length≤6∧bulk2 (fldsS l++condF ⟨mt,no,am,an,si,un,(rx,rk)⟩)≤9600 from fun h=>reqF_size h)
 have HRI:=hid (show reqB (hd,o,l,⟨mt,no,am,an,si,un,(rx,rk)⟩)=true→objB o=true∧l.length≤64∧condB ⟨mt,no,am,an,si,un,(rx,rk)⟩=true∧l.all specB=true from fun h=>reqB_iff.1 h)
 generalize putQ (hd,o,l,⟨mt,no,am,an,si,un,(rx,rk)⟩)=PQ at *
 generalize reqB (hd,o,l,⟨mt,no,am,an,si,un,(rx,rk)⟩)=rb at *
 clear hs hm hn hmt hno ha hl
 unfold reqV
 simp only
 go_enter Tryz.func22,Tryz.ntmps22
 go_upto_region 1 with fail
 generalize w.alloc (Obj.cells #[.bool hd,str o,.slice A1 l.length a1,.slice A2 mt.length a2,.slice A3 no.length a3,.bool am,.bool an,.int .i64 si,.int .i64 un,str rx,.bool rk] 29)=w0 at *
 generalize w.heap.size=g at *
 have r0:∀x,Gr w0 x→x.cell? ⟨g,0,none⟩=some (.bool hd):=fun x h=>(hbr.gr h).cell 0
 have r1:∀x,Gr w0 x→x.cell? ⟨g,1,none⟩=some (str o):=fun x h=>(hbr.gr h).cell 1
 have r2:∀x,Gr w0 x→x.cell? ⟨g,2,none⟩=some (.slice A1 l.length a1):=fun x h=>(hbr.gr h).cell 2
 have r3:∀x,Gr w0 x→x.cell? ⟨g,3,none⟩=some (.slice A2 mt.length a2):=fun x h=>(hbr.gr h).cell 3
 have r4:∀x,Gr w0 x→x.cell? ⟨g,4,none⟩=some (.slice A3 no.length a3):=fun x h=>(hbr.gr h).cell 4
 have r5:∀x,Gr w0 x→x.cell? ⟨g,5,none⟩=some (.bool am):=fun x h=>(hbr.gr h).cell 5
 have r6:∀x,Gr w0 x→x.cell? ⟨g,6,none⟩=some (.bool an):=fun x h=>(hbr.gr h).cell 6
 have r7:∀x,Gr w0 x→x.cell? ⟨g,7,none⟩=some (.int .i64 si):=fun x h=>(hbr.gr h).cell 7
 have r8:∀x,Gr w0 x→x.cell? ⟨g,8,none⟩=some (.int .i64 un):=fun x h=>(hbr.gr h).cell 8
 have r9:∀x,Gr w0 x→x.cell? ⟨g,9,none⟩=some (str rx):=fun x h=>(hbr.gr h).cell 9
 have r10:∀x,Gr w0 x→x.cell? ⟨g,10,none⟩=some (.bool rk):=fun x h=>(hbr.gr h).cell 10
 have h00:Gr w0 w0:=Gr.refl w0
 have HG0:=hid hG0
 clear hbr hG0
 cases rb with
 | false=>
   have HX:=hid (HB.out rfl)
   clear HTX0 HCF0 HPU HB HK HSZ0 HRI
   go_wp2_with (go_at_call 61;refine (HRB.out _ HG0.out).mono ?_;rintro e wn ⟨rfl,hgn⟩)
   go_ret2
   rw [HX.out]
   exact ⟨none,0,rfl,Gr.tr HG0.out hgn,.inr ⟨by decide,rfl,rfl,rfl⟩⟩
 | true=>
   have HX:=hid (HK.out rfl)
   obtain ⟨q1,q2,q3,q4⟩:=HRI.out rfl
   have HCF:=hid (HCF0.out q3)
   have HSZ:=hid (HSZ0.out rfl)
   have HTX:=hid (HTX0.out (by omega))
   clear HCF0 HSZ0 HTX0
   have HOL:=hid (objB_all q1).2.1
   have HTG:=hid (fun (h:l≠[])=>specTxt_good q4 h (by omega))
   have HTL:=hid (specTx_len q4 q2)
   generalize condF ⟨mt,no,am,an,si,un,(rx,rk)⟩=CF at *
   clear HB HK HRI q1 q2 q3 q4 h1 h2
   go_upto_region 4 with (go_at_call 61;refine (HRB.out _ HG0.out).mono ?_;rintro e w1 ⟨rfl,hg1⟩)
   have hbh:=Bk.new w1 123 #[(.string { data:=#[71,69,84] }:Value),str o,.int .i64 0,.slice none 0 0] (0,0)
   have hg2:=Gr.tr hg1 (Gr.al (Gr.refl w1) (Obj.cells #[(.string { data:=#[71,69,84] }:Value),str o,.int .i64 0,.slice none 0 0] 123))
   have hgh:w0.heap.size≤w1.heap.size:=hg1.size
   generalize w1.alloc (Obj.cells #[(.string { data:=#[71,69,84] }:Value),str o,.int .i64 0,.slice none 0 0] 123)=w2 at *
   generalize w1.heap.size=gh at *
   have hlt:=hbh.lt
   have HWH:=hid (Nat.le_trans HG0.out.size hgh)
   clear hg1
   cases hd with
   | false=>
     go_upto_region 6 with fail
     have hG2:=hg2
     generalize hw23:w2=w3 at *
     clear hw23 hg2
     by_cases hn:l=[]
     ·have d0:¬0 < l.length:=by simp [hn]
      have HB3:=hid (show w0.heap.size≤w3.heap.size from hG2.size)
      have HL0:=hid (show fldsS l=[] from by unfold fldsS;rw [if_pos hn])
      rw [HL0.out,List.nil_append] at HX HSZ
      clear hn HTX HTG HTL
      have c0:w3.cell? ⟨gh,0,none⟩=some (.string { data:=#[71,69,84] }:Value):=hbh.cell 0
      have c1:w3.cell? ⟨gh,1,none⟩=some (str o):=hbh.cell 1
      have c2:w3.cell? ⟨gh,2,none⟩=some (.int .i64 0):=hbh.cell 2
      have c3:w3.cell? ⟨gh,3,none⟩=some (.slice none 0 0):=hbh.cell 3
      have z0:=hbh.free 0 (.inr (Nat.zero_le _))
      have z3:=hbh.free 3 (.inr (Nat.zero_le _))
      have HE0:=hid (show 0+CF.length=CF.length from Nat.zero_add _)
      have HFL:=hid (show ([]:List Value)++flat2 CF=flat2 CF from rfl)
      have HLH:=hid (show gh < w3.heap.size from hlt)
      have hcl:CF.length≤6:=by have:=HSZ.out.1;(try simp only [List.length_append,List.length_cons,List.length_nil] at this);omega
      go_upto_region 14 with (go_at_call 63;refine (HCF.out _ (Gr.tr HG0.out hG2)).mono ?_;rintro e w10 ⟨A10,c10,rfl,hF10,hg10,hFr10⟩;have hbh10:=hbh.gr hg10;have hG10:=Gr.tr hG2 hg10;have HF10:=hid hF10;have HO10:=hid (show Own w3 w10 127 2 (.slice none 0 0) 0 _ from (Own.nil w3 _ 127 2));clear hF10 hFr10)
      clear c0 c1 c2 c3 z0 z3 hbh hG2
      have c0:w10.cell? ⟨gh,0,none⟩=some (.string { data:=#[71,69,84] }:Value):=hbh10.cell 0
      have c1:w10.cell? ⟨gh,1,none⟩=some (str o):=hbh10.cell 1
      have c2:w10.cell? ⟨gh,2,none⟩=some (.int .i64 0):=hbh10.cell 2
      have c3:w10.cell? ⟨gh,3,none⟩=some (.slice none 0 0):=hbh10.cell 3
      have z0:=hbh10.free 0 (.inr (Nat.zero_le _))
      have z3:=hbh10.free 3 (.inr (Nat.zero_le _))
      have HS10:=hid (show w3.heap.size≤w10.heap.size from hg10.size)
      have HB0:=hid (show w0.heap.size≤w3.heap.size from HB3.out)
      go_upto_region 15 with (at_builtin;refine wpList_appS (W0:=w3) (n:=0) (m:=CF.length) (news:=flat2 CF) elemFld8 rfl _ _ rfl rfl rfl HS10.out HO10.out HF10.out (flat2_len CF) (one_flat2 CF) (by omega) (by decide) ?_;intro v12 w12 hown12 happ12;have hG12:=happ12.gr hG10 (own_base45 HO10.out HB0.out);have hbh12:=hbh10.app happ12 (own_ne HO10.out HLH.out);rw [HE0.out,HFL.out] at hown12;obtain ⟨A12,c12,rfl⟩:=hown12.form;have HO12:=hid hown12;clear hown12 happ12;obtain ⟨c0,c1,c2,c3⟩:=hbh12.cells4;obtain ⟨z0,z1,z2,z3⟩:=hbh12.free4;clear z1 z2)
      have hbh13:=hbh12.set 3 (.slice A12 (CF).length c12)
      have hG13:=hG12.st (p:=⟨gh,3,none⟩) hgh (.slice A12 (CF).length c12)
      have HO13:=hid (own_set45 (b:=gh) HO12.out (own_ne HO12.out HLH.out) 3 (.slice A12 (CF).length c12))
      clear HO12 hG12 hbh12 hbh10 hG10 HO10 c0 c1 c2 c3 z0 z3
      generalize w12.setCell ⟨gh,3,none⟩ (.slice A12 (CF).length c12)=w13 at *
      have hbh13:Bk w13 gh 123 #[(.string { data:=#[71,69,84] }:Value),str o,.int .i64 0,.slice A12 (CF).length c12] (0,0):=by simpa using hbh13
      have HGW:=hid (Gr.tr HG0.out hG13)
      have HPP:=hid (HPU.out getB (CF) A12 c12 _ HGW.out (own_fld HO13.out rfl rfl) (by decide) (by have:=HOL.out;omega) HSZ.out.1 HSZ.out.2)
      have HX:=hid (show PQ=putH (getB,o,0,CF) from HX.out)
      clear HPU HSZ HO13 HCF HF10 HRB
      generalize putH (getB,o,0,CF)=R at *
      have c0:w13.cell? ⟨gh,0,none⟩=some (.string { data:=#[71,69,84] }:Value):=hbh13.cell 0
      have c1:w13.cell? ⟨gh,1,none⟩=some (str o):=hbh13.cell 1
      have c2:w13.cell? ⟨gh,2,none⟩=some (.int .i64 0):=hbh13.cell 2
      have c3:w13.cell? ⟨gh,3,none⟩=some (.slice A12 (CF).length c12):=hbh13.cell 3
      have z0:=hbh13.free 0 (.inr (Nat.zero_le _))
      have z3:=hbh13.free 3 (.inr (Nat.zero_le _))
      go_wp2_with (go_at_call 64;refine HPP.out.mono ?_;rintro e w15 hp15;have HP15:=hid (hp15.base HGW.out);obtain ⟨A15,c15,rfl,_,_⟩:=hp15)
      go_ret2
      rw [HX.out]
      exact HP15.out
     ·have d0:0 < l.length:=List.length_pos_iff.2 hn
      have HL0:=hid (show fldsS l=[(rngN,specTx l)] from by unfold fldsS;rw [if_neg hn])
      have HTX:=hid (fun (x:World) (g:Gr w x)=>by have h:=HTX.out x g;rw [HTG.out hn] at h;exact h)
      rw [HL0.out] at HX HSZ
      have htl:=HTL.out
      clear hn HTG HTL HL0
      generalize specTx l=tx at *
      have c0:w3.cell? ⟨gh,0,none⟩=some (.string { data:=#[71,69,84] }:Value):=hbh.cell 0
      have c1:w3.cell? ⟨gh,1,none⟩=some (str o):=hbh.cell 1
      have c2:w3.cell? ⟨gh,2,none⟩=some (.int .i64 0):=hbh.cell 2
      have c3:w3.cell? ⟨gh,3,none⟩=some (.slice none 0 0):=hbh.cell 3
      have z0:=hbh.free 0 (.inr (Nat.zero_le _))
      have z3:=hbh.free 3 (.inr (Nat.zero_le _))
      go_upto_region 10 with (go_at_call 62;refine (HTX.out _ (Gr.tr HG0.out hG2)).mono ?_;rintro e w4 ⟨rfl,hg4⟩)
      have hbh:=hbh.gr hg4
      have hG4:=Gr.tr hG2 hg4
      have HB3:=hid (show w0.heap.size≤w4.heap.size from hG4.size)
      have hlt:=Nat.lt_of_lt_of_le hlt hg4.size
      clear c0 c1 c2 c3 z0 z3
      have hbh5:=Bk.al hbh (Obj.cells #[(.string { data:=#[82,97,110,103,101] }:Value),str tx] 127)
      have HS5:=hid (sl_lit w4 127 [(.string { data:=#[82,97,110,103,101] }:Value),str tx] 1 (by decide))
      have hG5:=Gr.al hG4 (Obj.cells #[(.string { data:=#[82,97,110,103,101] }:Value),str tx] 127)
      have c0:w4.cell? ⟨gh,0,none⟩=some (.string { data:=#[71,69,84] }:Value):=hbh.cell 0
      have c1:w4.cell? ⟨gh,1,none⟩=some (str o):=hbh.cell 1
      have c2:w4.cell? ⟨gh,2,none⟩=some (.int .i64 0):=hbh.cell 2
      have c3:w4.cell? ⟨gh,3,none⟩=some (.slice none 0 0):=hbh.cell 3
      have z0:=hbh.free 0 (.inr (Nat.zero_le _))
      have z3:=hbh.free 3 (.inr (Nat.zero_le _))
      go_upto_region 11 with (at_builtin;refine wpList_appS (W0:=w4) (n:=0) (m:=1) (news:=[(.string { data:=#[82,97,110,103,101] }:Value),str tx]) elemFld8 rfl _ _ rfl rfl rfl (Gr.al (Gr.refl w4) _).size (Own.nil w4 _ 127 2) HS5.out rfl (one_fld8 rngN tx) (by omega) (by decide) ?_;intro v6 w6 hown6 happ6;rw [Nat.zero_add,List.nil_append] at hown6;obtain ⟨A6,c6,rfl⟩:=hown6.form;have hbh6:=hbh5.app happ6 (own_ne (Own.nil w4 w4 127 2) hlt);have HO6:=hid hown6;have hG6:=happ6.gr hG5 (Own.nil w0 _ 127 2);have hG46:=happ6.gr (Gr.al (Gr.refl w4) _) (Own.nil w4 _ 127 2);clear hown6 happ6;obtain ⟨c0,c1,c2,c3⟩:=hbh6.cells4;obtain ⟨z0,z1,z2,z3⟩:=hbh6.free4;clear z1 z2)
      have hbh7:=hbh6.set 3 (.slice A6 1 c6)
      have hG7:=hG6.st (p:=⟨gh,3,none⟩) hgh (.slice A6 1 c6)
      have HO7:=hid (own_set45 (b:=gh) HO6.out (own_ne HO6.out hlt) 3 (.slice A6 1 c6))
      have hlt7:gh < w4.heap.size:=hlt
      have HS4:=hid (show w4.heap.size≤(w6.setCell ⟨gh,3,none⟩ (.slice A6 1 c6)).heap.size from Nat.le_trans hG46.size (by_st ((Gr.refl w6).by (some gh)) 3 _).size)
      clear HO6 hG6 hG46 hbh6 hbh5 hG5 HS5 c0 c1 c2 c3 z0 z3
      generalize w6.setCell ⟨gh,3,none⟩ (.slice A6 1 c6)=w7 at *
      have hbh7:Bk w7 gh 123 #[(.string { data:=#[71,69,84] }:Value),str o,.int .i64 0,.slice A6 1 c6] (0,0):=by simpa using hbh7
      have HE0:=hid (show 1+CF.length=((rngN,tx)::CF).length from by rw [List.length_cons,Nat.add_comm])
      have HFL:=hid (show [(.string { data:=#[82,97,110,103,101] }:Value),str tx]++flat2 CF=flat2 ((rngN,tx)::CF) from rfl)
      have c0:w7.cell? ⟨gh,0,none⟩=some (.string { data:=#[71,69,84] }:Value):=hbh7.cell 0
      have c1:w7.cell? ⟨gh,1,none⟩=some (str o):=hbh7.cell 1
      have c2:w7.cell? ⟨gh,2,none⟩=some (.int .i64 0):=hbh7.cell 2
      have c3:w7.cell? ⟨gh,3,none⟩=some (.slice A6 1 c6):=hbh7.cell 3
      have z0:=hbh7.free 0 (.inr (Nat.zero_le _))
      have z3:=hbh7.free 3 (.inr (Nat.zero_le _))
      have HLH:=hid (show gh < w4.heap.size from hlt7)
      have hcl:CF.length≤6:=by have:=HSZ.out.1;(try simp only [List.length_append,List.length_cons,List.length_nil] at this);omega
      go_upto_region 14 with (go_at_call 63;refine (HCF.out _ (Gr.tr HG0.out hG7)).mono ?_;rintro e w10 ⟨A10,c10,rfl,hF10,hg10,hFr10⟩;have hbh10:=hbh7.gr hg10;have hG10:=Gr.tr hG7 hg10;have HF10:=hid hF10;have HO10:=hid (show Own w4 w10 127 2 (.slice A6 1 c6) 1 _ from (HO7.out.gr hg10));clear hF10 hFr10)
      clear c0 c1 c2 c3 z0 z3 hbh7 hG7
      have c0:w10.cell? ⟨gh,0,none⟩=some (.string { data:=#[71,69,84] }:Value):=hbh10.cell 0
      have c1:w10.cell? ⟨gh,1,none⟩=some (str o):=hbh10.cell 1
      have c2:w10.cell? ⟨gh,2,none⟩=some (.int .i64 0):=hbh10.cell 2
      have c3:w10.cell? ⟨gh,3,none⟩=some (.slice A6 1 c6):=hbh10.cell 3
      have z0:=hbh10.free 0 (.inr (Nat.zero_le _))
      have z3:=hbh10.free 3 (.inr (Nat.zero_le _))
      have HS10:=hid (show w4.heap.size≤w10.heap.size from Nat.le_trans HS4.out hg10.size)
      have HB0:=hid (show w0.heap.size≤w4.heap.size from HB3.out)
      go_upto_region 15 with (at_builtin;refine wpList_appS (W0:=w4) (n:=1) (m:=CF.length) (news:=flat2 CF) elemFld8 rfl _ _ rfl rfl rfl HS10.out HO10.out HF10.out (flat2_len CF) (one_flat2 CF) (by omega) (by decide) ?_;intro v12 w12 hown12 happ12;have hG12:=happ12.gr hG10 (own_base45 HO10.out HB0.out);have hbh12:=hbh10.app happ12 (own_ne HO10.out HLH.out);rw [HE0.out,HFL.out] at hown12;obtain ⟨A12,c12,rfl⟩:=hown12.form;have HO12:=hid hown12;clear hown12 happ12;obtain ⟨c0,c1,c2,c3⟩:=hbh12.cells4;obtain ⟨z0,z1,z2,z3⟩:=hbh12.free4;clear z1 z2)
      have hbh13:=hbh12.set 3 (.slice A12 ((rngN,tx)::CF).length c12)
      have hG13:=hG12.st (p:=⟨gh,3,none⟩) hgh (.slice A12 ((rngN,tx)::CF).length c12)
      have HO13:=hid (own_set45 (b:=gh) HO12.out (own_ne HO12.out HLH.out) 3 (.slice A12 ((rngN,tx)::CF).length c12))
      clear HO12 hG12 hbh12 hbh10 hG10 HO10 c0 c1 c2 c3 z0 z3
      generalize w12.setCell ⟨gh,3,none⟩ (.slice A12 ((rngN,tx)::CF).length c12)=w13 at *
      have hbh13:Bk w13 gh 123 #[(.string { data:=#[71,69,84] }:Value),str o,.int .i64 0,.slice A12 ((rngN,tx)::CF).length c12] (0,0):=by simpa using hbh13
      have HGW:=hid (Gr.tr HG0.out hG13)
      have HPP:=hid (HPU.out getB ((rngN,tx)::CF) A12 c12 _ HGW.out (own_fld HO13.out rfl rfl) (by decide) (by have:=HOL.out;omega) HSZ.out.1 HSZ.out.2)
      have HX:=hid (show PQ=putH (getB,o,0,(rngN,tx)::CF) from HX.out)
      clear HPU HSZ HO13 HCF HF10 HRB
      generalize putH (getB,o,0,(rngN,tx)::CF)=R at *
      have c0:w13.cell? ⟨gh,0,none⟩=some (.string { data:=#[71,69,84] }:Value):=hbh13.cell 0
      have c1:w13.cell? ⟨gh,1,none⟩=some (str o):=hbh13.cell 1
      have c2:w13.cell? ⟨gh,2,none⟩=some (.int .i64 0):=hbh13.cell 2
      have c3:w13.cell? ⟨gh,3,none⟩=some (.slice A12 ((rngN,tx)::CF).length c12):=hbh13.cell 3
      have z0:=hbh13.free 0 (.inr (Nat.zero_le _))
      have z3:=hbh13.free 3 (.inr (Nat.zero_le _))
      go_wp2_with (go_at_call 64;refine HPP.out.mono ?_;rintro e w15 hp15;have HP15:=hid (hp15.base HGW.out);obtain ⟨A15,c15,rfl,_,_⟩:=hp15)
      go_ret2
      rw [HX.out]
      exact HP15.out
   | true=>
     have c0:w2.cell? ⟨gh,0,none⟩=some (.string { data:=#[71,69,84] }:Value):=hbh.cell 0
     have c1:w2.cell? ⟨gh,1,none⟩=some (str o):=hbh.cell 1
     have c2:w2.cell? ⟨gh,2,none⟩=some (.int .i64 0):=hbh.cell 2
     have c3:w2.cell? ⟨gh,3,none⟩=some (.slice none 0 0):=hbh.cell 3
     have z0:=hbh.free 0 (.inr (Nat.zero_le _))
     have z3:=hbh.free 3 (.inr (Nat.zero_le _))
     go_upto_region 6 with fail
     have hbh:=hbh.set 0 (.string { data:=#[72,69,65,68] }:Value)
     have hG2:=hg2.st (p:=⟨gh,0,none⟩) hgh (.string { data:=#[72,69,65,68] }:Value)
     have hlt:gh < (w2.setCell ⟨gh,0,none⟩ (.string { data:=#[72,69,65,68] }:Value)).heap.size:=hbh.lt
     clear c0 c1 c2 c3 z0 z3 hg2
     generalize w2.setCell ⟨gh,0,none⟩ (.string { data:=#[72,69,65,68] }:Value)=w3 at *
     have hbh:Bk w3 gh 123 #[(.string { data:=#[72,69,65,68] }:Value),str o,.int .i64 0,.slice none 0 0] (0,0):=by simpa using hbh
     by_cases hn:l=[]
     ·have d0:¬0 < l.length:=by simp [hn]
      have HB3:=hid (show w0.heap.size≤w3.heap.size from hG2.size)
      have HL0:=hid (show fldsS l=[] from by unfold fldsS;rw [if_pos hn])
      rw [HL0.out,List.nil_append] at HX HSZ
      clear hn HTX HTG HTL
      have c0:w3.cell? ⟨gh,0,none⟩=some (.string { data:=#[72,69,65,68] }:Value):=hbh.cell 0
      have c1:w3.cell? ⟨gh,1,none⟩=some (str o):=hbh.cell 1
      have c2:w3.cell? ⟨gh,2,none⟩=some (.int .i64 0):=hbh.cell 2
      have c3:w3.cell? ⟨gh,3,none⟩=some (.slice none 0 0):=hbh.cell 3
      have z0:=hbh.free 0 (.inr (Nat.zero_le _))
      have z3:=hbh.free 3 (.inr (Nat.zero_le _))
      have HE0:=hid (show 0+CF.length=CF.length from Nat.zero_add _)
      have HFL:=hid (show ([]:List Value)++flat2 CF=flat2 CF from rfl)
      have HLH:=hid (show gh < w3.heap.size from hlt)
      have hcl:CF.length≤6:=by have:=HSZ.out.1;(try simp only [List.length_append,List.length_cons,List.length_nil] at this);omega
      go_upto_region 14 with (go_at_call 63;refine (HCF.out _ (Gr.tr HG0.out hG2)).mono ?_;rintro e w10 ⟨A10,c10,rfl,hF10,hg10,hFr10⟩;have hbh10:=hbh.gr hg10;have hG10:=Gr.tr hG2 hg10;have HF10:=hid hF10;have HO10:=hid (show Own w3 w10 127 2 (.slice none 0 0) 0 _ from (Own.nil w3 _ 127 2));clear hF10 hFr10)
      clear c0 c1 c2 c3 z0 z3 hbh hG2
      have c0:w10.cell? ⟨gh,0,none⟩=some (.string { data:=#[72,69,65,68] }:Value):=hbh10.cell 0
      have c1:w10.cell? ⟨gh,1,none⟩=some (str o):=hbh10.cell 1
      have c2:w10.cell? ⟨gh,2,none⟩=some (.int .i64 0):=hbh10.cell 2
      have c3:w10.cell? ⟨gh,3,none⟩=some (.slice none 0 0):=hbh10.cell 3
      have z0:=hbh10.free 0 (.inr (Nat.zero_le _))
      have z3:=hbh10.free 3 (.inr (Nat.zero_le _))
      have HS10:=hid (show w3.heap.size≤w10.heap.size from hg10.size)
      have HB0:=hid (show w0.heap.size≤w3.heap.size from HB3.out)
      go_upto_region 15 with (at_builtin;refine wpList_appS (W0:=w3) (n:=0) (m:=CF.length) (news:=flat2 CF) elemFld8 rfl _ _ rfl rfl rfl HS10.out HO10.out HF10.out (flat2_len CF) (one_flat2 CF) (by omega) (by decide) ?_;intro v12 w12 hown12 happ12;have hG12:=happ12.gr hG10 (own_base45 HO10.out HB0.out);have hbh12:=hbh10.app happ12 (own_ne HO10.out HLH.out);rw [HE0.out,HFL.out] at hown12;obtain ⟨A12,c12,rfl⟩:=hown12.form;have HO12:=hid hown12;clear hown12 happ12;obtain ⟨c0,c1,c2,c3⟩:=hbh12.cells4;obtain ⟨z0,z1,z2,z3⟩:=hbh12.free4;clear z1 z2)
      have hbh13:=hbh12.set 3 (.slice A12 (CF).length c12)
      have hG13:=hG12.st (p:=⟨gh,3,none⟩) hgh (.slice A12 (CF).length c12)
      have HO13:=hid (own_set45 (b:=gh) HO12.out (own_ne HO12.out HLH.out) 3 (.slice A12 (CF).length c12))
      clear HO12 hG12 hbh12 hbh10 hG10 HO10 c0 c1 c2 c3 z0 z3
      generalize w12.setCell ⟨gh,3,none⟩ (.slice A12 (CF).length c12)=w13 at *
      have hbh13:Bk w13 gh 123 #[(.string { data:=#[72,69,65,68] }:Value),str o,.int .i64 0,.slice A12 (CF).length c12] (0,0):=by simpa using hbh13
      have HGW:=hid (Gr.tr HG0.out hG13)
      have HPP:=hid (HPU.out headB (CF) A12 c12 _ HGW.out (own_fld HO13.out rfl rfl) (by decide) (by have:=HOL.out;omega) HSZ.out.1 HSZ.out.2)
      have HX:=hid (show PQ=putH (headB,o,0,CF) from HX.out)
      clear HPU HSZ HO13 HCF HF10 HRB
      generalize putH (headB,o,0,CF)=R at *
      have c0:w13.cell? ⟨gh,0,none⟩=some (.string { data:=#[72,69,65,68] }:Value):=hbh13.cell 0
      have c1:w13.cell? ⟨gh,1,none⟩=some (str o):=hbh13.cell 1
      have c2:w13.cell? ⟨gh,2,none⟩=some (.int .i64 0):=hbh13.cell 2
      have c3:w13.cell? ⟨gh,3,none⟩=some (.slice A12 (CF).length c12):=hbh13.cell 3
      have z0:=hbh13.free 0 (.inr (Nat.zero_le _))
      have z3:=hbh13.free 3 (.inr (Nat.zero_le _))
      go_wp2_with (go_at_call 64;refine HPP.out.mono ?_;rintro e w15 hp15;have HP15:=hid (hp15.base HGW.out);obtain ⟨A15,c15,rfl,_,_⟩:=hp15)
      go_ret2
      rw [HX.out]
      exact HP15.out
     ·have d0:0 < l.length:=List.length_pos_iff.2 hn
      have HL0:=hid (show fldsS l=[(rngN,specTx l)] from by unfold fldsS;rw [if_neg hn])
      have HTX:=hid (fun (x:World) (g:Gr w x)=>by have h:=HTX.out x g;rw [HTG.out hn] at h;exact h)
      rw [HL0.out] at HX HSZ
      have htl:=HTL.out
      clear hn HTG HTL HL0
      generalize specTx l=tx at *
      have c0:w3.cell? ⟨gh,0,none⟩=some (.string { data:=#[72,69,65,68] }:Value):=hbh.cell 0
      have c1:w3.cell? ⟨gh,1,none⟩=some (str o):=hbh.cell 1
      have c2:w3.cell? ⟨gh,2,none⟩=some (.int .i64 0):=hbh.cell 2
      have c3:w3.cell? ⟨gh,3,none⟩=some (.slice none 0 0):=hbh.cell 3
      have z0:=hbh.free 0 (.inr (Nat.zero_le _))
      have z3:=hbh.free 3 (.inr (Nat.zero_le _))
      go_upto_region 10 with (go_at_call 62;refine (HTX.out _ (Gr.tr HG0.out hG2)).mono ?_;rintro e w4 ⟨rfl,hg4⟩)
      have hbh:=hbh.gr hg4
      have hG4:=Gr.tr hG2 hg4
      have HB3:=hid (show w0.heap.size≤w4.heap.size from hG4.size)
      have hlt:=Nat.lt_of_lt_of_le hlt hg4.size
      clear c0 c1 c2 c3 z0 z3
      have hbh5:=Bk.al hbh (Obj.cells #[(.string { data:=#[82,97,110,103,101] }:Value),str tx] 127)
      have HS5:=hid (sl_lit w4 127 [(.string { data:=#[82,97,110,103,101] }:Value),str tx] 1 (by decide))
      have hG5:=Gr.al hG4 (Obj.cells #[(.string { data:=#[82,97,110,103,101] }:Value),str tx] 127)
      have c0:w4.cell? ⟨gh,0,none⟩=some (.string { data:=#[72,69,65,68] }:Value):=hbh.cell 0
      have c1:w4.cell? ⟨gh,1,none⟩=some (str o):=hbh.cell 1
      have c2:w4.cell? ⟨gh,2,none⟩=some (.int .i64 0):=hbh.cell 2
      have c3:w4.cell? ⟨gh,3,none⟩=some (.slice none 0 0):=hbh.cell 3
      have z0:=hbh.free 0 (.inr (Nat.zero_le _))
      have z3:=hbh.free 3 (.inr (Nat.zero_le _))
      go_upto_region 11 with (at_builtin;refine wpList_appS (W0:=w4) (n:=0) (m:=1) (news:=[(.string { data:=#[82,97,110,103,101] }:Value),str tx]) elemFld8 rfl _ _ rfl rfl rfl (Gr.al (Gr.refl w4) _).size (Own.nil w4 _ 127 2) HS5.out rfl (one_fld8 rngN tx) (by omega) (by decide) ?_;intro v6 w6 hown6 happ6;rw [Nat.zero_add,List.nil_append] at hown6;obtain ⟨A6,c6,rfl⟩:=hown6.form;have hbh6:=hbh5.app happ6 (own_ne (Own.nil w4 w4 127 2) hlt);have HO6:=hid hown6;have hG6:=happ6.gr hG5 (Own.nil w0 _ 127 2);have hG46:=happ6.gr (Gr.al (Gr.refl w4) _) (Own.nil w4 _ 127 2);clear hown6 happ6;obtain ⟨c0,c1,c2,c3⟩:=hbh6.cells4;obtain ⟨z0,z1,z2,z3⟩:=hbh6.free4;clear z1 z2)
      have hbh7:=hbh6.set 3 (.slice A6 1 c6)
      have hG7:=hG6.st (p:=⟨gh,3,none⟩) hgh (.slice A6 1 c6)
      have HO7:=hid (own_set45 (b:=gh) HO6.out (own_ne HO6.out hlt) 3 (.slice A6 1 c6))
      have hlt7:gh < w4.heap.size:=hlt
      have HS4:=hid (show w4.heap.size≤(w6.setCell ⟨gh,3,none⟩ (.slice A6 1 c6)).heap.size from Nat.le_trans hG46.size (by_st ((Gr.refl w6).by (some gh)) 3 _).size)
      clear HO6 hG6 hG46 hbh6 hbh5 hG5 HS5 c0 c1 c2 c3 z0 z3
      generalize w6.setCell ⟨gh,3,none⟩ (.slice A6 1 c6)=w7 at *
      have hbh7:Bk w7 gh 123 #[(.string { data:=#[72,69,65,68] }:Value),str o,.int .i64 0,.slice A6 1 c6] (0,0):=by simpa using hbh7
      have HE0:=hid (show 1+CF.length=((rngN,tx)::CF).length from by rw [List.length_cons,Nat.add_comm])
      have HFL:=hid (show [(.string { data:=#[82,97,110,103,101] }:Value),str tx]++flat2 CF=flat2 ((rngN,tx)::CF) from rfl)
      have c0:w7.cell? ⟨gh,0,none⟩=some (.string { data:=#[72,69,65,68] }:Value):=hbh7.cell 0
      have c1:w7.cell? ⟨gh,1,none⟩=some (str o):=hbh7.cell 1
      have c2:w7.cell? ⟨gh,2,none⟩=some (.int .i64 0):=hbh7.cell 2
      have c3:w7.cell? ⟨gh,3,none⟩=some (.slice A6 1 c6):=hbh7.cell 3
      have z0:=hbh7.free 0 (.inr (Nat.zero_le _))
      have z3:=hbh7.free 3 (.inr (Nat.zero_le _))
      have HLH:=hid (show gh < w4.heap.size from hlt7)
      have hcl:CF.length≤6:=by have:=HSZ.out.1;(try simp only [List.length_append,List.length_cons,List.length_nil] at this);omega
      go_upto_region 14 with (go_at_call 63;refine (HCF.out _ (Gr.tr HG0.out hG7)).mono ?_;rintro e w10 ⟨A10,c10,rfl,hF10,hg10,hFr10⟩;have hbh10:=hbh7.gr hg10;have hG10:=Gr.tr hG7 hg10;have HF10:=hid hF10;have HO10:=hid (show Own w4 w10 127 2 (.slice A6 1 c6) 1 _ from (HO7.out.gr hg10));clear hF10 hFr10)
      clear c0 c1 c2 c3 z0 z3 hbh7 hG7
      have c0:w10.cell? ⟨gh,0,none⟩=some (.string { data:=#[72,69,65,68] }:Value):=hbh10.cell 0
      have c1:w10.cell? ⟨gh,1,none⟩=some (str o):=hbh10.cell 1
      have c2:w10.cell? ⟨gh,2,none⟩=some (.int .i64 0):=hbh10.cell 2
      have c3:w10.cell? ⟨gh,3,none⟩=some (.slice A6 1 c6):=hbh10.cell 3
      have z0:=hbh10.free 0 (.inr (Nat.zero_le _))
      have z3:=hbh10.free 3 (.inr (Nat.zero_le _))
      have HS10:=hid (show w4.heap.size≤w10.heap.size from Nat.le_trans HS4.out hg10.size)
      have HB0:=hid (show w0.heap.size≤w4.heap.size from HB3.out)
      go_upto_region 15 with (at_builtin;refine wpList_appS (W0:=w4) (n:=1) (m:=CF.length) (news:=flat2 CF) elemFld8 rfl _ _ rfl rfl rfl HS10.out HO10.out HF10.out (flat2_len CF) (one_flat2 CF) (by omega) (by decide) ?_;intro v12 w12 hown12 happ12;have hG12:=happ12.gr hG10 (own_base45 HO10.out HB0.out);have hbh12:=hbh10.app happ12 (own_ne HO10.out HLH.out);rw [HE0.out,HFL.out] at hown12;obtain ⟨A12,c12,rfl⟩:=hown12.form;have HO12:=hid hown12;clear hown12 happ12;obtain ⟨c0,c1,c2,c3⟩:=hbh12.cells4;obtain ⟨z0,z1,z2,z3⟩:=hbh12.free4;clear z1 z2)
      have hbh13:=hbh12.set 3 (.slice A12 ((rngN,tx)::CF).length c12)
      have hG13:=hG12.st (p:=⟨gh,3,none⟩) hgh (.slice A12 ((rngN,tx)::CF).length c12)
      have HO13:=hid (own_set45 (b:=gh) HO12.out (own_ne HO12.out HLH.out) 3 (.slice A12 ((rngN,tx)::CF).length c12))
      clear HO12 hG12 hbh12 hbh10 hG10 HO10 c0 c1 c2 c3 z0 z3
      generalize w12.setCell ⟨gh,3,none⟩ (.slice A12 ((rngN,tx)::CF).length c12)=w13 at *
      have hbh13:Bk w13 gh 123 #[(.string { data:=#[72,69,65,68] }:Value),str o,.int .i64 0,.slice A12 ((rngN,tx)::CF).length c12] (0,0):=by simpa using hbh13
      have HGW:=hid (Gr.tr HG0.out hG13)
      have HPP:=hid (HPU.out headB ((rngN,tx)::CF) A12 c12 _ HGW.out (own_fld HO13.out rfl rfl) (by decide) (by have:=HOL.out;omega) HSZ.out.1 HSZ.out.2)
      have HX:=hid (show PQ=putH (headB,o,0,(rngN,tx)::CF) from HX.out)
      clear HPU HSZ HO13 HCF HF10 HRB
      generalize putH (headB,o,0,(rngN,tx)::CF)=R at *
      have c0:w13.cell? ⟨gh,0,none⟩=some (.string { data:=#[72,69,65,68] }:Value):=hbh13.cell 0
      have c1:w13.cell? ⟨gh,1,none⟩=some (str o):=hbh13.cell 1
      have c2:w13.cell? ⟨gh,2,none⟩=some (.int .i64 0):=hbh13.cell 2
      have c3:w13.cell? ⟨gh,3,none⟩=some (.slice A12 ((rngN,tx)::CF).length c12):=hbh13.cell 3
      have z0:=hbh13.free 0 (.inr (Nat.zero_le _))
      have z3:=hbh13.free 3 (.inr (Nat.zero_le _))
      go_wp2_with (go_at_call 64;refine HPP.out.mono ?_;rintro e w15 hp15;have HP15:=hid (hp15.base HGW.out);obtain ⟨A15,c15,rfl,_,_⟩:=hp15)
      go_ret2
      rw [HX.out]
      exact HP15.out
end Go.Proofs.YtflepnkpihfidaaGreatDoor
