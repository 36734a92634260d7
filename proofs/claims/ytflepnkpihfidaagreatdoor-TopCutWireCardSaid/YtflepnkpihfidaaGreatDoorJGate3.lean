/- Parts. No conditions but those that each theorem names. -/
import Derived.Test.YtflepnkpihfidaaGreatDoorJGate1
set_option linter.unusedVariables false
set_option linter.unusedSimpArgs false
set_option maxHeartbeats 64000000
set_option maxRecDepth 100000
namespace Go.Proofs.YtflepnkpihfidaaGreatDoor
open Lib (hid)
open Go.RowKit
def gIn1 (obj:List UInt8) (p:PartT):Bool:=!p.1.isEmpty||(spanB p.2.1 p.2.2&&decide (p.2.2≤(obj.length:Int)))
def gIn (obj:List UInt8) (ps:List PartT):Bool:=ps.all (gIn1 obj)
theorem gIn_bad {obj:List UInt8} {ps:List PartT} {k:Nat} (h:k < ps.length) (hk:gIn1 obj ps[k]=false):gIn obj ps=false:=by
 unfold gIn
 rw [List.all_eq_false]
 exact ⟨_,List.getElem_mem h,by simp [hk]⟩
theorem gIn_succ {obj:List UInt8} {ps:List PartT} {k:Nat} (h:k < ps.length) (h0:gIn obj (ps.take k)=true) (h1:gIn1 obj ps[k]=true):gIn obj (ps.take (k+1))=true:=by
 unfold gIn at *
 rw [List.take_succ_eq_append_getElem h,List.all_append,h0]
 simp [h1]
theorem gIn1_text {obj:List UInt8} {p:PartT} (h:p.1≠[]):gIn1 obj p=true:=by
 unfold gIn1
 have:p.1.isEmpty=false:=by simpa using h
 rw [this];rfl
theorem gIn1_span {obj:List UInt8} {p:PartT} (h:p.1=[]):gIn1 obj p=(spanB p.2.1 p.2.2&&decide (p.2.2≤(obj.length:Int))):=by
 unfold gIn1;rw [h];rfl
theorem spanB_iff {f t:Int}:spanB f t=true↔0≤f∧f≤t∧t≤4611686018427387904:=by
 unfold spanB;simp
def PartsLow (obj:List UInt8) (ps:List PartT):Prop:=∀p∈ps,p.1.length≤1000
theorem fillL_le (obj:List UInt8) (ps:List PartT) (h:PartsLow obj ps) (ho:obj.length≤1000):(fillL obj ps).length≤ps.length*1000:=by
 unfold fillL
 induction ps with
 | nil=>simp
 | cons p ps ih=>
   have ih:=ih (fun q hq=>h q (List.mem_cons_of_mem _ hq))
   rw [List.flatMap_cons,List.length_append,List.length_cons]
   have h1:(if p.1=[] then objL obj p.2 else p.1).length≤1000:=by
    split
    ·unfold objL;rw [List.length_take,List.length_drop];omega
    ·exact h p (List.mem_cons_self ..)
   omega
def wholeOk (st:Int) (fs:List Fld) (ps:List PartT) (sz:Int) (obj:List UInt8):Bool:=tellB st fs sz&&gIn obj ps&&!(bodB st&&(decide (0≤sz)&&sz != ((fillL obj ps).length:Int)))
def wholeR (st:Int) (fs:List Fld) (ps:List PartT) (sz:Int) (obj:List UInt8):List UInt8×Nat:=
 if wholeOk st fs ps sz obj then (if (headR st fs sz).2=0∧bodB st=true then ((headR st fs sz).1++gBody sz (fillL obj ps)++gEnd sz true,0) else headR st fs sz) else ([],1)
def WEnd (w:World) (r:List UInt8×Nat) (e:Ending) (w':World):Prop:=∃A c,e=.returned (.tuple #[.slice A r.1.length c,.int .i64 r.2])∧Gr w w'∧Byts w' (.slice A r.1.length c) r.1
theorem WEnd.of {w x w':World} {r:List UInt8×Nat} {A:Option Addr} {c:Nat} (g:Gr w x) (hg:Gr x w') (h:(r.2=0∧OwnM x w' (.slice A r.1.length c) r.1)∨(r.2≠0∧r.1=[]∧A=none∧c=0)):WEnd w r (.returned (.tuple #[.slice A r.1.length c,.int .i64 r.2])) w':=by
 refine ⟨A,c,rfl,Gr.tr g hg,?_⟩
 rcases h with h | ⟨_,h,rfl,rfl⟩
 ·exact h.2.byts
 ·rw [h];exact Byts.nil _
theorem gBody_le (sz:Int) (l:List UInt8) (h:l.length≤1000000):(gBody sz l).length≤1000100:=by
 unfold gBody chunkL
 have:=(hexT_le l.length (by omega)).2
 repeat' split
 all_goals (try simp)
 all_goals omega
theorem gEnd_le (sz:Int) (b:Bool):(gEnd sz b).length≤5:=by
 unfold gEnd;split <;> simp [lastL]
theorem headR_le (st:Int) (fs:List Fld) (sz:Int):(headR st fs sz).1.length≤70000:=by
 unfold headR
 split
 ·exact putH_le ([],[],st,headF st fs sz) (by simp) (by simp)
 ·simp
theorem gIn_obj {obj:List UInt8} {ps:List PartT} (h:gIn obj ps=true):InObj obj ps:=by
 intro p hp ht
 unfold gIn at h
 have:=List.all_eq_true.1 h p hp
 rw [gIn1_span ht] at this
 simp only [Bool.and_eq_true,decide_eq_true_eq] at this
 have h2:=spanB_iff.1 this.1
 omega
theorem wholeOk_in {st sz:Int} {fs:List Fld} {ps:List PartT} {obj:List UInt8} (h:gIn obj ps=false):wholeOk st fs ps sz obj=false:=by
 unfold wholeOk;rw [h];simp
theorem gateWhole_any (st sz:Int) (fs:List Fld) (ov:Value) (A1 A2:Option Addr) (c1 c2:Nat) (ps:List PartT) (obj:List UInt8) (w:World) (hp:Pw w) (hz:Tz w) (hf:Flds w (.slice A1 fs.length c1) fs) (hs:Short2 fs) (h1:fs.length≤130) (h2:bulk2 fs≤12000) (hu:Parts w (.slice A2 ps.length c2) ps) (ho:Byts w ov obj) (hps:ps.length≤100) (hobj:obj.length≤1000) (htx:PartsLow obj ps) :
  Calls Tryz.prog 29 #[.agg #[.int .i64 st,.slice A1 fs.length c1,.slice A2 ps.length c2,.int .i64 sz],ov] w (WEnd w (wholeR st fs ps sz obj)):=by
 obtain ⟨A3,c3,rfl,hc3,hm3,_⟩:=ho.open
 obtain ⟨A',c',hv,hc,hm,hA⟩:=hu.open
 simp only [Value.slice.injEq,true_and] at hv
 obtain ⟨rfl,rfl⟩:=hv
 have hlen:=fillL_le obj ps htx hobj
 have hlen:(fillL obj ps).length≤1000000:=by omega
 have HA:=hid hA;have HO:=hid ho;have HTX:=hid htx
 have HOK:=hid (fun (x:World) (g:Gr w x)=>tells45_any st sz fs A1 c1 (.slice A2 ps.length c2) x (hf.gr g) hs)
 have HBD:=hid (fun (x:World)=>bodied_any st sz (.slice A1 fs.length c1) (.slice A2 ps.length c2) x)
 have HHD:=hid (fun (x:World) (g:Gr w x)=>gateHead_any st sz fs A1 c1 (.slice A2 ps.length c2) x (hp.gr g) (hf.gr g) hs h1 h2)
 have HBO:=hid (fun (l:List UInt8) (v:Value) (x:World) (g:Gr w x) (h:Byts x v l) (hl:l.length≤1000000)=>gateBody_any st sz (.slice A1 fs.length c1) (.slice A2 ps.length c2) l v x (hz.gr g) h hl)
 have HEN:=hid (fun (x:World)=>gateEnd_any st sz (.slice A1 fs.length c1) (.slice A2 ps.length c2) true x)
 have HWO:=hid (show wholeOk st fs ps sz obj=(tellB st fs sz&&gIn obj ps&&!(bodB st&&(decide (0≤sz)&&sz != ((fillL obj ps).length:Int)))) from rfl)
 have HWR:=hid (show wholeR st fs ps sz obj=if wholeOk st fs ps sz obj then (if (headR st fs sz).2=0∧bodB st=true then ((headR st fs sz).1++gBody sz (fillL obj ps)++gEnd sz true,0) else headR st fs sz) else ([],1) from rfl)
 have HWF:=hid (fun (h:gIn obj ps=false)=>show wholeR st fs ps sz obj=([],1) from by
  show (if wholeOk st fs ps sz obj then _ else _)=_
  rw [wholeOk_in h];rfl)
 have HBAD:=hid (fun (k:Nat) (h:k < ps.length) (hk:gIn1 obj ps[k]=false)=>gIn_bad h hk)
 have HHL:=hid (headR_le st fs sz)
 have HTM:=hid (fun (h:tellB st fs sz=true)=>(tellB_iff.1 h).2.2.1)
 generalize wholeR st fs ps sz obj=WR at *
 generalize wholeOk st fs ps sz obj=wok at *
 generalize headR st fs sz=HR at *
 clear hf hs hu ho htx hp hz hA
 have hb:=Bk.new w 37 #[.int .i64 st,.slice A1 fs.length c1,.slice A2 ps.length c2,.int .i64 sz] (0,0)
 have hG1:=Gr.al (Gr.refl w) (Obj.cells #[.int .i64 st,.slice A1 fs.length c1,.slice A2 ps.length c2,.int .i64 sz] 37)
 go_enter Tryz.func29,Tryz.ntmps29
 go_upto_region 1 with fail
 generalize w.alloc (Obj.cells #[.int .i64 st,.slice A1 fs.length c1,.slice A2 ps.length c2,.int .i64 sz] 37)=w1 at *
 have hgl:w.heap.size < w1.heap.size:=hb.lt
 generalize hgq:w.heap.size=g at *
 have r0:∀x,Gr w1 x→x.cell? ⟨g,0,none⟩=some (.int .i64 st):=fun x h=>(hb.gr h).cell 0
 have r1:∀x,Gr w1 x→x.cell? ⟨g,1,none⟩=some (.slice A1 fs.length c1):=fun x h=>(hb.gr h).cell 1
 have r2:∀x,Gr w1 x→x.cell? ⟨g,2,none⟩=some (.slice A2 ps.length c2):=fun x h=>(hb.gr h).cell 2
 have r3:∀x,Gr w1 x→x.cell? ⟨g,3,none⟩=some (.int .i64 sz):=fun x h=>(hb.gr h).cell 3
 have h11:Gr w1 w1:=Gr.refl w1
 have HG1:=hid hG1
 clear hb hG1 hgq hgl
 cases ht:tellB st fs sz with
 | false=>
   rw [ht] at HOK HWO
   have HX:=hid (show WR=([],1) from by rw [HWR.out,HWO.out];rfl)
   clear ht HHD HBO HEN HBD HA HO HWO HWR HTM HWF HBAD
   go_wp2_with (go_at_call 84;refine (HOK.out _ HG1.out).mono ?_;rintro e w3 ⟨rfl,hg3⟩)
   go_ret2
   rw [HX.out]
   exact ⟨none,0,rfl,Gr.tr HG1.out hg3,Byts.nil _⟩
 | true=>
   have hm1:=HTM.out ht
   rw [ht] at HOK HWO
   clear ht HTM
   go_wp2_with (go_at_call 84;refine (HOK.out _ HG1.out).mono ?_;rintro e w2 ⟨rfl,hg2⟩)
   clear HOK
   go_loopw [6,8,20] (fun s x8 i wr=>∃k:Nat,k≤ps.length∧i=.int .i64 k∧Gr w1 wr∧gIn obj (ps.take k)=true∧s=.int .i64 ((fillL obj (ps.take k)).length:Nat)) (fun _ _ i _=>ps.length-(intOf i).toNat)
   case atStart=>exact ⟨0,Nat.zero_le _,rfl,hg2,rfl,rfl⟩
   case round=>
    obtain ⟨k,hk,rfl,hG,hE,rfl⟩:=hrel
    have HE:=hid hE
    clear hE
    have hft:=fillL_take obj ps k
    by_cases hlt:k < ps.length
    ·obtain ⟨b1,o1,rfl,hb1,p0,p1,p2⟩:=HA.out k hlt
     have hgx:=Gr.tr HG1.out hG
     have p0:=Gr.cell hgx p0;have p1:=Gr.cell hgx p1;have p2:=Gr.cell hgx p2
     have hft2:=fillL_take obj ps (k+1)
     have hsn:fillL obj (ps.take (k+1))=fillL obj (ps.take k)++(if ps[k].1=[] then objL obj ps[k].2 else ps[k].1):=by
      rw [List.take_succ_eq_append_getElem hlt,fillL_snoc]
     have htl:=HTX.out _ (List.getElem_mem hlt)
     have HSN:=hid hsn
     rw [hsn,List.length_append] at hft2
     clear hsn HHD HBO HEN HBD HO HWO HWR
     go_upto_region 7 with fail
     have hbp:=Bk.new wr 51 #[str ps[k].1,.int .i64 ps[k].2.1,.int .i64 ps[k].2.2] (0,0)
     have hGb:=Gr.al (Gr.refl wr) (Obj.cells #[str ps[k].1,.int .i64 ps[k].2.1,.int .i64 ps[k].2.2] 51)
     have hG:=Gr.tr hG hGb
     generalize wr.alloc (Obj.cells #[str ps[k].1,.int .i64 ps[k].2.1,.int .i64 ps[k].2.2] 51)=wb at *
     generalize wr.heap.size=gb at *
     have hbb:Gr wb wb:=Gr.refl wb
     have y0:∀x,Gr wb x→x.cell? ⟨gb,0,none⟩=some (str ps[k].1):=fun x h=>(hbp.gr h).cell 0
     have y1:∀x,Gr wb x→x.cell? ⟨gb,1,none⟩=some (.int .i64 ps[k].2.1):=fun x h=>(hbp.gr h).cell 1
     have y2:∀x,Gr wb x→x.cell? ⟨gb,2,none⟩=some (.int .i64 ps[k].2.2):=fun x h=>(hbp.gr h).cell 2
     clear hbp hGb p0 p1 p2 hgx
     by_cases ht:ps[k].1=[]
     ·have kt:ps[k].1.isEmpty=true:=by rw [ht];rfl
      have HI1:=hid (gIn1_span (obj:=obj) ht)
      have HSR:=hid (fun (x:World)=>spanRight_any ps[k].2.1 ps[k].2.2 x)
      rw [if_pos ht] at HSN hft2
      cases hsp:spanB ps[k].2.1 ps[k].2.2 with
      | false=>
        have HIB:=hid (HWF.out (HBAD.out k hlt (by rw [HI1.out,hsp];rfl)))
        rw [hsp] at HSR
        clear ht hsp hft hft2 htl
        go_wp2_with (go_at_call 41;refine (HSR.out _).mono ?_;rintro e w3 ⟨rfl,hg3⟩)
        go_ret2
        rw [HIB.out]
        exact ⟨none,0,rfl,Gr.tr HG1.out (Gr.tr hG hg3),Byts.nil _⟩
      | true=>
        obtain ⟨s0,s1,s2⟩:=spanB_iff.1 hsp
        by_cases hle:ps[k].2.2≤(obj.length:Int)
        ·have HIB:=hid (show gIn1 obj ps[k]=true from by rw [HI1.out,hsp,decide_eq_true hle];rfl)
         have k2:decide ((obj.length:Int) < ps[k].2.2)=false:=decide_eq_false (by omega)
         have HSL:=hid (fun (x:World)=>spanLen_s ps[k].2.1 ps[k].2.2 x s0 s1 (by omega))
         rw [hsp] at HSR
         have hol:(objL obj ps[k].2).length=(ps[k].2.2-ps[k].2.1).toNat:=by unfold objL;rw [List.length_take,List.length_drop];omega
         rw [hol] at hft2
         have HOL:=hid hol
         clear ht hol hsp
         go_wp2_with (first
          | (go_at_call 41;refine (HSR.out _).mono ?_;rintro e w3 ⟨rfl,hg3⟩)
          | (go_at_call 85;refine (HSL.out _).mono ?_;rintro e w4 ⟨rfl,hg4⟩))
         refine ⟨⟨k+1,by omega,by go_num,Gr.tr hG (Gr.tr hg3 hg4),gIn_succ hlt HE.out HIB.out,?_⟩,by simp [intOf];omega⟩
         rw [HSN.out,List.length_append,HOL.out]
         congr 1
         omega
        ·have HIB:=hid (HWF.out (HBAD.out k hlt (by rw [HI1.out,hsp,decide_eq_false hle];rfl)))
         have k2:decide ((obj.length:Int) < ps[k].2.2)=true:=decide_eq_true (by omega)
         rw [hsp] at HSR
         clear ht hsp hft hft2 htl
         go_wp2_with (go_at_call 41;refine (HSR.out _).mono ?_;rintro e w3 ⟨rfl,hg3⟩)
         go_ret2
         rw [HIB.out]
         exact ⟨none,0,rfl,Gr.tr HG1.out (Gr.tr hG hg3),Byts.nil _⟩
     ·have kt:ps[k].1.isEmpty=false:=by simpa using ht
      have HI1:=hid (gIn1_text (obj:=obj) ht)
      rw [if_neg ht] at HSN hft2
      clear ht
      go_wp2_with fail
      refine ⟨⟨k+1,by omega,by go_num,hG,gIn_succ hlt HE.out HI1.out,?_⟩,by simp [intOf];omega⟩
      rw [HSN.out,List.length_append]
      congr 1
    ·have he:ps.take k=ps:=List.take_of_length_le (by omega)
     rw [he] at HE ⊢
     rw [HE.out] at HWO
     have HIN:=hid (gIn_obj HE.out)
     have hcm:(sz != ((fillL obj ps).length:Int))=(((fillL obj ps).length:Int) != sz):=bne_comm
     rw [hcm] at HWO
     clear HBAD HWF hft HE hcm he
     go_upto_region 13 with fail
     go_cut [62] (fun s62 wx=>s62=.bool (!wok)∧Gr wr wx)
     case first=>
      cases hbd:bodB st with
      | false=>
        rw [hbd] at HWO HBD
        clear HHD HBO HEN hbd
        go_wp2_with (go_at_call 86;refine (HBD.out _).mono ?_;rintro e w4 ⟨rfl,hg4⟩)
        go_meet
        exact ⟨by rw [HWO.out];rfl,hg4⟩
      | true=>
        rw [hbd] at HWO HBD
        clear HHD HBO HEN hbd
        by_cases hq:sz= -1
        ·have k0:(sz != -1)=false:=by simp [hq]
         rw [decide_eq_false (show ¬0≤sz from by omega)] at HWO
         clear hq
         go_wp2_with (go_at_call 86;refine (HBD.out _).mono ?_;rintro e w4 ⟨rfl,hg4⟩;have hg14:=Gr.tr hG hg4)
         go_meet
         exact ⟨by rw [HWO.out];rfl,hg4⟩
        ·have k0:(sz != -1)=true:=by simpa using hq
         rw [decide_eq_true (show 0≤sz from by omega)] at HWO
         clear hq
         cases k1:(((fillL obj ps).length:Int) != sz) with
         | false=>
           rw [k1] at HWO
           go_wp2_with (go_at_call 86;refine (HBD.out _).mono ?_;rintro e w4 ⟨rfl,hg4⟩;have hg14:=Gr.tr hG hg4)
           go_meet
           exact ⟨by rw [HWO.out];rfl,hg4⟩
         | true=>
           rw [k1] at HWO
           go_wp2_with (go_at_call 86;refine (HBD.out _).mono ?_;rintro e w4 ⟨rfl,hg4⟩;have hg14:=Gr.tr hG hg4)
           go_meet
           exact ⟨by rw [HWO.out];rfl,hg4⟩
     case rest=>
      obtain ⟨rfl,hgc⟩:=hcut
      have hg3:=Gr.tr hG hgc
      clear HWO hgc hG
      cases wok with
      | false=>
        have HX:=hid (show WR=([],1) from by rw [HWR.out];rfl)
        clear HHD HBO HEN HBD
        go_wp2_with fail
        go_ret2
        rw [HX.out]
        exact ⟨none,0,rfl,Gr.tr HG1.out hg3,Byts.nil _⟩
      | true=>
        obtain ⟨H1,H2⟩:=HR
        simp only at HWR HHD
        go_upto_region 16 with (go_at_call 87;refine (HHD.out _ (Gr.tr HG1.out hg3)).mono ?_;rintro e w5 ⟨A8,c8,rfl,hg5,hM⟩;have HM:=hid hM;clear hM)
        have hg15:=Gr.tr hg3 hg5
        have HGW:=hid (Gr.tr HG1.out hg3)
        have HG5:=hid hg5
        clear HHD hg5
        rcases Nat.eq_zero_or_pos H2 with hz | hz
        ·subst hz
         have hM:OwnM wc w5 (.slice A8 H1.length c8) H1:=by
          rcases HM.out with h | ⟨h,_⟩
          ·exact h.2
          ·exact absurd rfl h
         have HMO:=hid hM
         clear hM
         cases hbd:bodB st with
         | false=>
           have HX:=hid (show WR=(H1,0) from by rw [HWR.out,hbd];rfl)
           rw [hbd] at HBD
           clear hbd HWR HBO HEN
           go_wp2_with (go_at_call 86;refine (HBD.out _).mono ?_;rintro e w6 ⟨rfl,hg6⟩)
           go_ret2
           rw [HX.out]
           exact ⟨A8,c8,rfl,Gr.tr HGW.out (Gr.tr HG5.out hg6),(HMO.out.gr hg6).byts⟩
         | true=>
           have HX:=hid (show WR=(H1++gBody sz (fillL obj ps)++gEnd sz true,0) from by rw [HWR.out,hbd];rfl)
           rw [hbd] at HBD
           clear hbd HWR
           have HLB:=hid (show H1.length+(gBody sz (fillL obj ps)).length≤1000000000 from by have:=gBody_le sz (fillL obj ps) hlen;have:=HHL.out;omega)
           have HLE:=hid (show (H1++gBody sz (fillL obj ps)).length+(gEnd sz true).length≤1000000000 from by have:=gBody_le sz (fillL obj ps) hlen;have:=HHL.out;have:=gEnd_le sz true;rw [List.length_append];omega)
           clear HHL
           go_wp2_with (first
            | (go_at_call 86;refine (HBD.out _).mono ?_;rintro e w6 ⟨rfl,hg6⟩;have hg16:=Gr.tr hg15 hg6)
            | (at_make;refine wpList_mk0 (W0:=w6) (fillL obj ps).length elemByte rfl _ _ rfl rfl rfl rfl ?_ ?_ (Nat.le_refl _) ?_;omega;omega;intro w7 hown7 hg7;have HO7:=hid hown7;have hg17:=Gr.tr hg16 hg7;clear hown7))
           have HMO:=hid (HMO.out.gr hg6)
           have HG6:=hid (Gr.tr HG5.out hg6)
           clear HBD HG5
           go_loopw [11,13,82] (fun v x13 i wr=>∃k:Nat,k≤ps.length∧i=.int .i64 k∧Gr w6 wr∧Own w6 wr 5 1 v (fillL obj (ps.take k)).length ((fillL obj (ps.take k)).map byt)) (fun _ _ i _=>ps.length-(intOf i).toNat)
           case atStart=>exact ⟨0,Nat.zero_le _,rfl,hg7,HO7.out⟩
           case round=>
            obtain ⟨k,hk,rfl,hG,hO⟩:=hrel
            obtain ⟨A7,c7,hrow⟩:=hO.form
            subst hrow
            have HOW:=hid hO
            clear hO HO7
            have hft:=fillL_take obj ps k
            have hgz:=Gr.tr hg16 hG
            by_cases hlt:k < ps.length
            ·obtain ⟨b1,o1,rfl,hb1,p0,p1,p2⟩:=HA.out k hlt
             have hgx:=Gr.tr HG1.out hgz
             have p0:=Gr.cell hgx p0;have p1:=Gr.cell hgx p1;have p2:=Gr.cell hgx p2
             have hft2:=fillL_take obj ps (k+1)
             have hsn:fillL obj (ps.take (k+1))=fillL obj (ps.take k)++(if ps[k].1=[] then objL obj ps[k].2 else ps[k].1):=by
              rw [List.take_succ_eq_append_getElem hlt,fillL_snoc]
             have htl:=HTX.out _ (List.getElem_mem hlt)
             have HSN:=hid hsn
             rw [hsn,List.length_append] at hft2
             clear hsn HBO HEN
             go_upto_region 22 with fail
             have hbp:=Bk.new wr 51 #[str ps[k].1,.int .i64 ps[k].2.1,.int .i64 ps[k].2.2] (0,0)
             have hGb:=Gr.al (Gr.refl wr) (Obj.cells #[str ps[k].1,.int .i64 ps[k].2.1,.int .i64 ps[k].2.2] 51)
             have HOB:=hid (HOW.out.gr hGb)
             have hG:=Gr.tr hG hGb
             have HBX:=hid (HO.out.gr (Gr.tr hgx hGb))
             generalize wr.alloc (Obj.cells #[str ps[k].1,.int .i64 ps[k].2.1,.int .i64 ps[k].2.2] 51)=wb at *
             generalize wr.heap.size=gb at *
             have y0:wb.cell? ⟨gb,0,none⟩=some (str ps[k].1):=hbp.cell 0
             have y1:wb.cell? ⟨gb,1,none⟩=some (.int .i64 ps[k].2.1):=hbp.cell 1
             have y2:wb.cell? ⟨gb,2,none⟩=some (.int .i64 ps[k].2.2):=hbp.cell 2
             clear hbp hGb HOW p0 p1 p2 hgx hgz
             by_cases ht:ps[k].1=[]
             ·have kt:ps[k].1.isEmpty=true:=by rw [ht];rfl
              obtain ⟨i0,i1,i2⟩:=HIN.out _ (List.getElem_mem hlt) ht
              rw [if_pos ht] at HSN hft2
              have hol:(objL obj ps[k].2).length=(ps[k].2.2-ps[k].2.1).toNat:=by unfold objL;rw [List.length_take,List.length_drop];omega
              rw [hol] at hft2
              have HOL:=hid hol
              clear ht hol
              go_wp2_with (first
               | (refine wpList_slLH _ _ _ rfl rfl rfl rfl rfl HBX.out ?_ ?_ ?_ ?_;omega;omega;omega;intro A4 hA4;have HA4:=hid hA4;clear hA4)
               | (at_builtin;refine wpList_appS (W0:=w6) (n:=(fillL obj (ps.take k)).length) (m:=(ps[k].2.2.toNat-ps[k].2.1.toNat)) (news:=((obj.drop ps[k].2.1.toNat).take (ps[k].2.2.toNat-ps[k].2.1.toNat)).map byt) elemByte rfl _ _ rfl rfl rfl hG.size HOB.out ?_ ?_ (one_byt _) ?_ (by decide) ?_;exact sl_of HA4.out (by rw [List.length_take,List.length_drop];omega);rw [List.length_map,List.length_take,List.length_drop];omega;omega;intro v8 w8 hown8 happ8))
              have hG8:=happ8.gr hG HOB.out
              refine ⟨⟨k+1,by omega,by go_num,hG8,?_⟩,by simp [intOf];omega⟩
              have he:objL obj ps[k].2=(obj.drop ps[k].2.1.toNat).take (ps[k].2.2.toNat-ps[k].2.1.toNat):=by unfold objL;congr 1;omega
              rw [HSN.out,List.length_append,HOL.out,List.map_append,he,show (ps[k].2.2-ps[k].2.1).toNat=ps[k].2.2.toNat-ps[k].2.1.toNat from by omega]
              exact hown8
             ·have kt:ps[k].1.isEmpty=false:=by simpa using ht
              rw [if_neg ht] at HSN hft2
              clear ht
              go_wp2_with (at_builtin;refine wpList_appT (W0:=w6) rfl _ _ rfl rfl rfl hG.size HOB.out ?_ ?_;omega;intro v8 w8 hown8 hgr8)
              have hG8:=gr_append hG HOB.out hgr8
              refine ⟨⟨k+1,by omega,by go_num,hG8,?_⟩,by simp [intOf];omega⟩
              rw [HSN.out,List.length_append,List.map_append]
              exact hown8
            ·have he:ps.take k=ps:=List.take_of_length_le (by omega)
             rw [he] at HOW ⊢
             clear hft HIN HTX HA HO he
             have HBC:=hid (fun (x:World) (v:Value) (g:Gr w x) (h:Byts x v (fillL obj ps))=>HBO.out (fillL obj ps) v x g h hlen)
             have HBY:=hid (own_byts HOW.out)
             have hgcq:=Gr.tr HG6.out hG
             go_wp2_with (first
              | (go_at_call 88;refine (HBC.out _ _ (Gr.tr HG1.out hgz) HBY.out).mono ?_;rintro e w9 ⟨A9,c9,rfl,hB9,hg9⟩;have HB9:=hid hB9;have HMO9:=hid (HMO.out.gr (Gr.tr hG hg9));have hgc9:=Gr.tr hgcq hg9;have hg19:=Gr.tr hg3 hgc9;clear hB9)
              | (at_builtin;refine wpList_appM (W0:=wc) (l:=H1) (y:=gBody sz (fillL obj ps)) rfl _ _ rfl rfl rfl hgc9 HMO9.out HB9.out HLB.out ?_;intro A10 c10 n10 w10 hn10 hM10 hgc10;clear hn10 HMO9;have HM10:=hid hM10;clear hM10;have hg110:=Gr.tr hg3 hgc10)
              | (go_at_call 89;refine (HEN.out _).mono ?_;rintro e w11 ⟨A11,c11,rfl,hB11,hg11⟩;have HB11:=hid hB11;have HM11:=hid (HM10.out.gr hg11);have hgc11:=Gr.tr hgc10 hg11;clear hB11)
              | (at_builtin;refine wpList_appM (W0:=wc) (l:=H1++gBody sz (fillL obj ps)) (y:=gEnd sz true) rfl _ _ rfl rfl rfl hgc11 HM11.out HB11.out HLE.out ?_;intro A12 c12 n12 w12 hn12 hM12 hgc12;have HN12:=hid hn12;have HM12:=hid hM12;clear hn12 hM12))
             go_ret2
             rw [HX.out]
             exact ⟨A12,c12,by rw [←HN12.out];rfl,Gr.tr HGW.out hgc12,by rw [←HN12.out];exact HM12.out.byts⟩
        ·have hne:((H2:Int) != 0)=true:=by simp;omega
         have HNZ:=hid (show H2≠0 from by omega)
         have HX:=hid (show WR=(H1,H2) from by rw [HWR.out,if_pos trivial,if_neg (fun h=>HNZ.out h.1)])
         clear HWR HBO HEN
         go_wp2_with fail
         go_ret2
         rw [HX.out]
         exact WEnd.of HGW.out HG5.out HM.out
end Go.Proofs.YtflepnkpihfidaaGreatDoor
