/- Layer 16's law on answers that are cut off: the walk. Conditions: the library's own variables hold what their types allow; lengths that memory holds. -/
import Derived.Test.YtgfckbhkgggkeaaGreatDoorJClC
import Derived.Test.YtgfckbhkgggkeaaGreatDoorJClE
set_option linter.unusedVariables false
set_option linter.unusedSimpArgs false
namespace Go.Proofs.YtgfckbhkgggkeaaGreatDoor.lkshort
open Lib (hid)
open Go.RowKit
theorem now_sz (asked l:List UInt8):(nowL asked l).sz≤l.length:=by
 have:=fold_sz asked l (.head [])
 simpa [ClS.sz,nowL] using this
theorem wp_region_all {P:Program} {Q:Exit→Act→World→Prop} {id:Nat} {a:Act} {w:World} {l:List Oper} (idx:List Nat) (hd:pickOps l idx=l) (hm:P.follows .mixedOrders=true) (hn:l.toArray.size=idx.length+0) (hB:mixB .any l.toArray idx=true)
  (hQ:∀(o:Option Tmp) (v:Value) c a w,Q (.panic c) (a.put o v) w→Q (.panic c) a w)
  (h:wpGq P l.toArray w none (fun a'=>wpG P .any l.toArray Q w none 0 (mixAt idx (Array.replicate l.toArray.size false)) a' w) l a):Code.wp P (.region id l.toArray true) Q a w:=
 wp_region_mix idx none 0 hm hn hB hQ (by rw [hd];exact h)
theorem begins_lists {a b:List ((Int×Int)×List UInt8)} (h:Begins a b) {A1 B1:List (Int×Int)} {A2 B2:List (List UInt8)} (e1:A1=a.map (·.1)) (e2:A2=a.map (·.2)) (e3:B1=b.map (·.1)) (e4:B2=b.map (·.2)):A1.length≤B1.length∧A1.length=A2.length∧B1.length=B2.length∧
  ∀(k:Nat) (h1:k < A1.length) (h2:k < B1.length) (h3:k < A2.length) (h4:k < B2.length),A1[k].1=B1[k].1∧A2[k].length≤B2[k].length∧A2[k]=B2[k].take A2[k].length:=by
 subst e1 e2 e3 e4
 refine ⟨by simpa using h.1,by simp,by simp,fun k h1 h2 h3 h4=>?_⟩
 have h5:=h.2 k (by simpa using h1) (by simpa using h2)
 simp only [List.getElem_map]
 exact h5
theorem byts_cut {w:World} {A:Option Addr} {n c:Nat} {l:List UInt8} (h:Byts w (.slice A n c) l) (k:Nat) (hk:k≤l.length):Byts w (.slice A k c) (l.take k):=by
 obtain ⟨A',c',e,hc,hm,ho⟩:=h
 obtain ⟨rfl,rfl,rfl⟩:A=A'∧n=l.length∧c=c':=by simpa using e
 refine ⟨A,c,by rw [List.length_take,Nat.min_eq_left hk],by rw [List.length_take];omega,by rw [List.length_take];omega,?_⟩
 rcases ho with ho | ⟨b,o,hA,hb,hj⟩
 ·left;rw [List.map_take,ho,List.take_nil]
 ·exact .inr ⟨b,o,hA,hb,fun j u hu=>hj j u (by rw [List.map_take,List.getElem?_take] at hu;split at hu;exact hu;cases hu)⟩
set_option maxHeartbeats 32000000 in
set_option maxRecDepth 100000 in
theorem walk (q:ReqT) (vs vm vn:Value) (u:Value) (l:List UInt8) (ct:Int) (w:World) (hv:Vars w) (ha:ReqA w q vs vm vn) (hl:ReqLow q) (hy:Byts w u l) (hct:0≤ct∧ct≤65535) :
  Calls Tryz.prog 3 #[reqV q vs vm vn,u,.int .u16 ct] w fun e w'=>e=.returned (.bool true)∧Gr w w':=by
 obtain ⟨hc0,hc1⟩:=hct
 obtain ⟨Au,cu,rfl,hcu,hmu,-⟩:=id hy.open
 have HFW:=hid (fun (x:World) (g:Gr w x)=>refFew16_any q vs vm vn x (ha.gr g) hl)
 have HRT:=hid (fun (x:World) (g:Gr w x) (h1:q.2.2.2.mt.length≤1000000) (h2:q.2.2.2.no.length≤1000000)=>refRight16_any q vs vm vn x (ha.gr g) hl h1 h2)
 have HNW:=hid (fun (hf:fewC q=true) (hr:reqC q=true) (x:World) (g:Gr w x)=>newQ_any w x g q vs vm vn (ha.gr g) hl hf hr)
 have HLN:=hid (show fewC q=true→q.2.2.2.mt.length≤1000000∧q.2.2.2.no.length≤1000000 from fun h=>by
  unfold fewC at h
  simp only [Bool.and_eq_true] at h
  have:=fewB_iff.1 h.2
  omega)
 have HAW:=hid (fun (x:World) (g:Gr w x)=>awake16_any x (hv.gr g))
 have HY:=hid hy
 have HV:=hid hv
 obtain ⟨hs,hm,hn⟩:=ha
 obtain ⟨A1,a1,rfl,_,_,_⟩:=id hs.open
 obtain ⟨A2,a2,rfl,_,_,_⟩:=id hm.open
 obtain ⟨A3,a3,rfl,_,_,_⟩:=id hn.open
 generalize fewC q=F at *
 generalize reqC q=R at *
 obtain ⟨hd,o,ls,mt,no,am,an,si,un,rx,rk⟩:=q
 clear hs hm hn hl hv hy
 unfold reqV at *
 simp only at *
 generalize hask:(if hd then headB else getB)=asked at *
 have HASK:=hid hask.symm
 clear hask
 have hbr:=Bk.new w 29 #[.bool hd,str o,.slice A1 ls.length a1,.slice A2 mt.length a2,.slice A3 no.length a3,.bool am,.bool an,.int .i64 si,.int .i64 un,str rx,.bool rk] (0,0)
 have hG0:=Gr.al (Gr.refl w) (Obj.cells #[.bool hd,str o,.slice A1 ls.length a1,.slice A2 mt.length a2,.slice A3 no.length a3,.bool am,.bool an,.int .i64 si,.int .i64 un,str rx,.bool rk] 29)
 go_enter Tryz.func3,Tryz.ntmps3
 go_upto_region 1 with fail
 generalize w.alloc (Obj.cells #[.bool hd,str o,.slice A1 ls.length a1,.slice A2 mt.length a2,.slice A3 no.length a3,.bool am,.bool an,.int .i64 si,.int .i64 un,str rx,.bool rk] 29)=w0 at *
 generalize w.heap.size=g at *
 have r0:∀x,Gr w0 x→x.cell? ⟨g,0,none⟩=some (.bool hd):=fun x h=>(hbr.gr h).cell 0
 have r1:∀x,Gr w0 x→x.cell? ⟨g,1,none⟩=some (str o):=fun x h=>(hbr.gr h).cell 1
 have r2:∀x,Gr w0 x→x.cell? ⟨g,2,none⟩=some (.slice A1 ls.length a1):=fun x h=>(hbr.gr h).cell 2
 have r3:∀x,Gr w0 x→x.cell? ⟨g,3,none⟩=some (.slice A2 mt.length a2):=fun x h=>(hbr.gr h).cell 3
 have r4:∀x,Gr w0 x→x.cell? ⟨g,4,none⟩=some (.slice A3 no.length a3):=fun x h=>(hbr.gr h).cell 4
 have r5:∀x,Gr w0 x→x.cell? ⟨g,5,none⟩=some (.bool am):=fun x h=>(hbr.gr h).cell 5
 have r6:∀x,Gr w0 x→x.cell? ⟨g,6,none⟩=some (.bool an):=fun x h=>(hbr.gr h).cell 6
 have r7:∀x,Gr w0 x→x.cell? ⟨g,7,none⟩=some (.int .i64 si):=fun x h=>(hbr.gr h).cell 7
 have r8:∀x,Gr w0 x→x.cell? ⟨g,8,none⟩=some (.int .i64 un):=fun x h=>(hbr.gr h).cell 8
 have r9:∀x,Gr w0 x→x.cell? ⟨g,9,none⟩=some (str rx):=fun x h=>(hbr.gr h).cell 9
 have r10:∀x,Gr w0 x→x.cell? ⟨g,10,none⟩=some (.bool rk):=fun x h=>(hbr.gr h).cell 10
 have h00:Gr w0 w0:=Gr.refl w0
 have HG0:=hid hG0
 clear hbr hG0
 by_cases k1:500 < l.length
 ·have d1:decide (500 < (l.length:Int))=true:=decide_eq_true (by omega)
  go_wp2_with (go_at_call 7;refine (HAW.out _ HG0.out).mono ?_;rintro e w2 ⟨rfl,hg2⟩)
  go_ret
  exact ⟨rfl,Gr.tr HG0.out hg2⟩
 have d1:decide (500 < (l.length:Int))=false:=decide_eq_false (by omega)
 have hl5:l.length≤500:=by omega
 clear k1
 by_cases k2:l.length=0
 case pos=>
  have dl0:((l.length:Int)==0)=true:=by simp [k2]
  go_wp2_with ((go_at_call 7;refine (HAW.out _ HG0.out).mono ?_;rintro e wz ⟨rfl,hgz⟩))
  go_ret
  exact ⟨rfl,Gr.tr HG0.out hgz⟩
 have dl0:((l.length:Int)==0)=false:=by rw [beq_eq_false_iff_ne];omega
 cases F with
 | false=>
   go_wp2_with (first | (go_at_call 5;refine (HFW.out _ HG0.out).mono ?_;rintro e w1 ⟨rfl,h01⟩;have HG1:=hid (Gr.tr HG0.out h01)) | (go_at_call 7;refine (HAW.out _ HG1.out).mono ?_;rintro e wz ⟨rfl,hgz⟩))
   go_ret
   exact ⟨rfl,Gr.tr HG1.out hgz⟩
 | true=>
   obtain ⟨l1,l2⟩:=HLN.out rfl
   clear HLN
   cases R with
   | false=>
     go_wp2_with (first | (go_at_call 5;refine (HFW.out _ HG0.out).mono ?_;rintro e w1 ⟨rfl,h01⟩;have HG1:=hid (Gr.tr HG0.out h01)) | (go_at_call 6;refine (HRT.out _ HG1.out l1 l2).mono ?_;rintro e w2 ⟨rfl,hg2⟩;have HG2:=hid (Gr.tr HG1.out hg2)) | (go_at_call 7;refine (HAW.out _ HG2.out).mono ?_;rintro e wz ⟨rfl,hgz⟩))
     go_ret
     exact ⟨rfl,Gr.tr HG2.out hgz⟩
   | true=>
     have HNQ:=hid (HNW.out rfl rfl)
     clear HNW
     go_upto_region 3 with (first | (go_at_call 5;refine (HFW.out _ HG0.out).mono ?_;rintro e w1 ⟨rfl,h01⟩;have HG1:=hid (Gr.tr HG0.out h01)) | (go_at_call 6;refine (HRT.out _ HG1.out l1 l2).mono ?_;rintro e w2 ⟨rfl,hg2⟩;have h02:=Gr.tr h01 hg2))
     have HG2:=hid (Gr.tr HG0.out h02)
     clear h01 hg2 HG1 HFW HRT
     have hts:=(HY.out.gr HG2.out).toStr
     have HNO:=hid (now16_any hd asked HASK.out o rx A1 A2 A3 ls.length a1 mt.length a2 no.length a3 am an rk si un l w2 (by omega))
     go_upto_region 4 with (go_at_call 8;refine HNO.out.mono ?_;rintro e w3 ⟨hg3,gxp,Sx,rfl,hX3⟩)
     clear hts HNO
     have h03:=Gr.tr h02 hg3
     have HG3:=hid (Gr.tr HG0.out h03)
     have HX3:=hid hX3
     have HSL:=hid (fun (h:ClH) (fr:FrT) (b:List UInt8) (K:Nat) (hs:nowL asked l=.body h fr b) (h3:h.kind≠3) (he:endBody h fr b=0) (hk:K < l.length)=>short_law asked hs h3 he hk)
     have HSZ:=hid (now_sz asked l)
     clear hX3
     obtain ⟨FF,hFF⟩:∃FF,nowL asked l=FF:=⟨_,rfl⟩
     rw [hFF] at HX3 HSZ HSL
     clear hFF
     cases FF with
     | head raw=>
       have z0:w3.cell? ⟨gxp,0,none⟩=some (.int .i64 0):=Bk.cell HX3.out.at_ 0
       have z1:w3.cell? ⟨gxp,1,none⟩=some (.int .i64 0):=Bk.cell HX3.out.at_ 1
       go_wp2_with ((go_at_call 7;refine (HAW.out _ HG3.out).mono ?_;rintro e wz ⟨rfl,hgz⟩))
       go_ret
       exact ⟨rfl,Gr.tr HG3.out hgz⟩
     | bad0=>
       have z0:w3.cell? ⟨gxp,0,none⟩=some (.int .i64 2):=by obtain ⟨_,_,_,_,_,_,_,_,_,_,_,_,_,h2⟩:=HX3.out.at_;exact h2.cell 0
       go_wp2_with ((go_at_call 7;refine (HAW.out _ HG3.out).mono ?_;rintro e wz ⟨rfl,hgz⟩))
       go_ret
       exact ⟨rfl,Gr.tr HG3.out hgz⟩
     | bad1 h b=>
       have z0:w3.cell? ⟨gxp,0,none⟩=some (.int .i64 2):=by obtain ⟨_,_,_,_,_,_,h2⟩:=HX3.out.at_;exact h2.bk.cell 0
       go_wp2_with ((go_at_call 7;refine (HAW.out _ HG3.out).mono ?_;rintro e wz ⟨rfl,hgz⟩))
       go_ret
       exact ⟨rfl,Gr.tr HG3.out hgz⟩
     | body h fr b=>
       have z0:w3.cell? ⟨gxp,0,none⟩=some (.int .i64 0):=by obtain ⟨_,_,_,_,_,h2,_⟩:=HX3.out.at_;exact h2.bk.cell 0
       have z1:w3.cell? ⟨gxp,1,none⟩=some (.int .i64 1):=by obtain ⟨_,_,_,_,_,h2,_⟩:=HX3.out.at_;exact h2.bk.cell 1
       have z6:w3.cell? ⟨gxp,6,none⟩=some (.int .i64 (h.kind:Nat)):=by obtain ⟨_,_,_,_,_,h2,_⟩:=HX3.out.at_;exact h2.bk.cell 6
       by_cases hk3:h.kind=3
       case pos=>
        have d3:(((h.kind:Nat):Int)==3)=true:=by simp;omega
        go_wp2_with ((go_at_call 7;refine (HAW.out _ HG3.out).mono ?_;rintro e wz ⟨rfl,hgz⟩))
        go_ret
        exact ⟨rfl,Gr.tr HG3.out hgz⟩
       have d3:(((h.kind:Nat):Int)==3)=false:=by simp;omega
       have hbl:b.length≤500:=Nat.le_trans (show b.length≤l.length from HSZ.out) hl5
       have HEX:=hid (end16_any HX3.out rfl (show b.length≤60000 by omega))
       have HLX:=hid (fun (x:World) (hP:Stp w3 Sx x Sx)=>(show Gr w2 x from hP.old hg3 HX3.out.lo))
       by_cases hE:endBody h fr b=0
       case neg=>
        have HEX:=hid (show Calls Tryz.prog 9 #[.pointer (some ⟨gxp,0,none⟩)] w3 (fun e w'=>e=.returned (.int .i64 (endBody h fr b:Nat))∧Gr w2 w') from HEX.out.mono (fun e w' hh=>⟨hh.1,HLX.out _ hh.2.2⟩))
        have dE:(((endBody h fr b:Nat):Int) != 0)=true:=by simp;omega
        generalize endBody h fr b=EB at *
        clear hE HSL HX3 HLX hg3
        go_wp2_with (first | (go_at_call 9;refine HEX.out.mono ?_;rintro e w4 ⟨rfl,hg4⟩;have HG4:=hid (Gr.tr HG2.out hg4)) | (go_at_call 7;refine (HAW.out _ HG4.out).mono ?_;rintro e wz ⟨rfl,hgz⟩))
        go_ret
        exact ⟨rfl,Gr.tr HG4.out hgz⟩
       have HSH:=hid (fun (K:Nat) (hk:K < l.length)=>HSL.out h fr b K rfl hk3 hE hk)
       have HEX2:=hid (show Calls Tryz.prog 9 #[.pointer (some ⟨gxp,0,none⟩)] w3 (fun e w'=>e=.returned (.int .i64 0)∧RdR w2 w' gxp Sx true (.body h fr b)∧Gr w2 w') from HEX.out.mono (fun e w' hh=>⟨by rw [hh.1];show Ending.returned (Value.int .i64 ((endBody h fr b:Nat):Int))=_;rw [hE];rfl,hh.2.1,HLX.out _ hh.2.2⟩))
       clear hE hk3 HSL HX3 HLX hg3 HEX h03
       go_upto_region 6 with (go_at_call 9;refine HEX2.out.mono ?_;rintro e w4 ⟨rfl,hX4,hg4⟩)
       have h04:=Gr.tr h02 hg4
       have HG4:=hid (Gr.tr HG0.out h04)
       have HX4:=hid hX4
       clear hX4 hg4 HEX2 z0 z1 z6 d3 HG3 HG2 h02
       go_upto_region 9 with (go_at_call 10;refine (HNQ.out _ HG4.out).mono ?_;rintro e w5 ⟨hg5,ga,rfl,hRa,hga⟩)
       have HG5:=hid (Gr.tr HG4.out hg5)
       have HRa:=hid hRa
       have HX5:=hid (HX4.out.gr hg5)
       have HDJ:=hid (show ∀b∈Sx,b∉[ga] from fun j hj hj2=>by have e1:j=ga:=(by simpa using hj2);have h1:=HX4.out.hi j hj;omega)
       clear hRa hga hg5 h04 HNQ HX4 HG4 h00 r0 r1 r2 r3 r4 r5 r6 r7 r8 r9 r10
       have hk0:0≤ct % (l.length:Int):=Int.emod_nonneg _ (by omega)
       have hk1:ct % (l.length:Int) < (l.length:Int):=Int.emod_lt_of_pos _ (by omega)
       obtain ⟨K,hKe⟩:∃K:Nat,(ct % (l.length:Int)).toNat=K:=⟨_,rfl⟩
       have HKE:=hid hKe
       have HKL:=hid (show K < l.length by omega)
       obtain ⟨hw0,he0,hbeg⟩:=HSH.out K (by omega)
       have HW0:=hid hw0
       have HE0:=hid he0
       have HBG:=hid hbeg
       clear hw0 he0 hbeg HSH hKe
       have HSK:=hid (show (nowL asked (l.take K)).sz≤500 from by have h1:=now_sz asked (l.take K);rw [List.length_take] at h1;omega)
       have HNK:=hid (show (l.take K).foldl (clByte asked) (.head [])=nowL asked (l.take K) from rfl)
       go_upto_region 10 with (first
        | (refine slArgHi (W:=w) (l:=l) (k:=ct % (l.length:Int)) _ _ rfl rfl rfl rfl HY.out hk0 (by omega) ?_;intro A6 hA6;rw [HKE.out] at hA6 ⊢;have HTK:=hid (take_arg HRa.out HG5.out HV.out (Gr.refl w) hA6 (by simp [ClS.sz];omega));rw [HNK.out] at HTK;clear hA6)
        | (go_at_call 11;refine HTK.out.mono ?_;rintro e w6 ⟨he,S6,hR6,hP6⟩;rw [HW0.out] at he;have he:e=.returned (.int .i64 0):=he;subst he))
       generalize nowL asked (l.take K)=FK at *
       have HP6:=hid hP6
       have HG6:=hid (hP6.old HG5.out HRa.out.lo)
       have HE1:=hid (end_any w w6 ga S6 asked FK hR6 HG6.out HV.out (by have:=HSK.out;omega))
       clear hR6 hP6 HTK HRa hk0 hk1 HKE HNK
       have HE2:=hid (show Calls Tryz.prog 12 #[.pointer (some ⟨ga,0,none⟩)] w6 (fun e w'=>e=.returned (.int .i64 13)∧ClR w w' ga S6 asked (!FK.wrong) false FK∧Stp w6 S6 w' S6) from HE1.out.mono (fun e w' hh=>⟨by rw [hh.1,HE0.out];rfl,by have h2:=hh.2.1;rw [HE0.out] at h2;exact h2,hh.2.2⟩))
       clear HE1
       go_upto_region 12 with (first
        | (go_at_call 12;refine HE2.out.mono ?_;rintro e w7 ⟨rfl,hR7,hP7⟩;have HR7:=hid hR7;have HP7:=hid (HP6.out.tr hP7);have HW7:=hid (whole_any hR7);clear hR7 hP7 HE2)
        | (go_at_call 13;refine HW7.out.mono ?_;rintro e w8 ⟨rfl,hg8⟩))
       have HG8:=hid (HP7.out.gr hg8 |>.old HG5.out (fun j hj=>by have e1:j=ga:=(by simpa using hj);have h1:=HR7.out.lo j (by rw [e1];exact HR7.out.g);exact h1))
       have HX8:=hid (HX5.out.stp (HP7.out.gr hg8) HDJ.out)
       have HBA:=hid (bytes_any (HR7.out.gr hg8) (HV.out.gr HG8.out) (by have:=HSK.out;omega))
       obtain ⟨wr9,dn9,m9,t9,fv9,fp9,bv9,b9,hRB,hcame,hinv,hlen⟩:=HX8.out.hdYes rfl
       have HB9:=hid (fun (x:World) (hx:Gr w8 x)=>bytes16_any (hRB.gr HX8.out.g HX8.out.hi hx) hinv (by have h1:b9.length=b.length:=hlen;omega))
       have HCM:=hid (show clBytes h b9=clBytes h b from hcame.symm)
       clear hRB hcame hinv hlen hg8 HP7 HP6 HR7 HX5 HDJ HW7 HG5 HG6 HW0 HX8
       go_upto_region 13 with (go_at_call 14;refine HBA.out.mono ?_;rintro e w9 ⟨hg9,v1,v2,rfl,hs1,hs2⟩)
       go_upto_region 14 with (go_at_call 15;refine (HB9.out _ hg9).mono ?_;rintro e w10 ⟨hg10,v3,v4,rfl,hs3,hs4⟩)
       rw [HCM.out] at hs3 hs4
       have hs1:=hs1.gr hg10
       have hs2:=hs2.gr hg10
       obtain ⟨P1,hp1⟩:∃l,l=FK.came.map (·.1):=⟨_,rfl⟩
       obtain ⟨P2,hp2⟩:∃l,l=FK.came.map (·.2):=⟨_,rfl⟩
       obtain ⟨P3,hp3⟩:∃l,l=(clBytes h b).map (·.1):=⟨_,rfl⟩
       obtain ⟨P4,hp4⟩:∃l,l=(clBytes h b).map (·.2):=⟨_,rfl⟩
       have HBL:=hid (begins_lists HBG.out hp1 hp2 hp3 hp4)
       rw [←hp1] at hs1;rw [←hp2] at hs2;rw [←hp3] at hs3;rw [←hp4] at hs4
       clear hp1 hp2 hp3 hp4 HBG HCM HB9 HBA
       have HG10:=hid (Gr.tr HG8.out (Gr.tr hg9 hg10))
       clear hg9 hg10 HG8
       obtain ⟨B1,e1,rfl,-,m1,ho1⟩:=id hs1.open
       obtain ⟨B2,e2,rfl,-,m2,ho2⟩:=id hs2.open
       obtain ⟨B3,e3,rfl,-,m3,ho3⟩:=id hs3.open
       obtain ⟨B4,e4,rfl,-,m4,ho4⟩:=id hs4.open
       have HO1:=hid ho1
       have HO2:=hid ho2
       have HO3:=hid ho3
       have HO4:=hid ho4
       obtain ⟨hle,hl2,hl4,hall⟩:=HBL.out
       have HALL:=hid hall
       have dgt:decide ((P3.length:Int) < (P1.length:Int))=false:=decide_eq_false (by omega)
       have hnlt:¬P3.length < P1.length:=by omega
       have HLE:=hid hle
       have HL2:=hid hl2
       have HL4:=hid hl4
       clear ho1 ho2 ho3 ho4 hall hle hl2 hl4 HBL hs1 hs2 hs3 hs4
       go_upto_region 17 with fail
       go_loopw [15,112] (fun x15 i wr=>∃k:Nat,k≤P1.length∧i=.int .i64 k∧Gr w10 wr) (fun _ i _=>P1.length-(intOf i).toNat)
       case atStart=>exact ⟨0,Nat.zero_le _,rfl,Gr.refl _⟩
       case round=>
        obtain ⟨k,hk,rfl,hG⟩:=hrel
        by_cases hlt:k < P1.length
        case neg=>
         have hke:k=P1.length:=by omega
         subst hke
         have HGz:=hid (Gr.tr HG10.out hG)
         go_wp2_with ((go_at_call 7;refine (HAW.out _ HGz.out).mono ?_;rintro e wz ⟨rfl,hgz⟩))
         go_ret
         exact ⟨rfl,Gr.tr HGz.out hgz⟩
        have k3:k < P3.length:=by have:=HLE.out;omega
        have k2:k < P2.length:=by have:=HL2.out;omega
        have k4:k < P4.length:=by have:=HL4.out;omega
        obtain ⟨b1,o1,rfl,-,c1,-⟩:=HO1.out k hlt
        obtain ⟨b3,o3,rfl,-,c3,-⟩:=HO3.out k k3
        obtain ⟨b2,o2,u2,rfl,c2,hy2⟩:=HO2.out k k2
        obtain ⟨b4,o4,u4,rfl,c4,hy4⟩:=HO4.out k k4
        obtain ⟨a1,a2,a3⟩:=HALL.out k hlt k3 k2 k4
        obtain ⟨A5,n5,rfl,hn5,hm5,-⟩:=id hy2.open
        obtain ⟨A6,n6,rfl,hn6,hm6,-⟩:=id hy4.open
        have HG:=hid hG
        have hgi:∀i,Gr w10 (gx wr none i):=fun i=>Gr.tr HG.out (gr_none (gx_by wr none i))
        have tS1:=fun i=>(hy2.gr (hgi i)).toStr
        have hcut:=byts_cut hy4 P2[k].length a2
        rw [←a3] at hcut
        have tS2:=fun i=>(hcut.gr (hgi i)).toStr
        have q1:=fun i=>Gr.cell (hgi i) c1
        have q2:=fun i=>Gr.cell (hgi i) c2
        have q3:=fun i=>Gr.cell (hgi i) c3
        have q4:=fun i=>Gr.cell (hgi i) c4
        rw [←a1] at q3
        have hx:P2[k].length≤n6:=Nat.le_trans a2 hn6
        have dl:decide ((P4[k].length:Int) < (P2[k].length:Int))=false:=decide_eq_false (by omega)
        have dl2:¬P4[k].length < P2[k].length:=by omega
        generalize P1[k].1=pf at *
        generalize P2[k]=p2 at *
        generalize P4[k].length=n4 at *
        clear hy2 hy4 hcut c1 c2 c3 c4 a1 a2 a3 hgi hG HALL HO1 HO2 HO3 HO4
        go_upto_region 19 with fail
        refine wp_region_all [0,1,2,3,4,5,6,7,8,9,10,11,12,13,14,15,16,17,18,19,20,21,22,23,24,25,26,27,28,29,30,31,32,33,34,35,36,37,38,39,40,41,42] (by kernel_rfl) (by kernel_rfl) rfl (by kernel_rfl) (fun o _ _ _ _ h=>by cases o <;> exact h) ?_
        repeat (first | (refine wpGq_step (fun K hK=>?_);go_simp;refine hK _ ?_;clear hK K) | (refine wpGq_step (fun K hK=>?_);go_simp;simp only [↓IntWalk.iteOmega];go_simp;refine hK _ ?_;clear hK K))
        refine wpGq_nil ?_
        refine wpG_done (by kernel_rfl) (fun wq hgq=>?_)
        go_wp2_with fail
        exact ⟨⟨k+1,by omega,by go_num,Gr.tr HG.out hgq⟩,by simp [intOf];omega⟩
end Go.Proofs.YtgfckbhkgggkeaaGreatDoor.lkshort
