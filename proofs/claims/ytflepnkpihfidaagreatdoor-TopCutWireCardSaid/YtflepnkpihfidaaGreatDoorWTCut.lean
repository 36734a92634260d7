/- The theorem TopCutWire: cut off anywhere, an answer is told to be too short: the walk. Conditions: the library's own variables hold what their types allow; lengths that memory holds. -/
import Derived.Test.YtflepnkpihfidaaGreatDoorJTopD
set_option linter.unusedVariables false
set_option linter.unusedSimpArgs false
set_option maxHeartbeats 64000000
set_option maxRecDepth 100000
namespace Go.Proofs.YtflepnkpihfidaaGreatDoor.wtcut
open Lib (hid)
open Go.RowKit
theorem walk (q:ReqT) (vs vm vn:Value) (u:Value) (obj:List UInt8) (k0 k1:Int) (w:World) (hv:Vars w) (hz:Tz w) (ha:ReqA w q vs vm vn) (hl:ReqLow q) (hy:Byts w u obj) (hk0:0≤k0∧k0≤65535) (hk1:0≤k1∧k1≤65535) :
  Calls Tryz.prog 5 #[reqV q vs vm vn,u,.agg #[.int .u16 k0,.int .u16 k1]] w fun e w'=>e=.returned (.bool true)∧Gr w w':=by
 obtain ⟨A0,c0,rfl,hc0,hm0,-⟩:=id hy.open
 obtain ⟨As,cs,rfl,-,-,-⟩:=id ha.specs.open
 obtain ⟨Am,cm,rfl,-,-,-⟩:=id ha.mt.open
 obtain ⟨An,cn,rfl,-,-,-⟩:=id ha.no.open
 have HRT:=hid (fun (x:World) (g:Gr w x)=>topRight_any q _ _ _ x (ha.gr g) hl)
 have HAL:=hid (fun (x:World) (g:Gr w x)=>topAlive_any x (hv.gr g))
 have HAN:=hid (fun (x:World) (g:Gr w x) (h:topR q=true) (h8:obj.length≤80)=>answer_any q _ _ _ _ obj k1 x (ha.gr g) hl (hy.gr g) h8 (topR_ten h).1 hk1 (hv.gr g) (hz.gr g))
 have HNW:=hid (fun (x:World) (g:Gr w x) (h:topR q=true) (hd:q.1=false)=>newT_any q _ _ _ x (ha.gr g) hl h hd)
 have HSR:=hid (fun (h:topR q=true) (hd:q.1=false) (h8:obj.length≤80)=>shape_reads (oc:=checkL q (mS obj.length)) (seed:=k1) hd (topR_ten h).1 h8)
 have HSL:=hid (fun (h8:obj.length≤80)=>shape_low (q:=q) (oc:=checkL q (mS obj.length)) (seed:=k1) h8)
 have HY:=hid hy
 have HV:=hid hv
 have HZ:=hid hz
 generalize shapeL q (mS obj.length) (checkL q (mS obj.length)) 8 k1=SL at *
 generalize topR q=R at *
 clear ha hl hy hv hz
 obtain ⟨hd,ob,sp,cd⟩:=q
 unfold reqV at *
 simp only at HRT HAN HNW HSR ⊢
 generalize Value.slice As sp.length cs=vs at *
 generalize Value.slice Am cd.mt.length cm=vm at *
 generalize Value.slice An cd.no.length cn=vn at *
 go_enter Tryz.func5,Tryz.ntmps5
 go_upto_region 1 with fail
 obtain ⟨b0,b1,hg0⟩:=two_box w #[.bool hd,str ob,vs,vm,vn,.bool cd.am,.bool cd.an,.int .i64 cd.si,.int .i64 cd.un,str cd.rg.1,.bool cd.rg.2] #[.int .u16 k0,.int .u16 k1] 29 81
 refine at_world (P:=Code.wp _ _ _ _) (w0:=(w.alloc (Obj.cells #[.bool hd,str ob,vs,vm,vn,.bool cd.am,.bool cd.an,.int .i64 cd.si,.int .i64 cd.un,str cd.rg.1,.bool cd.rg.2] 29)).alloc (Obj.cells #[.int .u16 k0,.int .u16 k1] 81)) ?_
 intro w0 hw0
 rw [←hw0] at b0 b1 hg0
 clear hw0
 generalize w.heap.size=g at *
 have r0:∀x,Gr w0 x→x.cell? ⟨g,0,none⟩=some (.bool hd):=fun x h=>(b0.gr h).cell 0
 have r1:∀x,Gr w0 x→x.cell? ⟨g,1,none⟩=some (str ob):=fun x h=>(b0.gr h).cell 1
 have r2:∀x,Gr w0 x→x.cell? ⟨g,2,none⟩=some (vs):=fun x h=>(b0.gr h).cell 2
 have r3:∀x,Gr w0 x→x.cell? ⟨g,3,none⟩=some (vm):=fun x h=>(b0.gr h).cell 3
 have r4:∀x,Gr w0 x→x.cell? ⟨g,4,none⟩=some (vn):=fun x h=>(b0.gr h).cell 4
 have r5:∀x,Gr w0 x→x.cell? ⟨g,5,none⟩=some (.bool cd.am):=fun x h=>(b0.gr h).cell 5
 have r6:∀x,Gr w0 x→x.cell? ⟨g,6,none⟩=some (.bool cd.an):=fun x h=>(b0.gr h).cell 6
 have r7:∀x,Gr w0 x→x.cell? ⟨g,7,none⟩=some (.int .i64 cd.si):=fun x h=>(b0.gr h).cell 7
 have r8:∀x,Gr w0 x→x.cell? ⟨g,8,none⟩=some (.int .i64 cd.un):=fun x h=>(b0.gr h).cell 8
 have r9:∀x,Gr w0 x→x.cell? ⟨g,9,none⟩=some (str cd.rg.1):=fun x h=>(b0.gr h).cell 9
 have r10:∀x,Gr w0 x→x.cell? ⟨g,10,none⟩=some (.bool cd.rg.2):=fun x h=>(b0.gr h).cell 10
 have d0:∀x,Gr w0 x→x.cell? ⟨g+1,0,none⟩=some (.int .u16 k0):=fun x h=>(b1.gr h).cell 0
 have d1:∀x,Gr w0 x→x.cell? ⟨g+1,1,none⟩=some (.int .u16 k1):=fun x h=>(b1.gr h).cell 1
 have h00:Gr w0 w0:=Gr.refl w0
 have HG0:=hid hg0
 clear b0 b1 hg0
 have q0:=r0 _ h00
 have q1:=r1 _ h00
 have q2:=r2 _ h00
 have q3:=r3 _ h00
 have q4:=r4 _ h00
 have q5:=r5 _ h00
 have q6:=r6 _ h00
 have q7:=r7 _ h00
 have q8:=r8 _ h00
 have q9:=r9 _ h00
 have q10:=r10 _ h00
 cases R with
 | false=>
   go_wp2_with (first | (go_at_call 7;refine (HRT.out _ HG0.out).mono ?_;rintro e w1 ⟨rfl,h01⟩;have q0:=r0 _ h01;have HG1:=hid (Gr.tr HG0.out h01)) | (go_at_call 8;refine (HAL.out _ HG1.out).mono ?_;rintro e wz ⟨rfl,hgz⟩))
   go_ret
   exact ⟨rfl,Gr.tr HG1.out hgz⟩
 | true=>
 cases hd with
 | true=>
   go_wp2_with (first | (go_at_call 7;refine (HRT.out _ HG0.out).mono ?_;rintro e w1 ⟨rfl,h01⟩;have q0:=r0 _ h01;have HG1:=hid (Gr.tr HG0.out h01)) | (go_at_call 8;refine (HAL.out _ HG1.out).mono ?_;rintro e wz ⟨rfl,hgz⟩))
   go_ret
   exact ⟨rfl,Gr.tr HG1.out hgz⟩
 | false=>
 by_cases k8:obj.length≤80
 case neg=>
  have n8:80 < obj.length:=by omega
  have d8:decide (80 < (obj.length:Int))=true:=decide_eq_true (by omega)
  go_wp2_with (first | (go_at_call 7;refine (HRT.out _ HG0.out).mono ?_;rintro e w1 ⟨rfl,h01⟩;have q0:=r0 _ h01;have HG1:=hid (Gr.tr HG0.out h01)) | (go_at_call 8;refine (HAL.out _ HG1.out).mono ?_;rintro e wz ⟨rfl,hgz⟩))
  go_ret
  exact ⟨rfl,Gr.tr HG1.out hgz⟩
 have n8:¬80 < obj.length:=by omega
 have d8:decide (80 < (obj.length:Int))=false:=decide_eq_false (by omega)
 have HAX:=hid (fun (x:World) (g:Gr w x)=>HAN.out x g rfl k8)
 have HNX:=hid (fun (x:World) (g:Gr w x)=>HNW.out x g rfl rfl)
 obtain ⟨hw2,hrd,hin,hl30,hl10⟩:=HSR.out rfl rfl k8
 obtain ⟨l1,l2,l3,l4⟩:=HSL.out k8
 obtain ⟨H,fr,b,n1,n2,n3,n4,n5⟩:=hrd
 have HW2:=hid hw2;have HIN:=hid hin;have HN:=hid n1;have HE:=hid n2;have HST:=hid n3;have HCB:=hid n4;have HK3:=hid n5
 have HL30:=hid hl30;have HL10:=hid hl10;have HLB:=hid l1;have HLS:=hid l3;have HLL:=hid l4;have K8:=hid k8
 clear hw2 hin hl30 hl10 l1 l2 l3 l4 n1 n2 n3 n4 n5 HSR HSL HAN HNW
 go_upto_region 3 with (go_at_call 7;refine (HRT.out _ HG0.out).mono ?_;rintro e w1 ⟨rfl,h01⟩;have q0:=r0 _ h01)
 clear q0 q1 q2 q3 q4 q5 q6 q7 q8 q9 q10 n8 d8 k8
 have HG1:=hid (Gr.tr HG0.out h01)
 have q0:=r0 _ h01
 have q1:=r1 _ h01
 have q2:=r2 _ h01
 have q3:=r3 _ h01
 have q4:=r4 _ h01
 have q5:=r5 _ h01
 have q6:=r6 _ h01
 have q7:=r7 _ h01
 have q8:=r8 _ h01
 have q9:=r9 _ h01
 have q10:=r10 _ h01
 have p1:=d1 _ h01
 go_upto_region 4 with (go_at_call 9;refine (HAX.out _ HG1.out).mono ?_;rintro e w2 ⟨A2,c2,vp,rfl,hO2,hp2,hn2,hg2⟩;obtain ⟨A3,c3,rfl,-,-,-⟩:=id hp2.open)
 have h02:=Gr.tr h01 hg2
 have hfs:=hO2.sl (by decide)
 have hba:=Bk.new w2 37 #[.int .i64 SL.1,.slice A2 SL.2.1.length c2,.slice A3 SL.2.2.1.length c3,.int .i64 SL.2.2.2] (0,0)
 have hga:=Gr.al (Gr.refl w2) (Obj.cells #[.int .i64 SL.1,.slice A2 SL.2.1.length c2,.slice A3 SL.2.2.1.length c3,.int .i64 SL.2.2.2] 37)
 have h03:=Gr.tr h02 hga
 have hfs:=Sl.gr hfs hga
 have hps:=hp2.gr hga
 generalize w2.alloc (Obj.cells #[.int .i64 SL.1,.slice A2 SL.2.1.length c2,.slice A3 SL.2.2.1.length c3,.int .i64 SL.2.2.2] 37)=w3 at *
 generalize w2.heap.size=gA at *
 have HG3:=hid (Gr.tr HG0.out h03)
 have s0:∀x,Gr w3 x→x.cell? ⟨gA,0,none⟩=some (.int .i64 SL.1):=fun x h=>(hba.gr h).cell 0
 have s1:∀x,Gr w3 x→x.cell? ⟨gA,1,none⟩=some (.slice A2 SL.2.1.length c2):=fun x h=>(hba.gr h).cell 1
 have s2:∀x,Gr w3 x→x.cell? ⟨gA,2,none⟩=some (.slice A3 SL.2.2.1.length c3):=fun x h=>(hba.gr h).cell 2
 have s3:∀x,Gr w3 x→x.cell? ⟨gA,3,none⟩=some (.int .i64 SL.2.2.2):=fun x h=>(hba.gr h).cell 3
 have HPS:=hid hps
 have HWH0:=gateWhole_any SL.1 SL.2.2.2 SL.2.1 _ A2 A3 c2 c3 SL.2.2.1 obj w3 (HV.out.gr HG3.out).pw (HZ.out.gr HG3.out) hfs HLS.out (by have:=HL10.out;omega) HLB.out hps (HY.out.gr HG3.out) (by have:=HL30.out;omega) (by have:=K8.out;omega) HLL.out
 unfold WEnd at HWH0
 rw [HW2.out] at HWH0
 have HWL:=hid (now_ne HN.out)
 have HS60:=hid (whole_small (st:=SL.1) (sz:=SL.2.2.2) (ps:=SL.2.2.1) (obj:=obj) HLB.out (by have:=HL10.out;omega) (by have h1:=fillL_le obj SL.2.2.1 HLL.out (by have:=K8.out;omega);have:=HL30.out;omega))
 obtain ⟨WB,hWB⟩:∃WB,WB=(wholeR SL.1 SL.2.1 SL.2.2.1 SL.2.2.2 obj).1:=⟨_,rfl⟩
 rw [←hWB] at HWH0 HN HWL HS60
 have HWH:=hid HWH0
 clear HWH0 hWB hfs hps hba hga hO2 hp2 hn2 hg2 h02 HW2 HLS HLB HLL HAX HRT HG1 h01 p1
 have h33:=Gr.refl w3
 have t0:=s0 _ h33
 have t1:=s1 _ h33
 have t2:=s2 _ h33
 have t3:=s3 _ h33
 have q0:=r0 _ h03
 have q1:=r1 _ h03
 have q2:=r2 _ h03
 have q3:=r3 _ h03
 have q4:=r4 _ h03
 have q5:=r5 _ h03
 have q6:=r6 _ h03
 have q7:=r7 _ h03
 have q8:=r8 _ h03
 have q9:=r9 _ h03
 have q10:=r10 _ h03
 go_upto_region 5 with (go_at_call 29;refine HWH.out.mono ?_;rintro e w4 ⟨A4,c4,rfl,h34,hb4⟩)
 have h04:=Gr.tr h03 h34
 have HG4:=hid (Gr.tr HG0.out h04)
 have HB4:=hid hb4
 clear q0 q1 q2 q3 q4 q5 q6 q7 q8 q9 q10 t0 t1 t2 t3 hb4 HWH
 have q0:=r0 _ h04
 have q1:=r1 _ h04
 have q2:=r2 _ h04
 have q3:=r3 _ h04
 have q4:=r4 _ h04
 have q5:=r5 _ h04
 have q6:=r6 _ h04
 have q7:=r7 _ h04
 have q8:=r8 _ h04
 have q9:=r9 _ h04
 have q10:=r10 _ h04
 go_upto_region 6 with (go_at_call 30;refine (HNX.out _ HG4.out).mono ?_;rintro e w5 ⟨hg5,ga,rfl,hRa,hga⟩)
 have HR5:=hid hRa
 have HG5:=hid hg5
 clear q0 q1 q2 q3 q4 q5 q6 q7 q8 q9 q10 hRa HNX h33
 have HWL2:=HWL.out
 have dW:((WB.length:Int)==0)=false:=by rw [beq_eq_false_iff_ne];omega
 have nW:¬WB.length=0:=by omega
 have p0:=d0 _ (Gr.tr h04 hg5)
 have hk3:0≤k0 % (WB.length:Int):=Int.emod_nonneg _ (by omega)
 have hk4:k0 % (WB.length:Int) < (WB.length:Int):=Int.emod_lt_of_pos _ (by omega)
 obtain ⟨K,hKe⟩:∃K:Nat,(k0 % (WB.length:Int)).toNat=K:=⟨_,rfl⟩
 have HKE:=hid hKe
 have HKL:=hid (show K < WB.length by omega)
 clear hKe
 obtain ⟨hw0,he0,hbeg⟩:=short_law getB HN.out HK3.out HE.out HKL.out
 have hlen:=short_len getB HN.out HK3.out HE.out HKL.out
 rw [HCB.out] at hbeg hlen
 have HW0:=hid hw0;have HE0:=hid he0;have HBG:=hid hbeg;have HLN:=hid hlen
 clear hw0 he0 hbeg hlen
 have HSK:=hid (show (nowL getB (WB.take K)).sz≤60000 from by have h1:=now_sz getB (WB.take K);rw [List.length_take] at h1;have:=HS60.out;omega)
 have HNK:=hid (show (WB.take K).foldl (clByte getB) (.head [])=nowL getB (WB.take K) from rfl)
 have HV4:=hid (HV.out.gr HG4.out)
 generalize nowL getB (WB.take K)=FK at *
 have htl:(WB.take K).length≤60000:=by rw [List.length_take];have:=HS60.out;omega
 have HTL:=hid htl
 clear htl
 go_upto_region 8 with fail
 go_cut [80] (fun s wx=>s=.bool false∧∃S6,ClR w4 wx ga S6 getB true false FK∧Stp w5 [ga] wx S6)
 case first=>
  go_wp2_with (first
   | (refine slArgHi (W:=w4) (l:=WB) (k:=k0 % (WB.length:Int)) _ _ rfl rfl rfl rfl HB4.out hk3 (by omega) ?_;intro A6 hA6;rw [HKE.out] at hA6 ⊢;have HTK:=hid (take_arg HR5.out HG5.out HV4.out (Gr.refl w4) hA6 (by have:=HTL.out;simp only [ClS.sz,List.length_nil];omega));rw [HNK.out] at HTK;clear hA6)
   | (go_at_call 31;refine HTK.out.mono ?_;rintro e w6 ⟨he,S6,hR6,hP6⟩;rw [HW0.out] at he;have he:e=.returned (.int .i64 0):=he;subst he;have HP6:=hid hP6;have HG6:=hid (hP6.old HG5.out HR5.out.lo);have HE1:=hid (end_any w4 w6 ga S6 getB FK hR6 HG6.out HV4.out HSK.out);have HE2:=hid (show Calls Tryz.prog 32 #[.pointer (some ⟨ga,0,none⟩)] w6 (fun e w'=>e=.returned (.int .i64 13)∧ClR w4 w' ga S6 getB true false FK∧Stp w6 S6 w' S6) from HE1.out.mono (fun e w' hh=>⟨by rw [hh.1,HE0.out];rfl,by have h2:=hh.2.1;rw [HE0.out,HW0.out] at h2;exact h2,hh.2.2⟩));clear hR6 hP6 HE1)
   | (go_at_call 32;refine HE2.out.mono ?_;rintro e w7 ⟨rfl,hR7,hP7⟩;have HR7:=hid hR7;have HP7:=hid (HP6.out.tr hP7);have HW7:=hid (whole_any hR7);clear hR7 hP7 HE2)
   | (go_at_call 33;refine HW7.out.mono ?_;rintro e w8 ⟨rfl,hg8⟩))
  go_meet
  exact ⟨rfl,S6,HR7.out.gr hg8,HP7.out.gr hg8⟩
 case rest=>
 obtain ⟨rfl,S6,hR8,hP8⟩:=hcut
 generalize wc=w8 at *
 have HG8:=hid (hP8.old HG5.out HR5.out.lo)
 have HBA:=hid (bytes_any hR8 (HV4.out.gr HG8.out) HSK.out)
 clear hR8 hP8 HB4 hk3 hk4 p0 HWL2 dW nW
 have h48:=HG8.out
 go_upto_region 11 with (go_at_call 34;refine HBA.out.mono ?_;rintro e w9 ⟨hg9,v1,v2,rfl,hs1,hs2⟩)
 have h39:=Gr.tr h34 (Gr.tr h48 hg9)
 have t0:=s0 _ h39
 have t1:=s1 _ h39
 have t2:=s2 _ h39
 have t3:=s3 _ h39
 have HSPN:=hid (spans_any SL.1 SL.2.2.2 (.slice A2 SL.2.1.length c2) _ SL.2.2.1 w9 (HPS.out.gr h39) (by have:=HL30.out;omega))
 clear HPS
 obtain ⟨W,hW⟩:∃W,W=spansP SL.2.2.1:=⟨_,rfl⟩
 rw [←hW] at HSPN HIN HBG HLN
 clear hW
 go_upto_region 12 with (go_at_call 18;refine HSPN.out.mono ?_;rintro e w10 ⟨A9,c9,rfl,hO9,hg10⟩)
 obtain ⟨P1,hp1⟩:∃l,l=FK.came.map (·.1):=⟨_,rfl⟩
 obtain ⟨P2,hp2⟩:∃l,l=FK.came.map (·.2):=⟨_,rfl⟩
 have HCA:=hid (cut_at HIN.out HBG.out HLN.out hp1 hp2)
 rw [←hp1] at hs1;rw [←hp2] at hs2
 have hs3:=hO9.sl (by decide)
 have hs1:=hs1.gr hg10
 have hs2:=hs2.gr hg10
 have HG10:=hid (Gr.tr HG4.out (Gr.tr h48 (Gr.tr hg9 hg10)))
 have HYO:=hid (HY.out.gr HG10.out)
 clear hp1 hp2 hO9 hg10 hg9 h39 h48 HBG HLN HIN HSPN HBA t0 t1 t2 t3 s0 s1 s2 s3 d0 d1 r0 r1 r2 r3 r4 r5 r6 r7 r8 r9 r10 HG8 HR5 HG5
 obtain ⟨B1,e1,rfl,-,m1,ho1⟩:=id (show Spans w10 v1 P1 from hs1).open
 obtain ⟨B2,e2,rfl,-,m2,ho2⟩:=id hs2.open
 obtain ⟨B3,e3,hv3,-,m3,ho3⟩:=id (show Spans w10 _ W from hs3).open
 simp only [Value.slice.injEq,true_and] at hv3
 obtain ⟨rfl,rfl⟩:=hv3
 have HO1:=hid ho1;have HO2:=hid ho2;have HO3:=hid ho3
 obtain ⟨hle,hl2,hall⟩:=HCA.out
 have HLE:=hid hle;have HL2:=hid hl2;have HALL:=hid hall
 have dne:((P1.length:Int) != (P2.length:Int))=false:=by simp [hl2]
 have dgt:decide ((W.length:Int) < (P1.length:Int))=false:=decide_eq_false (by omega)
 have hnlt:¬W.length < P1.length:=by omega
 clear hle hl2 hall HCA ho1 ho2 ho3 hs1 hs2 hs3
 go_upto_region 14 with fail
 clear dne dgt hnlt
 go_wp2_with fail
 go_loopw [15,16,102] (fun x15 x16 i wr=>∃k:Nat,k≤P1.length∧i=.int .i64 k∧Gr w10 wr) (fun _ _ i _=>P1.length-(intOf i).toNat)
 case atStart=>exact ⟨0,Nat.zero_le _,rfl,Gr.refl _⟩
 case round=>
  obtain ⟨k,hk,rfl,hG⟩:=hrel
  by_cases hlt:k < P1.length
  case neg=>
   have HGz:=hid (Gr.tr HG10.out hG)
   go_wp2_with ((go_at_call 8;refine (HAL.out _ HGz.out).mono ?_;rintro e wz ⟨rfl,hgz⟩))
   go_ret
   exact ⟨rfl,Gr.tr HGz.out hgz⟩
  have k3:k < W.length:=by have:=HLE.out;omega
  have k2:k < P2.length:=by have:=HL2.out;omega
  obtain ⟨b1,o1,rfl,-,c1,c1b⟩:=HO1.out k hlt
  obtain ⟨b3,o3,rfl,-,c3,c3b⟩:=HO3.out k k3
  obtain ⟨b2,o2,u2,rfl,c2,hy2⟩:=HO2.out k k2
  have ha:=HALL.out k hlt k2 k3
  have p0:=Gr.cell hG c1
  have p1:=Gr.cell hG c1b
  generalize P1[k]=ps at *
  obtain ⟨pf,pt⟩:=ps
  simp only at c1 c1b ha p0 p1
  have HA:=hid ha
  clear ha
  go_upto_region 17 with fail
  obtain ⟨hGb,cf0,cf1⟩:=box2 wr (.int .i64 pf) (.int .i64 pt) 48
  have hG:=Gr.tr hG hGb
  generalize wr.alloc (Obj.cells #[.int .i64 pf,.int .i64 pt] 48)=wb at *
  generalize wr.heap.size=gb at *
  clear hGb p0 p1
  obtain ⟨a1,a2,a3,a4,a5,a6,a7⟩:=HA.out
  obtain ⟨A5,n5,rfl,hn5,hm5,-⟩:=id hy2.open
  obtain ⟨A6,hse,hs5⟩:=HYO.out.sliced pf.toNat pt.toNat c0 (by omega) (by omega) (by omega) (Nat.le_refl _)
  rw [←a4] at hs5
  have hgi:∀i,Gr w10 (gx wb none i):=fun i=>Gr.tr hG (gr_none (gx_by wb none i))
  have hgb:∀i,Gr wb (gx wb none i):=fun i=>gr_none (gx_by wb none i)
  have tS1:=fun i=>(hy2.gr (hgi i)).toStr
  have tS2:=fun i=>(hs5.gr (hgi i)).toStr
  rw [←hse] at tS2
  simp only [sliced,Nat.mul_one] at tS2
  have q1:=fun i=>(hgb i).cell cf0
  have q2:=fun i=>(hgb i).cell cf1
  have q3:=fun i=>Gr.cell (hgi i) c3
  have q4:=fun i=>Gr.cell (hgi i) c3b
  have q5:=fun i=>Gr.cell (hgi i) c2
  rw [←a1] at q3
  have hw2:decide (W[k].2 < pt)=false:=decide_eq_false (by omega)
  have hw3:¬W[k].2 < pt:=by omega
  have ew:IntKind.i64.wrap (pt-pf)=(P2[k].length:Int):=by rw [a3];exact IntWalk.i64_in _ (by omega)
  have hc0b:pt≤(c0:Int):=by omega
  generalize W[k].2=wt at *
  generalize P2[k]=p2 at *
  have HG:=hid hG
  clear hy2 hs5 hse c1 c1b c2 c3 c3b a1 a2 a3 a4 hgi hgb HALL HO1 HO2 HO3 hG cf0 cf1
  refine wp_region_all [0,1,2,3,4,5,6,7,8,9,10,11,12,13,14,15,16,17,18,19,20,21,22,23,24,25,26,27,28,29,30,31,32,33,34,35,36,37,38,39,40,41,42,43,44,45] (by kernel_rfl) (by kernel_rfl) rfl (by kernel_rfl) (fun o _ _ _ _ h=>by cases o <;> exact h) ?_
  repeat (first | (refine wpGq_step (fun K hK=>?_);go_simp;refine hK _ ?_;clear hK K) | (refine wpGq_step (fun K hK=>?_);go_simp;simp only [↓IntWalk.iteOmega];go_simp;refine hK _ ?_;clear hK K))
  refine wpGq_nil ?_
  refine wpG_done (by kernel_rfl) (fun wq hgq=>?_)
  go_wp2_with fail
  exact ⟨⟨k+1,by omega,by go_num,Gr.tr HG.out hgq⟩,by simp [intOf];omega⟩
end Go.Proofs.YtflepnkpihfidaaGreatDoor.wtcut
