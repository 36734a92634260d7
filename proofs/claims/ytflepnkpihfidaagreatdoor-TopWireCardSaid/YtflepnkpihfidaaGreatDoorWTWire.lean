/- The theorem TopWire: whatever is asked of whatever bytes, the answer goes to bytes and back: the walk. Conditions: the library's own variables hold what their types allow; lengths that memory holds. -/
import Derived.Test.YtflepnkpihfidaaGreatDoorJTopD
set_option linter.unusedVariables false
set_option linter.unusedSimpArgs false
set_option maxHeartbeats 64000000
set_option maxRecDepth 100000
namespace Go.Proofs.YtflepnkpihfidaaGreatDoor.wtwire
open Lib (hid)
open Go.RowKit
theorem wpList_runG {P:Program} {ops:Array Oper} {rest:List Oper} {o:Oper} {a:Act} {Q:Exit→Act→World→Prop} {w w':World} {v:Value} (hw:Region.wanted o (yielded ops a.tmps)=true)
  (hr:(execOp a.eval o).run P w=.ok (.value v) w') (h:wpList P ops Q rest (a.put o.dst v) w'):wpList P ops Q (o::rest) a w:=by
 refine wpList_step fun K hK=>?_
 rw [if_pos hw]
 unfold Oper.wp
 rw [hr]
 exact hK _ _ h
theorem slArgLoG {ops:Array Oper} {rest:List Oper} {o:Oper} {a:Act} {Q:Exit→Act→World→Prop} {W w:World} {A:Option Addr} {n c:Nat} {l:List UInt8} {kd:IntKind} {k:Int} (x y:Operand) (hgd:Region.wanted o (yielded ops a.tmps)=true) (ho:o.op=.slice 30 x (some y) none none) (hx:a.eval x=.slice A n c) (hy:a.eval y=.int kd k)
  (hb:Byts W (.slice A n c) l) (hk0:0≤k) (hk:k≤l.length)
  (h:∀A2,Byts W (.slice A2 (l.length-k.toNat) (c-k.toNat)) (l.drop k.toNat)→wpList Tryz.prog ops Q rest (a.put o.dst (.slice A2 (l.length-k.toNat) (c-k.toNat))) w):wpList Tryz.prog ops Q (o::rest) a w:=by
 obtain ⟨rfl,hc⟩:=hb.len
 obtain ⟨A2,e,h2⟩:=hb.sliced k.toNat l.length c (by omega) (Nat.le_refl _) hc (Nat.le_refl _)
 rw [List.take_of_length_le (by rw [List.length_drop];omega)] at h2
 refine wpList_runG hgd ?_ (h A2 h2)
 unfold execOp
 simp only [ho,hx,hy,Option.map_some,Option.map_none,Sem.run_bind,run_sliceAt_slice w _ _ _ _ _ elemT,run_slice_l w _ _ _ _ elemT kd k hk0 hk,sizeByte,Result.andThen_ok,Sem.run_pure,e]
theorem walk (q:ReqT) (vs vm vn:Value) (u:Value) (obj:List UInt8) (k0 k1:Int) (w:World) (hv:Vars w) (hz:Tz w) (ha:ReqA w q vs vm vn) (hl:ReqLow q) (hy:Byts w u obj) (hk0:0≤k0∧k0≤65535) (hk1:0≤k1∧k1≤65535) :
  Calls Tryz.prog 6 #[reqV q vs vm vn,u,.agg #[.int .u16 k0,.int .u16 k1]] w fun e w'=>e=.returned (.bool true)∧Gr w w':=by
 obtain ⟨A0,c0,rfl,hc0,hm0,-⟩:=id hy.open
 obtain ⟨As,cs,rfl,-,-,-⟩:=id ha.specs.open
 obtain ⟨Am,cm,rfl,-,-,-⟩:=id ha.mt.open
 obtain ⟨An,cn,rfl,-,-,-⟩:=id ha.no.open
 have HRT:=hid (fun (x:World) (g:Gr w x)=>topRight_any q _ _ _ x (ha.gr g) hl)
 have HAL:=hid (fun (x:World) (g:Gr w x)=>topAlive_any x (hv.gr g))
 have HAN:=hid (fun (x:World) (g:Gr w x) (h:topR q=true) (h8:obj.length≤80)=>answer_any q _ _ _ _ obj k1 x (ha.gr g) hl (hy.gr g) h8 (topR_ten h).1 hk1 (hv.gr g) (hz.gr g))
 have HNW:=hid (fun (x:World) (g:Gr w x) (h:topR q=true) (hd:q.1=false)=>newT_any q _ _ _ x (ha.gr g) hl h hd)
 have HSR:=hid (fun (h:topR q=true) (hd:q.1=false) (h8:obj.length≤80)=>shape_reads (oc:=checkL q (mS obj.length)) (seed:=k1) hd (topR_ten h).1 h8)
 have HSL:=hid (fun (h8:obj.length≤80)=>shape_low (q:=q) (oc:=checkL q (mS obj.length)) (seed:=k1) h8)
 have HY:=hid hy
 have HV:=hid hv
 have HZ:=hid hz
 generalize shapeL q (mS obj.length) (checkL q (mS obj.length)) 8 k1=SL at *
 generalize topR q=R at *
 clear ha hl hy hv hz
 obtain ⟨hd,ob,sp,cd⟩:=q
 unfold reqV at *
 simp only at HRT HAN HNW HSR ⊢
 generalize Value.slice As sp.length cs=vs at *
 generalize Value.slice Am cd.mt.length cm=vm at *
 generalize Value.slice An cd.no.length cn=vn at *
 go_enter Tryz.func6,Tryz.ntmps6
 go_upto_region 1 with fail
 obtain ⟨b0,b1,hg0⟩:=two_box w #[.bool hd,str ob,vs,vm,vn,.bool cd.am,.bool cd.an,.int .i64 cd.si,.int .i64 cd.un,str cd.rg.1,.bool cd.rg.2] #[.int .u16 k0,.int .u16 k1] 29 81
 refine at_world (P:=Code.wp _ _ _ _) (w0:=(w.alloc (Obj.cells #[.bool hd,str ob,vs,vm,vn,.bool cd.am,.bool cd.an,.int .i64 cd.si,.int .i64 cd.un,str cd.rg.1,.bool cd.rg.2] 29)).alloc (Obj.cells #[.int .u16 k0,.int .u16 k1] 81)) ?_
 intro w0 hw0
 rw [←hw0] at b0 b1 hg0
 clear hw0
 generalize w.heap.size=g at *
 have r0:∀x,Gr w0 x→x.cell? ⟨g,0,none⟩=some (.bool hd):=fun x h=>(b0.gr h).cell 0
 have r1:∀x,Gr w0 x→x.cell? ⟨g,1,none⟩=some (str ob):=fun x h=>(b0.gr h).cell 1
 have r2:∀x,Gr w0 x→x.cell? ⟨g,2,none⟩=some (vs):=fun x h=>(b0.gr h).cell 2
 have r3:∀x,Gr w0 x→x.cell? ⟨g,3,none⟩=some (vm):=fun x h=>(b0.gr h).cell 3
 have r4:∀x,Gr w0 x→x.cell? ⟨g,4,none⟩=some (vn):=fun x h=>(b0.gr h).cell 4
 have r5:∀x,Gr w0 x→x.cell? ⟨g,5,none⟩=some (.bool cd.am):=fun x h=>(b0.gr h).cell 5
 have r6:∀x,Gr w0 x→x.cell? ⟨g,6,none⟩=some (.bool cd.an):=fun x h=>(b0.gr h).cell 6
 have r7:∀x,Gr w0 x→x.cell? ⟨g,7,none⟩=some (.int .i64 cd.si):=fun x h=>(b0.gr h).cell 7
 have r8:∀x,Gr w0 x→x.cell? ⟨g,8,none⟩=some (.int .i64 cd.un):=fun x h=>(b0.gr h).cell 8
 have r9:∀x,Gr w0 x→x.cell? ⟨g,9,none⟩=some (str cd.rg.1):=fun x h=>(b0.gr h).cell 9
 have r10:∀x,Gr w0 x→x.cell? ⟨g,10,none⟩=some (.bool cd.rg.2):=fun x h=>(b0.gr h).cell 10
 have d0:∀x,Gr w0 x→x.cell? ⟨g+1,0,none⟩=some (.int .u16 k0):=fun x h=>(b1.gr h).cell 0
 have d1:∀x,Gr w0 x→x.cell? ⟨g+1,1,none⟩=some (.int .u16 k1):=fun x h=>(b1.gr h).cell 1
 have h00:Gr w0 w0:=Gr.refl w0
 have HG0:=hid hg0
 clear b0 b1 hg0
 have q0:=r0 _ h00
 have q1:=r1 _ h00
 have q2:=r2 _ h00
 have q3:=r3 _ h00
 have q4:=r4 _ h00
 have q5:=r5 _ h00
 have q6:=r6 _ h00
 have q7:=r7 _ h00
 have q8:=r8 _ h00
 have q9:=r9 _ h00
 have q10:=r10 _ h00
 cases R with
 | false=>
   go_wp2_with (first | (go_at_call 7;refine (HRT.out _ HG0.out).mono ?_;rintro e w1 ⟨rfl,h01⟩;have q0:=r0 _ h01;have HG1:=hid (Gr.tr HG0.out h01)) | (go_at_call 8;refine (HAL.out _ HG1.out).mono ?_;rintro e wz ⟨rfl,hgz⟩))
   go_ret
   exact ⟨rfl,Gr.tr HG1.out hgz⟩
 | true=>
 cases hd with
 | true=>
   go_wp2_with (first | (go_at_call 7;refine (HRT.out _ HG0.out).mono ?_;rintro e w1 ⟨rfl,h01⟩;have q0:=r0 _ h01;have HG1:=hid (Gr.tr HG0.out h01)) | (go_at_call 8;refine (HAL.out _ HG1.out).mono ?_;rintro e wz ⟨rfl,hgz⟩))
   go_ret
   exact ⟨rfl,Gr.tr HG1.out hgz⟩
 | false=>
 by_cases k8:obj.length≤80
 case neg=>
  have n8:80 < obj.length:=by omega
  have d8:decide (80 < (obj.length:Int))=true:=decide_eq_true (by omega)
  go_wp2_with (first | (go_at_call 7;refine (HRT.out _ HG0.out).mono ?_;rintro e w1 ⟨rfl,h01⟩;have q0:=r0 _ h01;have HG1:=hid (Gr.tr HG0.out h01)) | (go_at_call 8;refine (HAL.out _ HG1.out).mono ?_;rintro e wz ⟨rfl,hgz⟩))
  go_ret
  exact ⟨rfl,Gr.tr HG1.out hgz⟩
 have n8:¬80 < obj.length:=by omega
 have d8:decide (80 < (obj.length:Int))=false:=decide_eq_false (by omega)
 have HAX:=hid (fun (x:World) (g:Gr w x)=>HAN.out x g rfl k8)
 have HNX:=hid (fun (x:World) (g:Gr w x)=>HNW.out x g rfl rfl)
 obtain ⟨hw2,hrd,hin,hl30,hl10⟩:=HSR.out rfl rfl k8
 obtain ⟨l1,l2,l3,l4⟩:=HSL.out k8
 obtain ⟨H,fr,b,n1,n2,n3,n4,n5⟩:=hrd
 have HW2:=hid hw2;have HIN:=hid hin;have HN:=hid n1;have HE:=hid n2;have HST:=hid n3;have HCB:=hid n4;have HK3:=hid n5
 have HL30:=hid hl30;have HL10:=hid hl10;have HLB:=hid l1;have HLS:=hid l3;have HLL:=hid l4;have K8:=hid k8
 clear hw2 hin hl30 hl10 l1 l2 l3 l4 n1 n2 n3 n4 n5 HSR HSL HAN HNW
 go_upto_region 3 with (go_at_call 7;refine (HRT.out _ HG0.out).mono ?_;rintro e w1 ⟨rfl,h01⟩;have q0:=r0 _ h01)
 clear q0 q1 q2 q3 q4 q5 q6 q7 q8 q9 q10 n8 d8 k8
 have HG1:=hid (Gr.tr HG0.out h01)
 have q0:=r0 _ h01
 have q1:=r1 _ h01
 have q2:=r2 _ h01
 have q3:=r3 _ h01
 have q4:=r4 _ h01
 have q5:=r5 _ h01
 have q6:=r6 _ h01
 have q7:=r7 _ h01
 have q8:=r8 _ h01
 have q9:=r9 _ h01
 have q10:=r10 _ h01
 have p1:=d1 _ h01
 go_upto_region 4 with (go_at_call 9;refine (HAX.out _ HG1.out).mono ?_;rintro e w2 ⟨A2,c2,vp,rfl,hO2,hp2,hn2,hg2⟩;obtain ⟨A3,c3,rfl,-,-,-⟩:=id hp2.open)
 have h02:=Gr.tr h01 hg2
 have hfs:=hO2.sl (by decide)
 have hba:=Bk.new w2 37 #[.int .i64 SL.1,.slice A2 SL.2.1.length c2,.slice A3 SL.2.2.1.length c3,.int .i64 SL.2.2.2] (0,0)
 have hga:=Gr.al (Gr.refl w2) (Obj.cells #[.int .i64 SL.1,.slice A2 SL.2.1.length c2,.slice A3 SL.2.2.1.length c3,.int .i64 SL.2.2.2] 37)
 have h03:=Gr.tr h02 hga
 have hfs:=Sl.gr hfs hga
 have hps:=hp2.gr hga
 generalize w2.alloc (Obj.cells #[.int .i64 SL.1,.slice A2 SL.2.1.length c2,.slice A3 SL.2.2.1.length c3,.int .i64 SL.2.2.2] 37)=w3 at *
 generalize w2.heap.size=gA at *
 have HG3:=hid (Gr.tr HG0.out h03)
 have s0:∀x,Gr w3 x→x.cell? ⟨gA,0,none⟩=some (.int .i64 SL.1):=fun x h=>(hba.gr h).cell 0
 have s1:∀x,Gr w3 x→x.cell? ⟨gA,1,none⟩=some (.slice A2 SL.2.1.length c2):=fun x h=>(hba.gr h).cell 1
 have s2:∀x,Gr w3 x→x.cell? ⟨gA,2,none⟩=some (.slice A3 SL.2.2.1.length c3):=fun x h=>(hba.gr h).cell 2
 have s3:∀x,Gr w3 x→x.cell? ⟨gA,3,none⟩=some (.int .i64 SL.2.2.2):=fun x h=>(hba.gr h).cell 3
 have HPS:=hid hps
 have HWH0:=gateWhole_any SL.1 SL.2.2.2 SL.2.1 _ A2 A3 c2 c3 SL.2.2.1 obj w3 (HV.out.gr HG3.out).pw (HZ.out.gr HG3.out) hfs HLS.out (by have:=HL10.out;omega) HLB.out hps (HY.out.gr HG3.out) (by have:=HL30.out;omega) (by have:=K8.out;omega) HLL.out
 unfold WEnd at HWH0
 rw [HW2.out] at HWH0
 have HWL:=hid (now_ne HN.out)
 have HS60:=hid (whole_small (st:=SL.1) (sz:=SL.2.2.2) (ps:=SL.2.2.1) (obj:=obj) HLB.out (by have:=HL10.out;omega) (by have h1:=fillL_le obj SL.2.2.1 HLL.out (by have:=K8.out;omega);have:=HL30.out;omega))
 obtain ⟨WB,hWB⟩:∃WB,WB=(wholeR SL.1 SL.2.1 SL.2.2.1 SL.2.2.2 obj).1:=⟨_,rfl⟩
 rw [←hWB] at HWH0 HN HWL HS60
 have HWH:=hid HWH0
 clear HWH0 hWB hfs hps hba hga hO2 hp2 hn2 hg2 h02 HW2 HLS HLB HLL HAX HRT HG1 h01 p1
 have h33:=Gr.refl w3
 have t0:=s0 _ h33
 have t1:=s1 _ h33
 have t2:=s2 _ h33
 have t3:=s3 _ h33
 have q0:=r0 _ h03
 have q1:=r1 _ h03
 have q2:=r2 _ h03
 have q3:=r3 _ h03
 have q4:=r4 _ h03
 have q5:=r5 _ h03
 have q6:=r6 _ h03
 have q7:=r7 _ h03
 have q8:=r8 _ h03
 have q9:=r9 _ h03
 have q10:=r10 _ h03
 go_upto_region 5 with (go_at_call 29;refine HWH.out.mono ?_;rintro e w4 ⟨A4,c4,rfl,h34,hb4⟩)
 have h04:=Gr.tr h03 h34
 have HG4:=hid (Gr.tr HG0.out h04)
 have HB4:=hid hb4
 clear q0 q1 q2 q3 q4 q5 q6 q7 q8 q9 q10 t0 t1 t2 t3 hb4 HWH
 have q0:=r0 _ h04
 have q1:=r1 _ h04
 have q2:=r2 _ h04
 have q3:=r3 _ h04
 have q4:=r4 _ h04
 have q5:=r5 _ h04
 have q6:=r6 _ h04
 have q7:=r7 _ h04
 have q8:=r8 _ h04
 have q9:=r9 _ h04
 have q10:=r10 _ h04
 go_upto_region 6 with (go_at_call 30;refine (HNX.out _ HG4.out).mono ?_;rintro e w5 ⟨hg5,ga,rfl,hRa,hga⟩)
 have HR5:=hid hRa
 have HG5:=hid hg5
 clear q0 q1 q2 q3 q4 q5 q6 q7 q8 q9 q10 hRa HNX h33
 have HWL2:=HWL.out
 have dW:((WB.length:Int)==0)=false:=by rw [beq_eq_false_iff_ne];omega
 have nW:¬WB.length=0:=by omega
 have p0:=d0 _ (Gr.tr h04 hg5)
 have hk3:0≤k0 % (WB.length:Int):=Int.emod_nonneg _ (by omega)
 have hk4:k0 % (WB.length:Int) < (WB.length:Int):=Int.emod_lt_of_pos _ (by omega)
 obtain ⟨K,hKe⟩:∃K:Nat,(k0 % (WB.length:Int)).toNat=K:=⟨_,rfl⟩
 have HKE:=hid hKe
 have HKL:=hid (show K < WB.length by omega)
 clear hKe
 obtain ⟨hw0,-,-⟩:=short_law getB HN.out HK3.out HE.out HKL.out
 have HW0:=hid hw0
 clear hw0
 have HSK:=hid (show (nowL getB (WB.take K)).sz≤K from by have h1:=now_sz getB (WB.take K);rw [List.length_take] at h1;omega)
 have HNK:=hid (show (WB.take K).foldl (clByte getB) (.head [])=nowL getB (WB.take K) from rfl)
 have HN2:=hid (show (WB.drop K).foldl (clByte getB) (nowL getB (WB.take K))=.body H fr b from by rw [←now_app,List.take_append_drop];exact HN.out)
 have HFE:=hid (few_now getB WB H (by rw [HN.out];rfl))
 have HSZ:=hid (show (ClS.body H fr b).sz≤60000 from by rw [←HN.out];exact Nat.le_trans (now_sz getB WB) HS60.out)
 have HV4:=hid (HV.out.gr HG4.out)
 generalize nowL getB (WB.take K)=FK at *
 have HTL:=hid (show (WB.take K).length≤60000 from by rw [List.length_take];have:=HS60.out;omega)
 have HDL:=hid (show FK.sz+(WB.drop K).length≤60000 from by rw [List.length_drop];have:=HS60.out;have:=HSK.out;have:=HKL.out;omega)
 have HEC:=hid (show (ClS.body H fr b).ends=0 from HE.out)
 go_upto_region 9 with fail
 have hkk:k0 % (WB.length:Int)=(K:Int):=by have:=HKE.out;omega
 have HKL2:=HKL.out
 rw [hkk]
 clear hkk hk3 hk4
 go_cut [93] (fun s wx=>s=.bool false∧∃S8,ClR w4 wx ga S8 getB true true (.body H fr b)∧Stp w5 [ga] wx S8)
 case first=>
  go_wp2_with (first
   | (refine slArgHi (W:=w4) (l:=WB) (k:=(K:Int)) _ _ rfl rfl rfl rfl HB4.out (by omega) (by omega) ?_;intro A6 hA6;rw [Int.toNat_natCast] at hA6 ⊢;have HTK:=hid (take_arg HR5.out HG5.out HV4.out (Gr.refl w4) hA6 (by have:=HTL.out;simp only [ClS.sz,List.length_nil];omega));rw [HNK.out] at HTK;clear hA6)
   | (refine slArgLoG (W:=w4) (l:=WB) (k:=(K:Int)) _ _ (by go_simp) rfl rfl rfl HB4.out (by omega) (by omega) ?_;intro A7 hA7;rw [Int.toNat_natCast] at hA7 ⊢;have HTM:=hid (take_arg HR6.out HG6.out HV4.out (Gr.refl w4) hA7 HDL.out);rw [HN2.out] at HTM;clear hA7)
   | (go_at_call 31;refine HTM.out.mono ?_;rintro e w7 ⟨he2,S7,hR7,hP7⟩;have he2:e=.returned (.int .i64 0):=he2;subst he2;have HP7:=hid (HP6.out.tr hP7);have HG7:=hid (HP7.out.old HG5.out HR5.out.lo);have HE1:=hid (end_any w4 w7 ga S7 getB _ hR7 HG7.out HV4.out HSZ.out);have HE2:=hid (show Calls Tryz.prog 32 #[.pointer (some ⟨ga,0,none⟩)] w7 (fun e w'=>e=.returned (.int .i64 0)∧ClR w4 w' ga S7 getB true true (.body H fr b)∧Stp w7 S7 w' S7) from HE1.out.mono (fun e w' hh=>⟨by rw [hh.1,HEC.out];rfl,by have h2:=hh.2.1;rw [HEC.out] at h2;exact h2,hh.2.2⟩));clear hR7 hP7 HE1)
   | (go_at_call 31;refine HTK.out.mono ?_;rintro e w6 ⟨he,S6,hR6,hP6⟩;rw [HW0.out] at he;have he:e=.returned (.int .i64 0):=he;subst he;have HP6:=hid hP6;have HR6:=hid hR6;have HG6:=hid (hP6.old HG5.out HR5.out.lo);clear hR6 hP6 HTK)
   | (go_at_call 32;refine HE2.out.mono ?_;rintro e w8 ⟨rfl,hR8,hP8⟩;have HR8:=hid hR8;have HP8:=hid (HP7.out.tr hP8);have HW8:=hid (whole_any hR8);clear hR8 hP8 HE2)
   | (go_at_call 33;refine HW8.out.mono ?_;rintro e w9 ⟨rfl,hg9⟩))
  go_meet
  exact ⟨rfl,S7,HR8.out.gr hg9,HP8.out.gr hg9⟩
 case rest=>
 obtain ⟨rfl,S8,hR8,hP8⟩:=hcut
 generalize wc=w8 at *
 have HG8:=hid (hP8.old HG5.out HR5.out.lo)
 have HHD:=hid (show Calls Tryz.prog 35 #[.pointer (some ⟨ga,0,none⟩)] w8 (fun e w'=>Gr w8 w'∧∃A c,e=.returned (.tuple #[.agg #[.int .i64 SL.1,.slice A H.fs.length c,.slice none 0 0,.int .i64 (sizeH H)],.bool true])) from (head_any hR8 (fun H2 hh=>by have hh:some H=some H2:=hh;injection hh with hh;subst hh;exact HFE.out)).mono (fun e w' hh=>by obtain ⟨g1,A,c,g2,-⟩:=hh;exact ⟨g1,A,c,by rw [g2,HST.out]⟩))
 have HBA:=hid (fun (x:World) (g:Gr w8 x)=>bytes_any (hR8.gr g) (HV4.out.gr (Gr.tr HG8.out g)) HSZ.out)
 have HCM:=hid (show (ClS.body H fr b).came=(spansP SL.2.2.1).map (fun s=>(s,objL obj s)) from HCB.out)
 clear hR8 hP8 HB4 p0 HWL2 dW nW HKL2
 have h48:=HG8.out
 go_upto_region 12 with (go_at_call 35;refine HHD.out.mono ?_;rintro e w9 ⟨hg9,A7,c7,rfl⟩)
 have hbh:=Bk.new w9 37 #[.int .i64 SL.1,.slice A7 H.fs.length c7,.slice none 0 0,.int .i64 (sizeH H)] (0,0)
 have hgh:=Gr.al (Gr.refl w9) (Obj.cells #[.int .i64 SL.1,.slice A7 H.fs.length c7,.slice none 0 0,.int .i64 (sizeH H)] 37)
 have h8x:=Gr.tr hg9 hgh
 generalize w9.alloc (Obj.cells #[.int .i64 SL.1,.slice A7 H.fs.length c7,.slice none 0 0,.int .i64 (sizeH H)] 37)=w10 at *
 generalize w9.heap.size=gh at *
 clear hgh hg9
 go_upto_region 13 with (go_at_call 34;refine (HBA.out _ h8x).mono ?_;rintro e w11 ⟨hg11,v1,v2,rfl,hs1,hs2⟩)
 have h3x:=Gr.tr h34 (Gr.tr h48 (Gr.tr h8x hg11))
 have t0:=s0 _ h3x
 have t1:=s1 _ h3x
 have t2:=s2 _ h3x
 have t3:=s3 _ h3x
 have HSPN:=hid (spans_any SL.1 SL.2.2.2 (.slice A2 SL.2.1.length c2) _ SL.2.2.1 w11 (HPS.out.gr h3x) (by have:=HL30.out;omega))
 clear HPS
 obtain ⟨W,hW⟩:∃W,W=spansP SL.2.2.1:=⟨_,rfl⟩
 rw [←hW] at HSPN HIN HCM
 clear hW
 go_upto_region 14 with (go_at_call 18;refine HSPN.out.mono ?_;rintro e w12 ⟨A9,c9,rfl,hO9,hg12⟩)
 obtain ⟨e1,e2⟩:=whole_at HIN.out HCM.out rfl rfl
 rw [e1] at hs1
 obtain ⟨P2,hP2⟩:∃P2,P2=(ClS.body H fr b).came.map (·.2):=⟨_,rfl⟩
 rw [←hP2] at hs2 e2
 have HP2:=hid e2
 have HPL:=hid (show P2.length=W.length from by rw [e2,List.length_map])
 have hs3:=hO9.sl (by decide)
 have hs1:=hs1.gr hg12
 have hs2:=hs2.gr hg12
 have HG12:=hid (Gr.tr HG4.out (Gr.tr h48 (Gr.tr h8x (Gr.tr hg11 hg12))))
 have HYO:=hid (HY.out.gr HG12.out)
 have x0:w12.cell? ⟨gh,0,none⟩=some (.int .i64 SL.1):=((hbh.gr hg11).gr hg12).cell 0
 have t0:=s0 _ (Gr.tr h3x hg12)
 clear e1 e2 hP2 hO9 hg12 hg11 h8x h3x h48 hbh HCM HSPN HBA HHD t1 t2 t3 s0 s1 s2 s3 d0 d1 r0 r1 r2 r3 r4 r5 r6 r7 r8 r9 r10 HG8 HR5 HG5 HCB HN
 obtain ⟨B1,e1,rfl,-,m1,ho1⟩:=id (show Spans w12 v1 W from hs1).open
 obtain ⟨B2,e2,rfl,-,m2,ho2⟩:=id hs2.open
 obtain ⟨B3,e3,hv3,-,m3,ho3⟩:=id (show Spans w12 _ W from hs3).open
 simp only [Value.slice.injEq,true_and] at hv3
 obtain ⟨rfl,rfl⟩:=hv3
 have HO1:=hid ho1;have HO2:=hid ho2;have HO3:=hid ho3
 have dne:((P2.length:Int) != (W.length:Int))=false:=by have:=HPL.out;simp [this]
 clear ho1 ho2 ho3 hs1 hs2 hs3
 go_upto_region 16 with fail
 clear dne x0 t0
 go_wp2_with fail
 go_loopw [18,19,131] (fun x18 x19 i wr=>∃k:Nat,k≤W.length∧i=.int .i64 k∧Gr w12 wr) (fun _ _ i _=>W.length-(intOf i).toNat)
 case atStart=>exact ⟨0,Nat.zero_le _,rfl,Gr.refl _⟩
 case round=>
  obtain ⟨k,hk,rfl,hG⟩:=hrel
  by_cases hlt:k < W.length
  case neg=>
   have HGz:=hid (Gr.tr HG12.out hG)
   go_wp2_with ((go_at_call 8;refine (HAL.out _ HGz.out).mono ?_;rintro e wz ⟨rfl,hgz⟩))
   go_ret
   exact ⟨rfl,Gr.tr HGz.out hgz⟩
  have k2:k < P2.length:=by have:=HPL.out;omega
  obtain ⟨b1,o1,rfl,-,c1,c1b⟩:=HO1.out k hlt
  obtain ⟨b3,o3,rfl,-,c3,c3b⟩:=HO3.out k hlt
  obtain ⟨b2,o2,u2,rfl,c2,hy2⟩:=HO2.out k k2
  have hin:=HIN.out _ (List.getElem_mem hlt)
  have HPK:=hid (show P2[k]=objL obj W[k] from by have h:=HP2.out;subst h;simp)
  have p0:=Gr.cell hG c3
  have p1:=Gr.cell hG c3b
  generalize W[k]=ps at *
  obtain ⟨pf,pt⟩:=ps
  simp only at c1 c1b c3 c3b p0 p1
  have HIS:=hid hin
  clear hin
  go_upto_region 19 with fail
  obtain ⟨hGb,cf0,cf1⟩:=box2 wr (.int .i64 pf) (.int .i64 pt) 48
  have hG:=Gr.tr hG hGb
  generalize wr.alloc (Obj.cells #[.int .i64 pf,.int .i64 pt] 48)=wb at *
  generalize wr.heap.size=gb at *
  clear hGb p0 p1
  obtain ⟨i0,i1,i2⟩:=HIS.out
  simp only at i0 i1 i2
  obtain ⟨A5,n5,rfl,hn5,hm5,-⟩:=id hy2.open
  obtain ⟨A6,hse,hs5⟩:=HYO.out.sliced pf.toNat pt.toNat c0 (by omega) (by omega) (by omega) (Nat.le_refl _)
  have he:objL obj (pf,pt)=(obj.drop pf.toNat).take (pt.toNat-pf.toNat):=by unfold objL;congr 1;simp only;omega
  rw [←he,←HPK.out] at hs5
  have hgi:∀i,Gr w12 (gx wb none i):=fun i=>Gr.tr hG (gr_none (gx_by wb none i))
  have hgb:∀i,Gr wb (gx wb none i):=fun i=>gr_none (gx_by wb none i)
  have tS1:=fun i=>(hy2.gr (hgi i)).toStr
  have tS2:=fun i=>(hs5.gr (hgi i)).toStr
  rw [←hse] at tS2
  simp only [sliced,Nat.mul_one] at tS2
  have q1:=fun i=>(hgb i).cell cf0
  have q2:=fun i=>(hgb i).cell cf1
  have q3:=fun i=>Gr.cell (hgi i) c1
  have q4:=fun i=>Gr.cell (hgi i) c1b
  have q5:=fun i=>Gr.cell (hgi i) c2
  have hc0b:pt≤(c0:Int):=by omega
  have hft:pf≤pt:=by omega
  have HG:=hid hG
  generalize P2[k]=p2 at *
  clear hy2 hs5 hse he c1 c1b c2 c3 c3b hgi hgb HO1 HO2 HO3 hG cf0 cf1
  refine wp_region_all [0,1,2,3,4,5,6,7,8,9,10,11,12,13,14,15,16,17,18,19,20] (by kernel_rfl) (by kernel_rfl) rfl (by kernel_rfl) (fun o _ _ _ _ h=>by cases o <;> exact h) ?_
  repeat (first | (refine wpGq_step (fun K hK=>?_);go_simp;refine hK _ ?_;clear hK K) | (refine wpGq_step (fun K hK=>?_);go_simp;simp only [↓IntWalk.iteOmega];go_simp;refine hK _ ?_;clear hK K))
  refine wpGq_nil ?_
  refine wpG_done (by kernel_rfl) (fun wq hgq=>?_)
  go_wp2_with fail
  exact ⟨⟨k+1,by omega,by go_num,Gr.tr HG.out hgq⟩,by simp [intOf];omega⟩
end Go.Proofs.YtflepnkpihfidaaGreatDoor.wtwire
