/- The theorem TopKnown: what an answer's fields say is what is known: the walk. Conditions: the library's own variables hold what their types allow; lengths that memory holds. -/
import Derived.Test.YtflepnkpihfidaaGreatDoorJTopD
import Derived.Test.YtflepnkpihfidaaGreatDoorJKn
import Derived.Test.YtflepnkpihfidaaGreatDoorJGate6
import Derived.Test.YtflepnkpihfidaaGreatDoorJGate8
set_option linter.unusedVariables false
set_option linter.unusedSimpArgs false
namespace Go.Proofs.YtflepnkpihfidaaGreatDoor.wtknown
open Lib (hid)
open Go.RowKit
theorem topR_req {q:ReqT} (h:topR q=true):reqB q=true:=by
 unfold topR at h
 simp only [Bool.and_eq_true,decide_eq_true_eq] at h
 obtain ⟨⟨⟨⟨⟨⟨h1,h2⟩,h3⟩,h4⟩,h5⟩,h6⟩,h7⟩:=h
 exact reqB_iff.2 ⟨h5,by omega,h6,h7⟩
theorem putQ_le7 (q:ReqT):(putQ q).1.length≤70000:=by
 unfold putQ
 cases hb:reqB q with
 | false=>simp
 | true=>
   rw [if_pos rfl]
   have:=(objB_all (reqB_iff.1 hb).1).2.1
   refine putH_le (reqH q) ?_ (by show q.2.1.length≤600;omega)
   show (if q.1 then headB else getB).length≤600
   split <;> decide
set_option maxHeartbeats 64000000 in
set_option maxRecDepth 100000 in
theorem walk (q:ReqT) (vs vm vn:Value) (m:MetaT) (vk:Value) (w:World) (hv:VarsW w) (hz:Tz w) (ha:ReqA w q vs vm vn) (hl:ReqLow q) (hk:Strs w vk m.keys) (hml:MetaLow m) :
  Calls Tryz.prog 4 #[reqV q vs vm vn,metaV m vk] w fun e w'=>e=.returned (.bool true)∧Gr w w':=by
 obtain ⟨Ak,ck,rfl,hck,hmk,-⟩:=id hk.open
 have HRT:=hid (fun (x:World) (g:Gr w x)=>topRight_any q _ _ _ x (ha.gr g) hl)
 have HAL:=hid (fun (x:World) (g:Gr w x)=>topAlive_any x (hv.gr g))
 have HMR:=hid (fun (x:World) (g:Gr w x) (h:m.keys.length≤10)=>show Calls Tryz.prog 21 #[.agg #[str m.tag.1,.bool m.tag.2,.int .i64 m.mod,.int .i64 m.len,.int .i64 m.hv,.int .i64 m.fr,.int .i64 m.wh,.int .i64 m.er,.slice Ak m.keys.length ck,str m.ten,.bool m.keep]] x (fun e w'=>e=.returned (.bool (metaB m))∧Gr x w') from metaRight_any m _ x (hk.gr g) hml (by omega))
 have hput:topR q=true→∃B:List UInt8,B.length≤70000∧(∀x,Gr w x→Calls Tryz.prog 22 #[reqV q vs vm vn] x (fun e w'=>∃A c,e=.returned (.tuple #[.slice A B.length c,.int .i64 0])∧Byts w' (.slice A B.length c) B∧Gr x w'))∧(∀x v,Gr w x→Byts x v B→Calls Tryz.prog 23 #[v] x (AskEnd x (q,B.length,0))):=by
  intro h
  have hp:=putQ_good (topR_req h)
  refine ⟨(putQ q).1,putQ_le7 q,fun x g=>?_,fun x v g hb=>?_⟩
  ·refine (gatePut_any q vs vm vn x (hv.pw.gr g) (ha.gr g) hl (topR_ten h).2.2.1 (topR_ten h).2.2.2).mono fun e w' h=>?_
   obtain ⟨A,c,he,hb,hg,-⟩:=PutM.byts h
   rw [hp] at he
   exact ⟨A,c,he,hb,hg⟩
  ·have hh:=gateAsk_any v (putQ q).1 x hb (hv.ml.gr g) (by have:=putQ_le7 q;omega)
   have hb:=askQ_back hp []
   rw [List.append_nil] at hb
   rw [hb] at hh;exact hh
 have HPUT:=hid hput
 have HCK:=hid (fun (x:World) (g:Gr w x)=>check_any q m vs vm vn (.slice Ak m.keys.length ck) x (ha.gr g) hl hml.tag)
 have HCB:=hid (fun (us um un:Value) (x:World) (hA:ReqA x q us um un)=>check_any q m us um un (.slice Ak m.keys.length ck) x hA hl hml.tag)
 have HSH:=hid (fun (h:topR q=true) (hm:MetaOk m) (us um un:Value) (x:World) (g:Gr w x) (hA:ReqA x q us um un)=>shape_any q m us um un (.slice Ak m.keys.length ck) (checkL q m) 1 x hA.specs (by have:=(topR_ten h).1;omega) (hk.gr g) hml hm (hv.gr g) (hz.gr g) (checkL_le _ _))
 have HFR:=hid (fun (hm:MetaOk m) (x:World) (u:Value) (g:Gr w x) (hu:Flds x u (shapeL q m (checkL q m) 8 1).2.1)=>show Calls Tryz.prog 27 #[u] x (fun e w'=>∃vk,e=.returned (.tuple #[.agg #[str m.tag.1,.bool m.tag.2,.int .i64 m.mod,.int .i64 m.len,.int .i64 m.hv,.int .i64 m.fr,.int .i64 m.wh,.int .i64 m.er,vk,str m.ten,.bool m.keep],.int .i64 0,.int .i64 0])∧Strs w' vk m.keys∧Gr x w') from metaFrom_any m u _ x hu (shape_known q m (checkL q m) 8 1 hm).2.1 (shape_known q m (checkL q m) 8 1 hm).2.2.1 (shape_known q m (checkL q m) 8 1 hm).2.2.2 hm hml (shape_known q m (checkL q m) 8 1 hm).1 (hv.ml.gr g))
 have HSM:=hid (fun (x:World) (A7:Option Addr) (c7:Nat) (g:Gr w x) (h1:Strs x (.slice A7 m.keys.length c7) m.keys)=>show Calls Tryz.prog 28 #[.agg #[str m.tag.1,.bool m.tag.2,.int .i64 m.mod,.int .i64 m.len,.int .i64 m.hv,.int .i64 m.fr,.int .i64 m.wh,.int .i64 m.er,.slice A7 m.keys.length c7,str m.ten,.bool m.keep],.agg #[str m.tag.1,.bool m.tag.2,.int .i64 m.mod,.int .i64 m.len,.int .i64 m.hv,.int .i64 m.fr,.int .i64 m.wh,.int .i64 m.er,.slice Ak m.keys.length ck,str m.ten,.bool m.keep]] x (fun e w'=>e=.returned (.bool true)∧Gr x w') from metaSame_any m _ _ x h1 (hk.gr g))
 have HMB:=hid (fun (h:metaB m=true)=>metaB_iff.1 h)
 have HA:=hid ha
 generalize shapeL q m (checkL q m) 8 1=SL at *
 generalize checkL q m=CK at *
 generalize topR q=R at *
 generalize metaB m=mb at *
 clear ha hl hv hz hk hml hput hck hmk
 obtain ⟨hd,ob,sp,cd⟩:=q
 unfold reqV at *
 simp only at HRT HPUT HCK HCB HSH ⊢
 show Calls Tryz.prog 4 #[.agg #[.bool hd,str ob,vs,vm,vn,.bool cd.am,.bool cd.an,.int .i64 cd.si,.int .i64 cd.un,str cd.rg.1,.bool cd.rg.2],.agg #[str m.tag.1,.bool m.tag.2,.int .i64 m.mod,.int .i64 m.len,.int .i64 m.hv,.int .i64 m.fr,.int .i64 m.wh,.int .i64 m.er,.slice Ak m.keys.length ck,str m.ten,.bool m.keep]] w _
 obtain ⟨b0,b1,hg0⟩:=two_box w #[.bool hd,str ob,vs,vm,vn,.bool cd.am,.bool cd.an,.int .i64 cd.si,.int .i64 cd.un,str cd.rg.1,.bool cd.rg.2] #[str m.tag.1,.bool m.tag.2,.int .i64 m.mod,.int .i64 m.len,.int .i64 m.hv,.int .i64 m.fr,.int .i64 m.wh,.int .i64 m.er,.slice Ak m.keys.length ck,str m.ten,.bool m.keep] 29 66
 go_enter Tryz.func4,Tryz.ntmps4
 go_upto_region 1 with fail
 refine at_world (P:=Code.wp _ _ _ _) (w0:=(w.alloc (Obj.cells #[.bool hd,str ob,vs,vm,vn,.bool cd.am,.bool cd.an,.int .i64 cd.si,.int .i64 cd.un,str cd.rg.1,.bool cd.rg.2] 29)).alloc (Obj.cells #[str m.tag.1,.bool m.tag.2,.int .i64 m.mod,.int .i64 m.len,.int .i64 m.hv,.int .i64 m.fr,.int .i64 m.wh,.int .i64 m.er,.slice Ak m.keys.length ck,str m.ten,.bool m.keep] 66)) ?_
 intro w0 hw0
 rw [←hw0] at b0 b1 hg0
 clear hw0
 generalize w.heap.size=g at *
 have r0:∀x,Gr w0 x→x.cell? ⟨g,0,none⟩=some (.bool hd):=fun x h=>(b0.gr h).cell 0
 have r1:∀x,Gr w0 x→x.cell? ⟨g,1,none⟩=some (str ob):=fun x h=>(b0.gr h).cell 1
 have r2:∀x,Gr w0 x→x.cell? ⟨g,2,none⟩=some (vs):=fun x h=>(b0.gr h).cell 2
 have r3:∀x,Gr w0 x→x.cell? ⟨g,3,none⟩=some (vm):=fun x h=>(b0.gr h).cell 3
 have r4:∀x,Gr w0 x→x.cell? ⟨g,4,none⟩=some (vn):=fun x h=>(b0.gr h).cell 4
 have r5:∀x,Gr w0 x→x.cell? ⟨g,5,none⟩=some (.bool cd.am):=fun x h=>(b0.gr h).cell 5
 have r6:∀x,Gr w0 x→x.cell? ⟨g,6,none⟩=some (.bool cd.an):=fun x h=>(b0.gr h).cell 6
 have r7:∀x,Gr w0 x→x.cell? ⟨g,7,none⟩=some (.int .i64 cd.si):=fun x h=>(b0.gr h).cell 7
 have r8:∀x,Gr w0 x→x.cell? ⟨g,8,none⟩=some (.int .i64 cd.un):=fun x h=>(b0.gr h).cell 8
 have r9:∀x,Gr w0 x→x.cell? ⟨g,9,none⟩=some (str cd.rg.1):=fun x h=>(b0.gr h).cell 9
 have r10:∀x,Gr w0 x→x.cell? ⟨g,10,none⟩=some (.bool cd.rg.2):=fun x h=>(b0.gr h).cell 10
 have k0:∀x,Gr w0 x→x.cell? ⟨g+1,0,none⟩=some (str m.tag.1):=fun x h=>(b1.gr h).cell 0
 have k1:∀x,Gr w0 x→x.cell? ⟨g+1,1,none⟩=some (.bool m.tag.2):=fun x h=>(b1.gr h).cell 1
 have k2:∀x,Gr w0 x→x.cell? ⟨g+1,2,none⟩=some (.int .i64 m.mod):=fun x h=>(b1.gr h).cell 2
 have k3:∀x,Gr w0 x→x.cell? ⟨g+1,3,none⟩=some (.int .i64 m.len):=fun x h=>(b1.gr h).cell 3
 have k4:∀x,Gr w0 x→x.cell? ⟨g+1,4,none⟩=some (.int .i64 m.hv):=fun x h=>(b1.gr h).cell 4
 have k5:∀x,Gr w0 x→x.cell? ⟨g+1,5,none⟩=some (.int .i64 m.fr):=fun x h=>(b1.gr h).cell 5
 have k6:∀x,Gr w0 x→x.cell? ⟨g+1,6,none⟩=some (.int .i64 m.wh):=fun x h=>(b1.gr h).cell 6
 have k7:∀x,Gr w0 x→x.cell? ⟨g+1,7,none⟩=some (.int .i64 m.er):=fun x h=>(b1.gr h).cell 7
 have k8:∀x,Gr w0 x→x.cell? ⟨g+1,8,none⟩=some (.slice Ak m.keys.length ck):=fun x h=>(b1.gr h).cell 8
 have k9:∀x,Gr w0 x→x.cell? ⟨g+1,9,none⟩=some (str m.ten):=fun x h=>(b1.gr h).cell 9
 have k10:∀x,Gr w0 x→x.cell? ⟨g+1,10,none⟩=some (.bool m.keep):=fun x h=>(b1.gr h).cell 10
 have h00:Gr w0 w0:=Gr.refl w0
 have HG0:=hid hg0
 clear b0 b1 hg0
 have q0:=r0 _ h00;have q1:=r1 _ h00;have q2:=r2 _ h00;have q3:=r3 _ h00;have q4:=r4 _ h00;have q5:=r5 _ h00;have q6:=r6 _ h00;have q7:=r7 _ h00;have q8:=r8 _ h00;have q9:=r9 _ h00;have q10:=r10 _ h00
 cases R with
 | false=>
   go_wp2_with (first | (go_at_call 7;refine (HRT.out _ HG0.out).mono ?_;rintro e w1 ⟨rfl,h01⟩;have HG1:=hid (Gr.tr HG0.out h01);have p0:=k0 _ h01;have p1:=k1 _ h01;have p2:=k2 _ h01;have p3:=k3 _ h01;have p4:=k4 _ h01;have p5:=k5 _ h01;have p6:=k6 _ h01;have p7:=k7 _ h01;have p8:=k8 _ h01;have p9:=k9 _ h01;have p10:=k10 _ h01) | (go_at_call 21;refine (HMR.out _ HG1.out (by assumption)).mono ?_;rintro e w2 ⟨rfl,h12⟩;have HG2:=hid (Gr.tr HG1.out h12)) | (go_at_call 8;refine (HAL.out _ (by first | exact HG2.out | exact HG1.out)).mono ?_;rintro e wz ⟨rfl,hgz⟩))
   go_ret
   exact ⟨rfl,by first | exact Gr.tr HG2.out hgz | exact Gr.tr HG1.out hgz⟩
 | true=>
 by_cases kA:m.keys.length≤10
 case neg=>
  have n10:10 < m.keys.length:=by omega
  have d10:decide (10 < (m.keys.length:Int))=true:=decide_eq_true (by omega)
  go_wp2_with (first | (go_at_call 7;refine (HRT.out _ HG0.out).mono ?_;rintro e w1 ⟨rfl,h01⟩;have HG1:=hid (Gr.tr HG0.out h01);have p0:=k0 _ h01;have p1:=k1 _ h01;have p2:=k2 _ h01;have p3:=k3 _ h01;have p4:=k4 _ h01;have p5:=k5 _ h01;have p6:=k6 _ h01;have p7:=k7 _ h01;have p8:=k8 _ h01;have p9:=k9 _ h01;have p10:=k10 _ h01) | (go_at_call 21;refine (HMR.out _ HG1.out (by assumption)).mono ?_;rintro e w2 ⟨rfl,h12⟩;have HG2:=hid (Gr.tr HG1.out h12)) | (go_at_call 8;refine (HAL.out _ (by first | exact HG2.out | exact HG1.out)).mono ?_;rintro e wz ⟨rfl,hgz⟩))
  go_ret
  exact ⟨rfl,by first | exact Gr.tr HG2.out hgz | exact Gr.tr HG1.out hgz⟩
 have n10:¬10 < m.keys.length:=by omega
 have d10:decide (10 < (m.keys.length:Int))=false:=decide_eq_false (by omega)
 by_cases kB:m.tag.1.length≤100
 case neg=>
  have n100:100 < m.tag.1.length:=by omega
  have d100:decide (100 < (m.tag.1.length:Int))=true:=decide_eq_true (by omega)
  go_wp2_with (first | (go_at_call 7;refine (HRT.out _ HG0.out).mono ?_;rintro e w1 ⟨rfl,h01⟩;have HG1:=hid (Gr.tr HG0.out h01);have p0:=k0 _ h01;have p1:=k1 _ h01;have p2:=k2 _ h01;have p3:=k3 _ h01;have p4:=k4 _ h01;have p5:=k5 _ h01;have p6:=k6 _ h01;have p7:=k7 _ h01;have p8:=k8 _ h01;have p9:=k9 _ h01;have p10:=k10 _ h01) | (go_at_call 21;refine (HMR.out _ HG1.out (by assumption)).mono ?_;rintro e w2 ⟨rfl,h12⟩;have HG2:=hid (Gr.tr HG1.out h12)) | (go_at_call 8;refine (HAL.out _ (by first | exact HG2.out | exact HG1.out)).mono ?_;rintro e wz ⟨rfl,hgz⟩))
  go_ret
  exact ⟨rfl,by first | exact Gr.tr HG2.out hgz | exact Gr.tr HG1.out hgz⟩
 have n100:¬100 < m.tag.1.length:=by omega
 have d100:decide (100 < (m.tag.1.length:Int))=false:=decide_eq_false (by omega)
 by_cases kC:m.ten.length≤60
 case neg=>
  have n60:60 < m.ten.length:=by omega
  have d60:decide (60 < (m.ten.length:Int))=true:=decide_eq_true (by omega)
  go_wp2_with (first | (go_at_call 7;refine (HRT.out _ HG0.out).mono ?_;rintro e w1 ⟨rfl,h01⟩;have HG1:=hid (Gr.tr HG0.out h01);have p0:=k0 _ h01;have p1:=k1 _ h01;have p2:=k2 _ h01;have p3:=k3 _ h01;have p4:=k4 _ h01;have p5:=k5 _ h01;have p6:=k6 _ h01;have p7:=k7 _ h01;have p8:=k8 _ h01;have p9:=k9 _ h01;have p10:=k10 _ h01) | (go_at_call 21;refine (HMR.out _ HG1.out (by assumption)).mono ?_;rintro e w2 ⟨rfl,h12⟩;have HG2:=hid (Gr.tr HG1.out h12)) | (go_at_call 8;refine (HAL.out _ (by first | exact HG2.out | exact HG1.out)).mono ?_;rintro e wz ⟨rfl,hgz⟩))
  go_ret
  exact ⟨rfl,by first | exact Gr.tr HG2.out hgz | exact Gr.tr HG1.out hgz⟩
 have n60:¬60 < m.ten.length:=by omega
 have d60:decide (60 < (m.ten.length:Int))=false:=decide_eq_false (by omega)
 cases mb with
 | false=>
   go_wp2_with (first | (go_at_call 7;refine (HRT.out _ HG0.out).mono ?_;rintro e w1 ⟨rfl,h01⟩;have HG1:=hid (Gr.tr HG0.out h01);have p0:=k0 _ h01;have p1:=k1 _ h01;have p2:=k2 _ h01;have p3:=k3 _ h01;have p4:=k4 _ h01;have p5:=k5 _ h01;have p6:=k6 _ h01;have p7:=k7 _ h01;have p8:=k8 _ h01;have p9:=k9 _ h01;have p10:=k10 _ h01) | (go_at_call 21;refine (HMR.out _ HG1.out (by assumption)).mono ?_;rintro e w2 ⟨rfl,h12⟩;have HG2:=hid (Gr.tr HG1.out h12)) | (go_at_call 8;refine (HAL.out _ (by first | exact HG2.out | exact HG1.out)).mono ?_;rintro e wz ⟨rfl,hgz⟩))
   go_ret
   exact ⟨rfl,by first | exact Gr.tr HG2.out hgz | exact Gr.tr HG1.out hgz⟩
 | true=>
 have HMO:=hid (HMB.out rfl)
 obtain ⟨B,hBl,hPu,hAk⟩:=HPUT.out rfl
 have HPU:=hid hPu
 have HAK:=hid hAk
 have HSX:=hid (HSH.out rfl HMO.out)
 have HFX:=hid (HFR.out HMO.out)
 obtain ⟨st,F,PS,sz⟩:=SL
 simp only at HFX
 clear HPUT HSH HFR HMB hPu hAk
 go_upto_region 3 with (first | (go_at_call 7;refine (HRT.out _ HG0.out).mono ?_;rintro e w1 ⟨rfl,h01⟩;have HG1:=hid (Gr.tr HG0.out h01);have p0:=k0 _ h01;have p1:=k1 _ h01;have p2:=k2 _ h01;have p3:=k3 _ h01;have p4:=k4 _ h01;have p5:=k5 _ h01;have p6:=k6 _ h01;have p7:=k7 _ h01;have p8:=k8 _ h01;have p9:=k9 _ h01;have p10:=k10 _ h01) | (go_at_call 21;refine (HMR.out _ HG1.out (by assumption)).mono ?_;rintro e w2 ⟨rfl,h12⟩;have HG2:=hid (Gr.tr HG1.out h12)))
 have h02:=Gr.tr h01 h12
 have h022:=h02
 clear h01 h12 HG1 d10 d100 d60 n10 n100 n60 HMR HRT q0 q1 q2 q3 q4 q5 q6 q7 q8 q9 q10 p0 p1 p2 p3 p4 p5 p6 p7 p8 p9 p10
 have q0:=r0 _ h02;have q1:=r1 _ h02;have q2:=r2 _ h02;have q3:=r3 _ h02;have q4:=r4 _ h02;have q5:=r5 _ h02;have q6:=r6 _ h02;have q7:=r7 _ h02;have q8:=r8 _ h02;have q9:=r9 _ h02;have q10:=r10 _ h02
 go_upto_region 4 with (go_at_call 22;refine (HPU.out _ HG2.out).mono ?_;rintro e w3 ⟨A3,c3,rfl,hB3,hg3⟩)
 have HG3:=hid (Gr.tr HG2.out hg3)
 have h03:=Gr.tr h02 hg3
 clear q0 q1 q2 q3 q4 q5 q6 q7 q8 q9 q10 HPU
 go_upto_region 5 with (go_at_call 23;refine (HAK.out _ _ HG3.out hB3).mono ?_;rintro e w4 ⟨us,um,un,rfl,hA4,hg4,-,-,-⟩;obtain ⟨U1,u1,rfl,-,-,-⟩:=id hA4.specs.open;obtain ⟨U2,u2,rfl,-,-,-⟩:=id hA4.mt.open;obtain ⟨U3,u3,rfl,-,-,-⟩:=id hA4.no.open)
 refine at_world (P:=Code.wp _ _ _ _) (w0:=w4.alloc (Obj.cells #[.bool hd,str ob,.slice U1 sp.length u1,.slice U2 cd.mt.length u2,.slice U3 cd.no.length u3,.bool cd.am,.bool cd.an,.int .i64 cd.si,.int .i64 cd.un,str cd.rg.1,.bool cd.rg.2] 29)) ?_
 intro w5 hw5
 have hb5:Bk w5 w4.heap.size 29 #[.bool hd,str ob,.slice U1 sp.length u1,.slice U2 cd.mt.length u2,.slice U3 cd.no.length u3,.bool cd.am,.bool cd.an,.int .i64 cd.si,.int .i64 cd.un,str cd.rg.1,.bool cd.rg.2] (0,0):=by rw [hw5];exact Bk.new w4 _ _ _
 have hg5:Gr w4 w5:=by rw [hw5];exact Gr.al (Gr.refl w4) _
 have HA5:=hid (hA4.gr hg5)
 generalize w4.heap.size=g5 at *
 have h0w5:=Gr.tr h03 (Gr.tr hg4 hg5)
 have HG5:=hid (Gr.tr HG3.out (Gr.tr hg4 hg5))
 have b0:∀x,Gr w5 x→x.cell? ⟨g5,0,none⟩=some (.bool hd):=fun x h=>(hb5.gr h).cell 0
 have b1:∀x,Gr w5 x→x.cell? ⟨g5,1,none⟩=some (str ob):=fun x h=>(hb5.gr h).cell 1
 have b2:∀x,Gr w5 x→x.cell? ⟨g5,2,none⟩=some (.slice U1 sp.length u1):=fun x h=>(hb5.gr h).cell 2
 have b3:∀x,Gr w5 x→x.cell? ⟨g5,3,none⟩=some (.slice U2 cd.mt.length u2):=fun x h=>(hb5.gr h).cell 3
 have b4:∀x,Gr w5 x→x.cell? ⟨g5,4,none⟩=some (.slice U3 cd.no.length u3):=fun x h=>(hb5.gr h).cell 4
 have b5:∀x,Gr w5 x→x.cell? ⟨g5,5,none⟩=some (.bool cd.am):=fun x h=>(hb5.gr h).cell 5
 have b6:∀x,Gr w5 x→x.cell? ⟨g5,6,none⟩=some (.bool cd.an):=fun x h=>(hb5.gr h).cell 6
 have b7:∀x,Gr w5 x→x.cell? ⟨g5,7,none⟩=some (.int .i64 cd.si):=fun x h=>(hb5.gr h).cell 7
 have b8:∀x,Gr w5 x→x.cell? ⟨g5,8,none⟩=some (.int .i64 cd.un):=fun x h=>(hb5.gr h).cell 8
 have b9:∀x,Gr w5 x→x.cell? ⟨g5,9,none⟩=some (str cd.rg.1):=fun x h=>(hb5.gr h).cell 9
 have b10:∀x,Gr w5 x→x.cell? ⟨g5,10,none⟩=some (.bool cd.rg.2):=fun x h=>(hb5.gr h).cell 10
 clear hw5 hb5 hg5 hA4 hg4 hg3 h03 h02 h022 hB3 HAK HG2 HG3
 go_upto_region 7 with fail
 have t0:=fun (x:World) (h:Gr w5 x)=>r0 x (Gr.tr h0w5 h)
 have t1:=fun (x:World) (h:Gr w5 x)=>r1 x (Gr.tr h0w5 h)
 have t2:=fun (x:World) (h:Gr w5 x)=>r2 x (Gr.tr h0w5 h)
 have t3:=fun (x:World) (h:Gr w5 x)=>r3 x (Gr.tr h0w5 h)
 have t4:=fun (x:World) (h:Gr w5 x)=>r4 x (Gr.tr h0w5 h)
 have t5:=fun (x:World) (h:Gr w5 x)=>r5 x (Gr.tr h0w5 h)
 have t6:=fun (x:World) (h:Gr w5 x)=>r6 x (Gr.tr h0w5 h)
 have t7:=fun (x:World) (h:Gr w5 x)=>r7 x (Gr.tr h0w5 h)
 have t8:=fun (x:World) (h:Gr w5 x)=>r8 x (Gr.tr h0w5 h)
 have t9:=fun (x:World) (h:Gr w5 x)=>r9 x (Gr.tr h0w5 h)
 have t10:=fun (x:World) (h:Gr w5 x)=>r10 x (Gr.tr h0w5 h)
 go_cut [10] (fun s10 wx=>∃g10 A c A8 c8,s10=.pointer (some ⟨g10,0,none⟩)∧Bk wx g10 37 #[.int .i64 st,.slice A F.length c,.slice A8 PS.length c8,.int .i64 sz] (0,0)∧Flds wx (.slice A F.length c) F∧Gr w5 wx)
 case first=>
  have p0:=gx_cell (r:=none) (t0 _ (Gr.refl w5)) (by simp)
  have p1:=gx_cell (r:=none) (t1 _ (Gr.refl w5)) (by simp)
  have p2:=gx_cell (r:=none) (t2 _ (Gr.refl w5)) (by simp)
  have p3:=gx_cell (r:=none) (t3 _ (Gr.refl w5)) (by simp)
  have p4:=gx_cell (r:=none) (t4 _ (Gr.refl w5)) (by simp)
  have p5:=gx_cell (r:=none) (t5 _ (Gr.refl w5)) (by simp)
  have p6:=gx_cell (r:=none) (t6 _ (Gr.refl w5)) (by simp)
  have p7:=gx_cell (r:=none) (t7 _ (Gr.refl w5)) (by simp)
  have p8:=gx_cell (r:=none) (t8 _ (Gr.refl w5)) (by simp)
  have p9:=gx_cell (r:=none) (t9 _ (Gr.refl w5)) (by simp)
  have p10:=gx_cell (r:=none) (t10 _ (Gr.refl w5)) (by simp)
  have m0:=gx_cell (r:=none) (k0 _ h0w5) (by simp)
  have m1:=gx_cell (r:=none) (k1 _ h0w5) (by simp)
  have m2:=gx_cell (r:=none) (k2 _ h0w5) (by simp)
  have m3:=gx_cell (r:=none) (k3 _ h0w5) (by simp)
  have m4:=gx_cell (r:=none) (k4 _ h0w5) (by simp)
  have m5:=gx_cell (r:=none) (k5 _ h0w5) (by simp)
  have m6:=gx_cell (r:=none) (k6 _ h0w5) (by simp)
  have m7:=gx_cell (r:=none) (k7 _ h0w5) (by simp)
  have m8:=gx_cell (r:=none) (k8 _ h0w5) (by simp)
  have m9:=gx_cell (r:=none) (k9 _ h0w5) (by simp)
  have m10:=gx_cell (r:=none) (k10 _ h0w5) (by simp)
  refine wp_region_mix [0,1,2,3,4,5] none 3 (by kernel_rfl) rfl (by kernel_rfl) (fun o _ _ _ _ h=>by cases o <;> exact h) ?_
  simp only [pickOps,List.filterMap_cons,List.filterMap_nil,List.getElem?_cons_zero,List.getElem?_cons_succ]
  repeat (first | (refine wpGq_step (fun K hK=>?_);go_simp;refine hK _ ?_;clear hK K) | (refine wpGq_step (fun K hK=>?_);go_simp;simp only [↓IntWalk.iteOmega];go_simp;refine hK _ ?_;clear hK K) | (refine wpGq_step (fun K hK=>?_);go_simp;apply Exists.intro;refine ⟨fun _=>?_,hK _ ?_⟩;(first | (go_at_call 25;exact (HCK.out _ (Gr.tr HG5.out (gr_none (gx_by _ _ _))))) | (go_at_call 26;exact conf_any _));clear hK K))
  refine wpGq_nil ?_
  clear p0 p1 p2 p3 p4 p5 p6 p7 p8 p9 p10 m0 m1 m2 m3 m4 m5 m6 m7 m8 m9 m10
  refine wpG_two 6 7 (by kernel_rfl) rfl rfl rfl rfl (fun K hK wa hga=>?_) (fun K hK wa hga=>?_)
  ·go_simp
   refine ((fun x g=>HSX.out vs vm vn x g (HA.out.gr g)) wa (Gr.tr HG5.out hga)).mono ?_
   rintro e wb ⟨A,c,vp,rfl,hO,hp,-,hgb⟩
   obtain ⟨A8,c8,rfl,-,-,-⟩:=id hp.open
   refine hK _ _ ((Gr.tr hga hgb).by _) ?_
   clear hK K
   refine wpG_one 7 (by kernel_rfl) rfl rfl (fun K hK wc hgc=>?_)
   go_simp
   refine hK _ _ ((Gr.al (Gr.tr (Gr.tr hga hgb) hgc) _).by _) ?_
   clear hK K
   have hbk:=Bk.new wc 37 #[.int .i64 0,.slice none 0 0,.slice none 0 0,.int .i64 0] (0,0)
   have hal:=Gr.al (Gr.refl wc) (Obj.cells #[.int .i64 0,.slice none 0 0,.slice none 0 0,.int .i64 0] 37)
   have hlo:=(Gr.tr (Gr.tr hga hgb) hgc).size
   refine wpG_one 8 (by kernel_rfl) rfl rfl (fun K hK wd hgd=>?_)
   have hbd:=hbk.gr hgd
   have hWd:=Gr.tr (Gr.tr (Gr.tr hga hgb) hgc) (Gr.tr hal hgd)
   have hOd:=hO.gr (Gr.tr hgc (Gr.tr hal hgd))
   clear hga hgb hgc hgd hbk hal hO hp
   generalize wc.heap.size=g10 at *
   obtain ⟨z0,z1,z2,z3⟩:=hbd.cells4
   obtain ⟨f0,f1,f2,f3⟩:=hbd.free4
   go_simp
   refine hK _ _ ((putCs_gr hlo [.int .i64 st,.slice A F.length c,.slice A8 PS.length c8,.int .i64 sz] 0 wd hWd).by none) ?_
   clear hK K z0 z1 z2 z3 f0 f1 f2 f3
   refine wpG_done (by kernel_rfl) (fun wz hgz=>?_)
   have hgz2:Gr (putCs wd g10 [.int .i64 st,.slice A F.length c,.slice A8 PS.length c8,.int .i64 sz] 0) wz:=hgz
   have hb9:=(putCs_bk (l:=[.int .i64 st,.slice A F.length c,.slice A8 PS.length c8,.int .i64 sz]) hbd rfl).gr hgz2
   have hF9:=own_fld ((putCs_own (own_ne_ty hOd hbd (by decide)) [.int .i64 st,.slice A F.length c,.slice A8 PS.length c8,.int .i64 sz] 0 wd hOd).gr hgz2) rfl rfl
   have hg9:=Gr.tr (putCs_gr hlo [.int .i64 st,.slice A F.length c,.slice A8 PS.length c8,.int .i64 sz] 0 wd hWd) hgz2
   go_wp2_with fail
   go_meet
   exact ⟨g10,A,c,A8,c8,rfl,hb9,hF9,hg9⟩
  ·go_simp
   refine hK _ _ ((Gr.al hga _).by _) ?_
   clear hK K
   have hbk:=Bk.new wa 37 #[.int .i64 0,.slice none 0 0,.slice none 0 0,.int .i64 0] (0,0)
   have hal:=Gr.al hga (Obj.cells #[.int .i64 0,.slice none 0 0,.slice none 0 0,.int .i64 0] 37)
   have hlo:=hga.size
   refine wpG_one 6 (by kernel_rfl) rfl rfl (fun K hK wb hgb=>?_)
   go_simp
   refine ((fun x g=>HSX.out vs vm vn x g (HA.out.gr g)) wb (Gr.tr HG5.out (Gr.tr hal hgb))).mono ?_
   rintro e wc ⟨A,c,vp,rfl,hO,hp,-,hgc⟩
   obtain ⟨A8,c8,rfl,-,-,-⟩:=id hp.open
   refine hK _ _ ((Gr.tr hal (Gr.tr hgb hgc)).by _) ?_
   clear hK K
   refine wpG_one 8 (by kernel_rfl) rfl rfl (fun K hK wd hgd=>?_)
   have hbd:=hbk.gr (Gr.tr hgb (Gr.tr hgc hgd))
   have hWd:=Gr.tr hal (Gr.tr hgb (Gr.tr hgc hgd))
   have hOd:=hO.gr hgd
   clear hga hgb hgc hgd hbk hal hO hp
   generalize wa.heap.size=g10 at *
   obtain ⟨z0,z1,z2,z3⟩:=hbd.cells4
   obtain ⟨f0,f1,f2,f3⟩:=hbd.free4
   go_simp
   refine hK _ _ ((putCs_gr hlo [.int .i64 st,.slice A F.length c,.slice A8 PS.length c8,.int .i64 sz] 0 wd hWd).by none) ?_
   clear hK K z0 z1 z2 z3 f0 f1 f2 f3
   refine wpG_done (by kernel_rfl) (fun wz hgz=>?_)
   have hgz2:Gr (putCs wd g10 [.int .i64 st,.slice A F.length c,.slice A8 PS.length c8,.int .i64 sz] 0) wz:=hgz
   have hb9:=(putCs_bk (l:=[.int .i64 st,.slice A F.length c,.slice A8 PS.length c8,.int .i64 sz]) hbd rfl).gr hgz2
   have hF9:=own_fld ((putCs_own (own_ne_ty hOd hbd (by decide)) [.int .i64 st,.slice A F.length c,.slice A8 PS.length c8,.int .i64 sz] 0 wd hOd).gr hgz2) rfl rfl
   have hg9:=Gr.tr (putCs_gr hlo [.int .i64 st,.slice A F.length c,.slice A8 PS.length c8,.int .i64 sz] 0 wd hWd) hgz2
   go_wp2_with fail
   go_meet
   exact ⟨g10,A,c,A8,c8,rfl,hb9,hF9,hg9⟩
 case rest=>
 obtain ⟨ga,A1,c1,B1,e1,rfl,hba,hfa,hg6⟩:=hcut
 generalize wc=w6 at *
 have HBA:=hid hba
 have HFA:=hid hfa
 have h0w6:=Gr.tr h0w5 hg6
 have HG6:=hid (Gr.tr HG5.out hg6)
 have s0:=fun (x:World) (h:Gr w6 x)=>b0 x (Gr.tr hg6 h)
 have s1:=fun (x:World) (h:Gr w6 x)=>b1 x (Gr.tr hg6 h)
 have s2:=fun (x:World) (h:Gr w6 x)=>b2 x (Gr.tr hg6 h)
 have s3:=fun (x:World) (h:Gr w6 x)=>b3 x (Gr.tr hg6 h)
 have s4:=fun (x:World) (h:Gr w6 x)=>b4 x (Gr.tr hg6 h)
 have s5:=fun (x:World) (h:Gr w6 x)=>b5 x (Gr.tr hg6 h)
 have s6:=fun (x:World) (h:Gr w6 x)=>b6 x (Gr.tr hg6 h)
 have s7:=fun (x:World) (h:Gr w6 x)=>b7 x (Gr.tr hg6 h)
 have s8:=fun (x:World) (h:Gr w6 x)=>b8 x (Gr.tr hg6 h)
 have s9:=fun (x:World) (h:Gr w6 x)=>b9 x (Gr.tr hg6 h)
 have s10:=fun (x:World) (h:Gr w6 x)=>b10 x (Gr.tr hg6 h)
 clear hba hfa
 go_upto_region 8 with fail
 go_cut [11] (fun s11 wx=>∃g10 A c A8 c8,s11=.pointer (some ⟨g10,0,none⟩)∧Bk wx g10 37 #[.int .i64 st,.slice A F.length c,.slice A8 PS.length c8,.int .i64 sz] (0,0)∧Flds wx (.slice A F.length c) F∧Gr w6 wx)
 case first=>
  have HCB2:=hid (fun (x:World) (g:Gr w6 x)=>HCB.out _ _ _ x (HA5.out.gr (Gr.tr hg6 g)))
  have HSX2:=hid (fun (x:World) (g:Gr w x) (g6:Gr w6 x)=>HSX.out _ _ _ x g (HA5.out.gr (Gr.tr hg6 g6)))
  have p0:=gx_cell (r:=none) (s0 _ (Gr.refl w6)) (by simp)
  have p1:=gx_cell (r:=none) (s1 _ (Gr.refl w6)) (by simp)
  have p2:=gx_cell (r:=none) (s2 _ (Gr.refl w6)) (by simp)
  have p3:=gx_cell (r:=none) (s3 _ (Gr.refl w6)) (by simp)
  have p4:=gx_cell (r:=none) (s4 _ (Gr.refl w6)) (by simp)
  have p5:=gx_cell (r:=none) (s5 _ (Gr.refl w6)) (by simp)
  have p6:=gx_cell (r:=none) (s6 _ (Gr.refl w6)) (by simp)
  have p7:=gx_cell (r:=none) (s7 _ (Gr.refl w6)) (by simp)
  have p8:=gx_cell (r:=none) (s8 _ (Gr.refl w6)) (by simp)
  have p9:=gx_cell (r:=none) (s9 _ (Gr.refl w6)) (by simp)
  have p10:=gx_cell (r:=none) (s10 _ (Gr.refl w6)) (by simp)
  have m0:=gx_cell (r:=none) (k0 _ h0w6) (by simp)
  have m1:=gx_cell (r:=none) (k1 _ h0w6) (by simp)
  have m2:=gx_cell (r:=none) (k2 _ h0w6) (by simp)
  have m3:=gx_cell (r:=none) (k3 _ h0w6) (by simp)
  have m4:=gx_cell (r:=none) (k4 _ h0w6) (by simp)
  have m5:=gx_cell (r:=none) (k5 _ h0w6) (by simp)
  have m6:=gx_cell (r:=none) (k6 _ h0w6) (by simp)
  have m7:=gx_cell (r:=none) (k7 _ h0w6) (by simp)
  have m8:=gx_cell (r:=none) (k8 _ h0w6) (by simp)
  have m9:=gx_cell (r:=none) (k9 _ h0w6) (by simp)
  have m10:=gx_cell (r:=none) (k10 _ h0w6) (by simp)
  refine wp_region_mix [0,1,2,3,4,5] none 3 (by kernel_rfl) rfl (by kernel_rfl) (fun o _ _ _ _ h=>by cases o <;> exact h) ?_
  simp only [pickOps,List.filterMap_cons,List.filterMap_nil,List.getElem?_cons_zero,List.getElem?_cons_succ]
  repeat (first | (refine wpGq_step (fun K hK=>?_);go_simp;refine hK _ ?_;clear hK K) | (refine wpGq_step (fun K hK=>?_);go_simp;simp only [↓IntWalk.iteOmega];go_simp;refine hK _ ?_;clear hK K) | (refine wpGq_step (fun K hK=>?_);go_simp;apply Exists.intro;refine ⟨fun _=>?_,hK _ ?_⟩;(first | (go_at_call 25;exact (HCB2.out _ (gr_none (gx_by _ _ _)))) | (go_at_call 26;exact conf_any _));clear hK K))
  refine wpGq_nil ?_
  clear p0 p1 p2 p3 p4 p5 p6 p7 p8 p9 p10 m0 m1 m2 m3 m4 m5 m6 m7 m8 m9 m10
  refine wpG_two 6 7 (by kernel_rfl) rfl rfl rfl rfl (fun K hK wa hga=>?_) (fun K hK wa hga=>?_)
  ·go_simp
   refine (HSX2.out wa (Gr.tr HG6.out hga) hga).mono ?_
   rintro e wb ⟨A,c,vp,rfl,hO,hp,-,hgb⟩
   obtain ⟨A8,c8,rfl,-,-,-⟩:=id hp.open
   refine hK _ _ ((Gr.tr hga hgb).by _) ?_
   clear hK K
   refine wpG_one 7 (by kernel_rfl) rfl rfl (fun K hK wc hgc=>?_)
   go_simp
   refine hK _ _ ((Gr.al (Gr.tr (Gr.tr hga hgb) hgc) _).by _) ?_
   clear hK K
   have hbk:=Bk.new wc 37 #[.int .i64 0,.slice none 0 0,.slice none 0 0,.int .i64 0] (0,0)
   have hal:=Gr.al (Gr.refl wc) (Obj.cells #[.int .i64 0,.slice none 0 0,.slice none 0 0,.int .i64 0] 37)
   have hlo:=(Gr.tr (Gr.tr hga hgb) hgc).size
   refine wpG_one 8 (by kernel_rfl) rfl rfl (fun K hK wd hgd=>?_)
   have hbd:=hbk.gr hgd
   have hWd:=Gr.tr (Gr.tr (Gr.tr hga hgb) hgc) (Gr.tr hal hgd)
   have hOd:=hO.gr (Gr.tr hgc (Gr.tr hal hgd))
   clear hga hgb hgc hgd hbk hal hO hp
   generalize wc.heap.size=g10 at *
   obtain ⟨z0,z1,z2,z3⟩:=hbd.cells4
   obtain ⟨f0,f1,f2,f3⟩:=hbd.free4
   go_simp
   refine hK _ _ ((putCs_gr hlo [.int .i64 st,.slice A F.length c,.slice A8 PS.length c8,.int .i64 sz] 0 wd hWd).by none) ?_
   clear hK K z0 z1 z2 z3 f0 f1 f2 f3
   refine wpG_done (by kernel_rfl) (fun wz hgz=>?_)
   have hgz2:Gr (putCs wd g10 [.int .i64 st,.slice A F.length c,.slice A8 PS.length c8,.int .i64 sz] 0) wz:=hgz
   have hb9:=(putCs_bk (l:=[.int .i64 st,.slice A F.length c,.slice A8 PS.length c8,.int .i64 sz]) hbd rfl).gr hgz2
   have hF9:=own_fld ((putCs_own (own_ne_ty hOd hbd (by decide)) [.int .i64 st,.slice A F.length c,.slice A8 PS.length c8,.int .i64 sz] 0 wd hOd).gr hgz2) rfl rfl
   have hg9:=Gr.tr (putCs_gr hlo [.int .i64 st,.slice A F.length c,.slice A8 PS.length c8,.int .i64 sz] 0 wd hWd) hgz2
   go_wp2_with fail
   go_meet
   exact ⟨g10,A,c,A8,c8,rfl,hb9,hF9,hg9⟩
  ·go_simp
   refine hK _ _ ((Gr.al hga _).by _) ?_
   clear hK K
   have hbk:=Bk.new wa 37 #[.int .i64 0,.slice none 0 0,.slice none 0 0,.int .i64 0] (0,0)
   have hal:=Gr.al hga (Obj.cells #[.int .i64 0,.slice none 0 0,.slice none 0 0,.int .i64 0] 37)
   have hlo:=hga.size
   refine wpG_one 6 (by kernel_rfl) rfl rfl (fun K hK wb hgb=>?_)
   go_simp
   refine (HSX2.out wb (Gr.tr HG6.out (Gr.tr hal hgb)) (Gr.tr hal hgb)).mono ?_
   rintro e wc ⟨A,c,vp,rfl,hO,hp,-,hgc⟩
   obtain ⟨A8,c8,rfl,-,-,-⟩:=id hp.open
   refine hK _ _ ((Gr.tr hal (Gr.tr hgb hgc)).by _) ?_
   clear hK K
   refine wpG_one 8 (by kernel_rfl) rfl rfl (fun K hK wd hgd=>?_)
   have hbd:=hbk.gr (Gr.tr hgb (Gr.tr hgc hgd))
   have hWd:=Gr.tr hal (Gr.tr hgb (Gr.tr hgc hgd))
   have hOd:=hO.gr hgd
   clear hga hgb hgc hgd hbk hal hO hp
   generalize wa.heap.size=g10 at *
   obtain ⟨z0,z1,z2,z3⟩:=hbd.cells4
   obtain ⟨f0,f1,f2,f3⟩:=hbd.free4
   go_simp
   refine hK _ _ ((putCs_gr hlo [.int .i64 st,.slice A F.length c,.slice A8 PS.length c8,.int .i64 sz] 0 wd hWd).by none) ?_
   clear hK K z0 z1 z2 z3 f0 f1 f2 f3
   refine wpG_done (by kernel_rfl) (fun wz hgz=>?_)
   have hgz2:Gr (putCs wd g10 [.int .i64 st,.slice A F.length c,.slice A8 PS.length c8,.int .i64 sz] 0) wz:=hgz
   have hb9:=(putCs_bk (l:=[.int .i64 st,.slice A F.length c,.slice A8 PS.length c8,.int .i64 sz]) hbd rfl).gr hgz2
   have hF9:=own_fld ((putCs_own (own_ne_ty hOd hbd (by decide)) [.int .i64 st,.slice A F.length c,.slice A8 PS.length c8,.int .i64 sz] 0 wd hOd).gr hgz2) rfl rfl
   have hg9:=Gr.tr (putCs_gr hlo [.int .i64 st,.slice A F.length c,.slice A8 PS.length c8,.int .i64 sz] 0 wd hWd) hgz2
   go_wp2_with fail
   go_meet
   exact ⟨g10,A,c,A8,c8,rfl,hb9,hF9,hg9⟩
 case rest=>
 obtain ⟨gb,A2,c2,B2,e2,rfl,hbb,-,hg7⟩:=hcut
 generalize wc=w7 at *
 have hba:=HBA.out.gr hg7
 have HFA7:=hid (HFA.out.gr hg7)
 have HG7:=hid (Gr.tr HG6.out hg7)
 have h07:=Gr.tr h0w6 hg7
 have a0:=hba.cell 0;have a1:=hba.cell 1;have a2:=hba.cell 2;have a3:=hba.cell 3
 have d0:=hbb.cell 0;have d2:=hbb.cell 2;have d3:=hbb.cell 3
 simp only [List.getElem?_toArray,List.getElem?_cons_zero,List.getElem?_cons_succ] at a0 a1 a2 a3 d0 d2 d3
 clear hba hbb HBA HFA HSX HCK HCB
 go_upto_region 11 with fail
 clear a0 a2 a3 d0 d2 d3
 go_upto_region 12 with (go_at_call 27;refine (HFX.out _ _ HG7.out HFA7.out).mono ?_;rintro e w8 ⟨v7,rfl,hs7,hg8⟩;obtain ⟨A7,c7,rfl,-,-,-⟩:=id hs7.open)
 refine at_world (P:=Code.wp _ _ _ _) (w0:=w8.alloc (Obj.cells #[str m.tag.1,.bool m.tag.2,.int .i64 m.mod,.int .i64 m.len,.int .i64 m.hv,.int .i64 m.fr,.int .i64 m.wh,.int .i64 m.er,.slice A7 m.keys.length c7,str m.ten,.bool m.keep] 66)) ?_
 intro w9 hw9
 have hb9:Bk w9 w8.heap.size 66 #[str m.tag.1,.bool m.tag.2,.int .i64 m.mod,.int .i64 m.len,.int .i64 m.hv,.int .i64 m.fr,.int .i64 m.wh,.int .i64 m.er,.slice A7 m.keys.length c7,str m.ten,.bool m.keep] (0,0):=by rw [hw9];exact Bk.new w8 _ _ _
 have hg9:Gr w8 w9:=by rw [hw9];exact Gr.al (Gr.refl w8) _
 have HS9:=hid (hs7.gr hg9)
 generalize w8.heap.size=g9 at *
 have HG9:=hid (Gr.tr HG7.out (Gr.tr hg8 hg9))
 have h09:=Gr.tr h07 (Gr.tr hg8 hg9)
 have kk0:=k0 _ h09;have kk1:=k1 _ h09;have kk2:=k2 _ h09;have kk3:=k3 _ h09;have kk4:=k4 _ h09;have kk5:=k5 _ h09;have kk6:=k6 _ h09;have kk7:=k7 _ h09;have kk8:=k8 _ h09;have kk9:=k9 _ h09;have kk10:=k10 _ h09
 have y0:=hb9.cell 0;have y1:=hb9.cell 1;have y2:=hb9.cell 2;have y3:=hb9.cell 3;have y4:=hb9.cell 4;have y5:=hb9.cell 5;have y6:=hb9.cell 6;have y7:=hb9.cell 7;have y8:=hb9.cell 8;have y9:=hb9.cell 9;have y10:=hb9.cell 10;simp only [List.getElem?_toArray,List.getElem?_cons_zero,List.getElem?_cons_succ] at y0 y1 y2 y3 y4 y5 y6 y7 y8 y9 y10
 clear hw9 hb9 hg9 hg8 hs7
 go_wp2_with (first | (go_at_call 28;refine (HSM.out _ _ _ HG9.out HS9.out).mono ?_;rintro e wx ⟨rfl,hgx⟩;have HGX:=hid (Gr.tr HG9.out hgx)) | (go_at_call 8;refine (HAL.out _ HGX.out).mono ?_;rintro e wz ⟨rfl,hgz⟩))
 go_ret
 exact ⟨rfl,Gr.tr HGX.out hgz⟩
end Go.Proofs.YtflepnkpihfidaaGreatDoor.wtknown
