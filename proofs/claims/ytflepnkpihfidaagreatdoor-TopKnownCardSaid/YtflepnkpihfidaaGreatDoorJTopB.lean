/- Parts. No conditions but those that each theorem names. -/
import Derived.Test.YtflepnkpihfidaaGreatDoorJTopA
import Derived.Test.YtflepnkpihfidaaGreatDoorJSpec
import Derived.Test.YtflepnkpihfidaaGreatDoorJGate6
import Derived.Test.YtflepnkpihfidaaGreatDoorMulti20
import Derived.Shelf.SlSortCmp.SmallK
import Derived.Test.YtflepnkpihfidaaGreatDoorJWords
import Derived.Test.YtflepnkpihfidaaGreatDoorShelfB
import Derived.OwnWalk
set_option linter.unusedVariables false
set_option linter.unusedSimpArgs false
namespace Go.Proofs.YtflepnkpihfidaaGreatDoor
open Lib (hid)
open Go.RowKit
structure PutG (W:World) (gl:Nat) (F:List Fld) (x:World):Prop where
 gr:Gr W x
 lo:W.heap.size≤gl
 row:∃v,Bk x gl 34 #[v] (0,0)∧Own W x 127 2 v F.length (flat2 F)
theorem PutG.to {W:World} {gl:Nat} {F:List Fld} {x x':World} (h:PutG W gl F x) (g:Gr x x'):PutG W gl F x':=by
 obtain ⟨v,h1,h2⟩:=h.row
 exact ⟨Gr.tr h.gr g,h.lo,v,h1.gr g,h2.gr g⟩
theorem putG_app {W x:World} {gl:Nat} {F:List Fld} (h:PutG W gl F x) {v:Value} (hb:Bk x gl 34 #[v] (0,0)) (hown:Own W x 127 2 v F.length (flat2 F)) {v':Value} {x':World} {a b:List UInt8} (hown':Own W x' 127 2 v' (F.length+1) (flat2 F++[str a,str b])) (happ:App v v' x x') :
  Bk x' gl 34 #[v] (0,0)∧PutG W gl (F++[(a,b)]) (x'.setCell ⟨gl,0,none⟩ v')∧KeepB x (x'.setCell ⟨gl,0,none⟩ v') gl 127:=by
 have hb':Bk x' gl 34 #[v] (0,0):=(happ.grown.block gl hb.lt (Ne.symm (own_ne_ty hown hb fldsNeF))).trans hb
 refine ⟨hb',⟨Gr.st (happ.gr h.gr hown) h.lo _,h.lo,_,hb'.set 0 _,?_⟩,?_⟩
 ·have hst:=own_kr hown' (by_st ((Gr.refl x').by (some gl)) 0 v') (.inr (own_ne_ty hown' hb' fldsNeF))
  rw [flat2_append,List.length_append]
  exact hst
 ·intro k t cs fr hne hk hbk
  have:Bk x' k t cs fr:=(happ.grown.block k hbk.lt (Ne.symm (own_ne_ty hown hbk hne))).trans hbk
  exact this.far (p:=⟨gl,0,none⟩) hk _
set_option maxHeartbeats 2000000 in
theorem putM_any (name val:List UInt8) (W x:World) (gl:Nat) (F:List Fld) (h:PutG W gl F x) (hl:F.length≤100) :
  Calls Tryz.prog 140 #[str name,str val,.pointer (some ⟨gl,0,none⟩)] x fun e x'=>e=.returned (.tuple #[])∧PutG W gl (F++[(name,val)]) x'∧KeepB x x' gl 127:=by
 obtain ⟨v,hb,hown⟩:=h.row
 obtain ⟨A,c,rfl⟩:=hown.form
 have q:x.cell? ⟨gl,0,none⟩=some (.slice A F.length c):=hb.cell 0
 have HB:=hid hb;have HO:=hid hown;have HH:=hid h
 clear hb hown h
 go_enter Tryz.func140,Tryz.ntmps140
 go_wp2_with (at_builtin;refine wpList_app1x (W0:=W) (W:=x) (n:=F.length) (xs:=flat2 F) (v:=.slice A F.length c) (news:=[str name,str val]) elemFld8 rfl _ _ rfl rfl rfl HH.out.gr.size HO.out rfl (one_fld8 _ _) (by omega) (by omega) ?_;intro v' x' hown' happ;obtain ⟨hb',hP,hK⟩:=putG_app HH.out HB.out HO.out hown' happ;obtain ⟨A',c',rfl⟩:=hown'.form;have q':x'.cell? ⟨gl,0,none⟩=some (.slice A F.length c):=hb'.cell 0;have f':=hb'.free 0 (.inr (Nat.le_refl _));have HP:=hid hP;have HK:=hid hK;clear hP hK hb' happ hown')
 go_end0
 exact ⟨rfl,HP.out,HK.out⟩
set_option maxHeartbeats 2000000 in
theorem putR_any (name val:List UInt8) (W x:World) (gl:Nat) (F:List Fld) (h:PutG W gl F x) (hl:F.length≤100) :
  Calls Tryz.prog 145 #[str name,str val,.pointer (some ⟨gl,0,none⟩)] x fun e x'=>e=.returned (.tuple #[])∧PutG W gl (F++[(name,val)]) x'∧KeepB x x' gl 127:=by
 obtain ⟨v,hb,hown⟩:=h.row
 obtain ⟨A,c,rfl⟩:=hown.form
 have q:x.cell? ⟨gl,0,none⟩=some (.slice A F.length c):=hb.cell 0
 have HB:=hid hb;have HO:=hid hown;have HH:=hid h
 clear hb hown h
 go_enter Tryz.func145,Tryz.ntmps145
 go_wp2_with (at_builtin;refine wpList_app1x (W0:=W) (W:=x) (n:=F.length) (xs:=flat2 F) (v:=.slice A F.length c) (news:=[str name,str val]) elemFld8 rfl _ _ rfl rfl rfl HH.out.gr.size HO.out rfl (one_fld8 _ _) (by omega) (by omega) ?_;intro v' x' hown' happ;obtain ⟨hb',hP,hK⟩:=putG_app HH.out HB.out HO.out hown' happ;obtain ⟨A',c',rfl⟩:=hown'.form;have q':x'.cell? ⟨gl,0,none⟩=some (.slice A F.length c):=hb'.cell 0;have f':=hb'.free 0 (.inr (Nat.le_refl _));have HP:=hid hP;have HK:=hid hK;clear hP hK hb' happ hown')
 go_end0
 exact ⟨rfl,HP.out,HK.out⟩
theorem metaNeF:(66:Nat)≠127:=by decide
def MFEnd (F:List Fld) (w:World) (e:Ending) (w':World):Prop:=∃A c,e=.returned (.tuple #[.slice A F.length c,.int .i64 0])∧Own w w' 127 2 (.slice A F.length c) F.length (flat2 F)∧Gr w w'
theorem tagF_le (m:MetaT):(tagF m).length≤1:=by unfold tagF;split <;> simp
theorem modF_le (m:MetaT):(modF m).length≤1:=by unfold modF;split <;> simp
theorem keyF_le (m:MetaT):(keyF m).length≤1:=by unfold keyF;split <;> simp
theorem tenF_le (m:MetaT):(tenF m).length≤1:=by unfold tenF;split <;> simp
theorem keyB_le {k:List UInt8} (h:keyB k=true):k.length≤200:=by
 unfold keyB at h
 simp only [Bool.and_eq_true,decide_eq_true_eq] at h
 exact h.2.1
theorem itoa_zero:Lib.itoa 0=[48]:=by
 unfold Lib.itoa
 rw [if_neg (by omega),show (0:Int).toNat=0 from rfl,Lib.decDigits,dif_pos (by omega)]
 rfl
set_option maxHeartbeats 16000000 in
set_option maxRecDepth 100000 in
theorem metaFields_any (m:MetaT) (vk:Value) (w:World) (hk:Strs w vk m.keys) (hl:MetaLow m) (hm:MetaOk m) (hp:Pw w):Calls Tryz.prog 70 #[metaV m vk,.int .i64 0] w (MFEnd (metaF m) w):=by
 have hfew:=hm.few
 have HRT:=hid (fun (x:World) (g:Gr w x)=>metaRight_any m vk x (hk.gr g) hl (by omega))
 rw [metaB_iff.2 hm] at HRT
 have HTK:=hid (fun (x:World)=>ticks_any 0 x)
 rw [show ticksB 0=true from by decide] at HTK
 have HOF:=hid (fun (x:World)=>ctlOf_any m vk x hm)
 have HTX:=hid (fun (x:World) (g:Gr w x)=>ctlText_any m x hm (hp.gr g))
 have HTG:=hid (fun (x:World)=>tagText_any m.tag x (by have:=hl.tag;omega))
 have HDT:=hid (fun (h:m.mod≠-1) (x:World)=>show Calls Tryz.prog 122 #[.int .i64 m.mod] x fun e w'=>e=.returned (.tuple #[str (dateT m.mod.toNat),.int .i64 0])∧Gr x w' from by
  have h2:=hm.mod
  have h3:((m.mod.toNat:Nat):Int)=m.mod:=by omega
  have:=textD_in m.mod.toNat x (by omega)
  rw [h3] at this;exact this)
 have HJN:=hid (fun (x:World) (g:Gr w x)=>joinB_any vk m.keys x (hk.gr g) (by omega) (fun k hkk=>by have:=keyB_le (keysB_all _ _ hm.keys k hkk);omega))
 have HFL:=hid (fun (n:Int) (h:0≤n∧n≤1099511627776) (x:World) (g:Gr w x)=>fmtInt_any n x (hp.gr g) (by omega) (by omega))
 have HAG:=hid (fun (x:World) (g:Gr w x)=>fmtInt_any 0 x (hp.gr g) (by omega) (by omega))
 rw [itoa_zero] at HAG
 have HLN:=hid hm.len
 have HHV:=hid hm.hv
 have HF:=hid (show metaF m=(((((tagF m++modF m)++[(ccN,joinV (ctlP m))])++[(ageN,[48])])++keyF m)++tenF m)++lenF m from by unfold metaF;simp only [List.append_assoc,List.cons_append,List.nil_append])
 have f1:=tagF_le m;have f2:=modF_le m;have f3:=keyF_le m;have f4:=tenF_le m
 have HT1:=hid (show m.tag=([],false)→tagF m=[] from fun h=>by unfold tagF;rw [if_pos h])
 have HT2:=hid (show m.tag≠([],false)→tagF m=[(etagN,tagTxt m.tag)] from fun h=>by unfold tagF;rw [if_neg h])
 have HM1:=hid (show m.mod= -1→modF m=[] from fun h=>by unfold modF;rw [if_pos h])
 have HM2:=hid (show m.mod≠-1→modF m=[(lmodN,dateT m.mod.toNat)] from fun h=>by unfold modF;rw [if_neg h])
 have HK1:=hid (show m.keys=[]→keyF m=[] from fun h=>by unfold keyF;rw [if_pos h])
 have HK2:=hid (show m.keys≠[]→keyF m=[(skeyN,joinB m.keys)] from fun h=>by unfold keyF;rw [if_neg h])
 have HN1:=hid (show m.ten=[]→tenF m=[] from fun h=>by unfold tenF;rw [if_pos h])
 have HN2:=hid (show m.ten≠[]→tenF m=[(xtenN,m.ten)] from fun h=>by unfold tenF;rw [if_neg h])
 have HL1:=hid (show m.len= -1→lenF m=[(xlenN,[42])]++[(xhavN,Lib.itoa m.hv)] from fun h=>by unfold lenF;rw [if_pos h];rfl)
 have HL2:=hid (show m.len≠-1→lenF m=[(xlenN,Lib.itoa m.len)] from fun h=>by unfold lenF;rw [if_neg h])
 have hqe:=neq_tag
 have hqg:=fun (w:World) (x y:Operand) (a b:Array Value)=>run_eqGuard_agg (P:=Tryz.prog) w .neq 25 x y a b (by kernel_rfl)
 clear hm hl hp
 obtain ⟨A,c,rfl,-,-,-⟩:=id hk.open
 clear hk
 generalize joinV (ctlP m)=cct at *
 generalize tagF m=tF at *
 generalize modF m=mF at *
 generalize keyF m=kF at *
 generalize tenF m=nF at *
 generalize lenF m=lF at *
 generalize metaF m=MF at *
 have HRU:=hid (show ∃rv,rv=Value.agg (ruleCs (ruleM m)).toArray from ⟨_,rfl⟩)
 generalize Value.agg (ruleCs (ruleM m)).toArray=rv at *
 clear HRU
 generalize tagTxt m.tag=ttx at *
 generalize joinB m.keys=jkx at *
 obtain ⟨⟨tg,tk⟩,mod,len,hv,fr,wh,er,keys,ten,kp⟩:=m
 unfold metaV metaCs at *
 simp only at *
 have hbx:=Bk.new w 66 #[str tg,.bool tk,.int .i64 mod,.int .i64 len,.int .i64 hv,.int .i64 fr,.int .i64 wh,.int .i64 er,.slice A keys.length c,str ten,.bool kp] (0,0)
 have hG0:=Gr.al (Gr.refl w) (Obj.cells #[str tg,.bool tk,.int .i64 mod,.int .i64 len,.int .i64 hv,.int .i64 fr,.int .i64 wh,.int .i64 er,.slice A keys.length c,str ten,.bool kp] 66)
 go_enter Tryz.func70,Tryz.ntmps70
 go_upto_region 1 with fail
 generalize w.alloc (Obj.cells #[str tg,.bool tk,.int .i64 mod,.int .i64 len,.int .i64 hv,.int .i64 fr,.int .i64 wh,.int .i64 er,.slice A keys.length c,str ten,.bool kp] 66)=w0 at *
 generalize hgq:w.heap.size=g1 at *
 have r0:∀x,Gr w0 x→x.cell? ⟨g1,0,none⟩=some (str tg):=fun x h=>(hbx.gr h).cell 0
 have r1:∀x,Gr w0 x→x.cell? ⟨g1,1,none⟩=some (.bool tk):=fun x h=>(hbx.gr h).cell 1
 have r2:∀x,Gr w0 x→x.cell? ⟨g1,2,none⟩=some (.int .i64 mod):=fun x h=>(hbx.gr h).cell 2
 have r3:∀x,Gr w0 x→x.cell? ⟨g1,3,none⟩=some (.int .i64 len):=fun x h=>(hbx.gr h).cell 3
 have r4:∀x,Gr w0 x→x.cell? ⟨g1,4,none⟩=some (.int .i64 hv):=fun x h=>(hbx.gr h).cell 4
 have r5:∀x,Gr w0 x→x.cell? ⟨g1,5,none⟩=some (.int .i64 fr):=fun x h=>(hbx.gr h).cell 5
 have r6:∀x,Gr w0 x→x.cell? ⟨g1,6,none⟩=some (.int .i64 wh):=fun x h=>(hbx.gr h).cell 6
 have r7:∀x,Gr w0 x→x.cell? ⟨g1,7,none⟩=some (.int .i64 er):=fun x h=>(hbx.gr h).cell 7
 have r8:∀x,Gr w0 x→x.cell? ⟨g1,8,none⟩=some (.slice A keys.length c):=fun x h=>(hbx.gr h).cell 8
 have r9:∀x,Gr w0 x→x.cell? ⟨g1,9,none⟩=some (str ten):=fun x h=>(hbx.gr h).cell 9
 have r10:∀x,Gr w0 x→x.cell? ⟨g1,10,none⟩=some (.bool kp):=fun x h=>(hbx.gr h).cell 10
 have h00:Gr w0 w0:=Gr.refl w0
 have HG0:=hid hG0
 have HBX:=hid hbx
 clear hbx hG0
 go_upto_region 3 with (first
  | (go_at_call 21;refine (HRT.out _ HG0.out).mono ?_;rintro e w1 ⟨rfl,hg1⟩;have h01:Gr w0 w1:=hg1;clear hg1)
  | (go_at_call 57;refine (HTK.out _).mono ?_;rintro e w2 ⟨rfl,hg2⟩;have h02:Gr w0 w2:=Gr.tr h01 hg2;clear hg2))
 clear HRT HTK r0 r1 r2 r3 r4 r5 r6 r7 r8 r9 r10 h00
 have hbx:=HBX.out.gr h02
 go_upto_region 4 with fail
 have hgl:=Bk.new w2 34 #[.slice none 0 0] (0,0)
 have hga:=Gr.al (Gr.refl w2) (Obj.cells #[.slice none 0 0] 34)
 have HP:=hid (show PutG w w2.heap.size [] (w2.alloc (Obj.cells #[.slice none 0 0] 34)) from ⟨Gr.tr (Gr.tr HG0.out h02) hga,by have:=HG0.out.size;have:=h02.size;omega,_,hgl,Own.nil _ _ _ _⟩)
 have HB:=hid (hbx.gr hga)
 have HNE:=hid (show g1≠w2.heap.size from by have:=hbx.lt;omega)
 clear hgl hga hbx h01 h02 HG0 HBX hgq
 generalize w2.alloc (Obj.cells #[.slice none 0 0] 34)=wc at *
 generalize w2.heap.size=gl at *
 go_upto_region 5 with fail
 have q0:wc.cell? ⟨g1,0,none⟩=some (str tg):=HB.out.cell 0
 have q1:wc.cell? ⟨g1,1,none⟩=some (.bool tk):=HB.out.cell 1
 go_upto_if 22 with fail
 clear q0 q1
 go_cut [] (fun wx=>PutG w gl ([]++tF) wx∧Bk wx g1 66 #[str tg,.bool tk,.int .i64 mod,.int .i64 len,.int .i64 hv,.int .i64 fr,.int .i64 wh,.int .i64 er,.slice A keys.length c,str ten,.bool kp] (0,0))
 case first=>
  have q0:wc.cell? ⟨g1,0,none⟩=some (str tg):=HB.out.cell 0
  have q1:wc.cell? ⟨g1,1,none⟩=some (.bool tk):=HB.out.cell 1
  cases hz:((tg,tk)==(([],false):TagT)) with
  | true=>
    have HE:=hid (HT1.out (by simpa using hz))
    go_wp2_with fail
    go_meet
    exact by rw [HE.out,List.append_nil];exact ⟨HP.out,HB.out⟩
  | false=>
    have HE:=hid (HT2.out (by simpa using hz))
    go_wp2_with (first
     | (go_at_call 123;refine (HTG.out _).mono ?_;rintro e w3 ⟨rfl,hG3⟩;have HP3:=hid (HP.out.to hG3);have HB3:=hid (HB.out.gr hG3);clear hG3)
     | (go_at_call 140;refine (putM_any etagN _ w _ gl _ HP3.out (by simp)).mono ?_;rintro e w4 ⟨rfl,hP4,hK4⟩;have HP4:=hid hP4;have HB4:=hid (hK4 _ _ _ _ metaNeF HNE.out HB3.out);clear hP4 hK4))
    go_meet
    exact by rw [HE.out];exact ⟨HP4.out,HB4.out⟩
 case rest=>
 obtain ⟨hP,hB⟩:=hcut
 rw [List.nil_append] at hP
 have HP:=hid hP;have HB:=hid hB
 clear hP hB HT1 HT2 HTG
 have q2:wc.cell? ⟨g1,2,none⟩=some (.int .i64 mod):=HB.out.cell 2
 go_upto_if 30 with fail
 clear q2
 go_cut [] (fun wx=>PutG w gl (tF++mF) wx∧Bk wx g1 66 #[str tg,.bool tk,.int .i64 mod,.int .i64 len,.int .i64 hv,.int .i64 fr,.int .i64 wh,.int .i64 er,.slice A keys.length c,str ten,.bool kp] (0,0))
 case first=>
  have q2:wc.cell? ⟨g1,2,none⟩=some (.int .i64 mod):=HB.out.cell 2
  by_cases h0:mod= -1
  ·have HE:=hid (HM1.out h0)
   have k0:(mod != -1)=false:=by simp [h0]
   clear h0
   go_wp2_with fail
   go_meet
   exact by rw [HE.out,List.append_nil];exact ⟨HP.out,HB.out⟩
  ·have HE:=hid (HM2.out h0)
   have k0:(mod != -1)=true:=by simp [h0]
   have HDX:=hid (HDT.out h0)
   clear h0
   go_wp2_with (first
    | (go_at_call 122;refine (HDX.out _).mono ?_;rintro e w3 ⟨rfl,hG3⟩;have HP3:=hid (HP.out.to hG3);have HB3:=hid (HB.out.gr hG3);clear hG3)
    | (go_at_call 140;refine (putM_any lmodN _ w _ gl _ HP3.out (by omega)).mono ?_;rintro e w4 ⟨rfl,hP4,hK4⟩;have HP4:=hid hP4;have HB4:=hid (hK4 _ _ _ _ metaNeF HNE.out HB3.out);clear hP4 hK4))
   go_meet
   exact by rw [HE.out];exact ⟨HP4.out,HB4.out⟩
 case rest=>
 obtain ⟨hP,hB⟩:=hcut
 have HP:=hid hP;have HB:=hid hB
 clear hP hB HM1 HM2 HDT
 have q0:wc.cell? ⟨g1,0,none⟩=some (str tg):=HB.out.cell 0
 have q1:wc.cell? ⟨g1,1,none⟩=some (.bool tk):=HB.out.cell 1
 have q2:wc.cell? ⟨g1,2,none⟩=some (.int .i64 mod):=HB.out.cell 2
 have q3:wc.cell? ⟨g1,3,none⟩=some (.int .i64 len):=HB.out.cell 3
 have q4:wc.cell? ⟨g1,4,none⟩=some (.int .i64 hv):=HB.out.cell 4
 have q5:wc.cell? ⟨g1,5,none⟩=some (.int .i64 fr):=HB.out.cell 5
 have q6:wc.cell? ⟨g1,6,none⟩=some (.int .i64 wh):=HB.out.cell 6
 have q7:wc.cell? ⟨g1,7,none⟩=some (.int .i64 er):=HB.out.cell 7
 have q8:wc.cell? ⟨g1,8,none⟩=some (.slice A keys.length c):=HB.out.cell 8
 have q9:wc.cell? ⟨g1,9,none⟩=some (str ten):=HB.out.cell 9
 have q10:wc.cell? ⟨g1,10,none⟩=some (.bool kp):=HB.out.cell 10
 go_upto_region 11 with (first
  | (go_at_call 142;refine (HOF.out _).mono ?_;rintro e w3 ⟨rfl,hG3⟩;have HP3:=hid (HP.out.to hG3);have HB3:=hid (HB.out.gr hG3);clear hG3)
  | (go_at_call 141;refine (HTX.out _ HP3.out.gr).mono ?_;rintro e w4 ⟨rfl,hG4⟩;have HP4:=hid (HP3.out.to hG4);have HB4:=hid (HB3.out.gr hG4);clear hG4)
  | (go_at_call 140;refine (putM_any ccN _ w _ gl _ HP4.out (by simp only [List.length_append];omega)).mono ?_;rintro e w5 ⟨rfl,hP5,hK5⟩;have HP5:=hid hP5;have HB5:=hid (hK5 _ _ _ _ metaNeF HNE.out HB4.out);clear hP5 hK5))
 clear q0 q1 q2 q3 q4 q5 q6 q7 q8 q9 q10 HOF HTX HP HP3 HP4 HB HB3 HB4
 go_upto_region 12 with (first
  | (go_at_call 119;refine (HAG.out _ HP5.out.gr).mono ?_;rintro e w6 ⟨rfl,hG6⟩;have HP6:=hid (HP5.out.to hG6);have HB6:=hid (HB5.out.gr hG6);clear hG6)
  | (go_at_call 140;refine (putM_any ageN _ w _ gl _ HP6.out (by simp only [List.length_append,List.length_cons,List.length_nil];omega)).mono ?_;rintro e w7 ⟨rfl,hP7,hK7⟩;have HP7:=hid hP7;have HB7:=hid (hK7 _ _ _ _ metaNeF HNE.out HB6.out);clear hP7 hK7))
 clear HAG HP5 HP6 HB5 HB6
 have HLC:=hid (show (((tF++mF)++[(ccN,cct)])++[(ageN,[48])]).length≤4 from by simp only [List.length_append,List.length_cons,List.length_nil];omega)
 generalize (((tF++mF)++[(ccN,cct)])++[(ageN,[48])])=F4 at *
 have q8:w7.cell? ⟨g1,8,none⟩=some (.slice A keys.length c):=HB7.out.cell 8
 go_upto_if 52 with fail
 clear q8
 go_cut [] (fun wx=>PutG w gl (F4++kF) wx∧Bk wx g1 66 #[str tg,.bool tk,.int .i64 mod,.int .i64 len,.int .i64 hv,.int .i64 fr,.int .i64 wh,.int .i64 er,.slice A keys.length c,str ten,.bool kp] (0,0))
 case first=>
  have q8:w7.cell? ⟨g1,8,none⟩=some (.slice A keys.length c):=HB7.out.cell 8
  by_cases h0:0 < keys.length
  ·have HE:=hid (HK2.out (List.ne_nil_of_length_pos h0))
   go_wp2_with (first
    | (go_at_call 143;refine (HJN.out _ HP7.out.gr).mono ?_;rintro e w3 ⟨rfl,hG3⟩;have HP3:=hid (HP7.out.to hG3);have HB3:=hid (HB7.out.gr hG3);clear hG3)
    | (go_at_call 140;refine (putM_any skeyN _ w _ gl _ HP3.out (by have:=HLC.out;omega)).mono ?_;rintro e w4 ⟨rfl,hP4,hK4⟩;have HP4:=hid hP4;have HB4:=hid (hK4 _ _ _ _ metaNeF HNE.out HB3.out);clear hP4 hK4))
   go_meet
   exact by rw [HE.out];exact ⟨HP4.out,HB4.out⟩
  ·have HE:=hid (HK1.out (List.eq_nil_of_length_eq_zero (by omega)))
   go_wp2_with fail
   go_meet
   exact by rw [HE.out,List.append_nil];exact ⟨HP7.out,HB7.out⟩
 case rest=>
 obtain ⟨hP,hB⟩:=hcut
 have HP:=hid hP;have HB:=hid hB
 clear hP hB HK1 HK2 HJN HP7 HB7
 have q9:wc.cell? ⟨g1,9,none⟩=some (str ten):=HB.out.cell 9
 go_upto_if 60 with fail
 clear q9
 go_cut [] (fun wx=>PutG w gl ((F4++kF)++nF) wx∧Bk wx g1 66 #[str tg,.bool tk,.int .i64 mod,.int .i64 len,.int .i64 hv,.int .i64 fr,.int .i64 wh,.int .i64 er,.slice A keys.length c,str ten,.bool kp] (0,0))
 case first=>
  have q9:wc.cell? ⟨g1,9,none⟩=some (str ten):=HB.out.cell 9
  cases hq:(!ten.isEmpty) with
  | false=>
    have HE:=hid (HN1.out (by simpa using hq))
    clear hq
    go_wp2_with fail
    go_meet
    exact by rw [HE.out,List.append_nil];exact ⟨HP.out,HB.out⟩
  | true=>
    have HE:=hid (HN2.out (by simpa using hq))
    clear hq
    go_wp2_with (go_at_call 140;refine (putM_any xtenN _ w _ gl _ HP.out (by have:=HLC.out;simp only [List.length_append];omega)).mono ?_;rintro e w4 ⟨rfl,hP4,hK4⟩;have HP4:=hid hP4;have HB4:=hid (hK4 _ _ _ _ metaNeF HNE.out HB.out);clear hP4 hK4)
    go_meet
    exact by rw [HE.out];exact ⟨HP4.out,HB4.out⟩
 case rest=>
 obtain ⟨hP,hB⟩:=hcut
 have HP:=hid hP;have HB:=hid hB
 clear hP hB HN1 HN2
 have q3:wc.cell? ⟨g1,3,none⟩=some (.int .i64 len):=HB.out.cell 3
 go_upto_if 67 with fail
 clear q3
 go_cut [] (fun wx=>PutG w gl (((F4++kF)++nF)++lF) wx)
 case first=>
  have q3:wc.cell? ⟨g1,3,none⟩=some (.int .i64 len):=HB.out.cell 3
  by_cases h0:len= -1
  ·have HE:=hid (HL1.out h0)
   have k0:(len != -1)=false:=by simp [h0]
   clear h0
   have HFX:=hid (HFL.out hv HHV.out)
   go_upto_region 19 with (go_at_call 140;refine (putM_any xlenN [42] w _ gl _ HP.out (by have:=HLC.out;simp only [List.length_append];omega)).mono ?_;rintro e w4 ⟨rfl,hP4,hK4⟩;have HP4:=hid hP4;have HB4:=hid (hK4 _ _ _ _ metaNeF HNE.out HB.out);clear hP4 hK4)
   have q4:w4.cell? ⟨g1,4,none⟩=some (.int .i64 hv):=HB4.out.cell 4
   go_wp2_with (first
    | (go_at_call 119;refine (HFX.out _ HP4.out.gr).mono ?_;rintro e w5 ⟨rfl,hG5⟩;have HP5:=hid (HP4.out.to hG5);clear hG5)
    | (go_at_call 140;refine (putM_any xhavN _ w _ gl _ HP5.out (by have:=HLC.out;simp only [List.length_append,List.length_cons,List.length_nil];omega)).mono ?_;rintro e w6 ⟨rfl,hP6,hK6⟩;have HP6:=hid hP6;clear hP6 hK6))
   go_meet
   exact by rw [HE.out,←List.append_assoc];exact HP6.out
  ·have HE:=hid (HL2.out h0)
   have HFX:=hid (HFL.out len (by have:=HLN.out;omega))
   have k0:(len != -1)=true:=by simp [h0]
   clear h0
   go_wp2_with (first
    | (go_at_call 119;refine (HFX.out _ HP.out.gr).mono ?_;rintro e w5 ⟨rfl,hG5⟩;have HP5:=hid (HP.out.to hG5);clear hG5)
    | (go_at_call 140;refine (putM_any xlenN _ w _ gl _ HP5.out (by have:=HLC.out;simp only [List.length_append,List.length_cons,List.length_nil];omega)).mono ?_;rintro e w6 ⟨rfl,hP6,hK6⟩;have HP6:=hid hP6;clear hP6 hK6))
   go_meet
   exact by rw [HE.out];exact HP6.out
 case rest=>
 obtain ⟨v,hb,hown⟩:=hcut.row
 have HGR:=hid hcut.gr
 rw [←HF.out] at hown
 obtain ⟨A1,c1,rfl⟩:=hown.form
 have q0:wc.cell? ⟨gl,0,none⟩=some (.slice A1 MF.length c1):=hb.cell 0
 have HO:=hid hown
 clear hb hown hcut HP HB HL1 HL2 HF HFL
 go_wp2_with fail
 go_ret2
 exact ⟨A1,c1,rfl,HO.out,HGR.out⟩
end Go.Proofs.YtflepnkpihfidaaGreatDoor
namespace Go.Proofs.YtflepnkpihfidaaGreatDoor
open Lib (hid)
open Go.RowKit
theorem put2d {W w wy:World} {g:Nat} {t:TypeId} {a b a' b':Value} (h:wy=(putCs w g [a,b] 0).drew) (hb:Bk w g t #[a',b'] (0,0)) (hg:Gr W w) (hs:W.heap.size≤g):wy.cell? ⟨g,0,none⟩=some a∧wy.cell? ⟨g,1,none⟩=some b∧Gr W wy:=by
 have h1:Bk (putCs w g [a,b] 0) g t #[a,b] (0,0):=putCs_bk hb rfl
 have hy:Bk wy g t #[a,b] (0,0):=by rw [h];exact h1.gr (Gr.refl _).dr
 have h2:Gr W wy:=by rw [h];exact (putCs_gr hs _ _ _ hg).dr
 exact ⟨hy.cell 0,hy.cell 1,h2⟩
theorem put2 {W w wy:World} {g:Nat} {t:TypeId} {a b a' b':Value} (h:wy=putCs w g [a,b] 0) (hb:Bk w g t #[a',b'] (0,0)) (hg:Gr W w) (hs:W.heap.size≤g):wy.cell? ⟨g,0,none⟩=some a∧wy.cell? ⟨g,1,none⟩=some b∧Gr W wy:=by
 have hy:Bk wy g t #[a,b] (0,0):=by rw [h];exact putCs_bk hb rfl
 have h2:Gr W wy:=by rw [h];exact putCs_gr hs _ _ _ hg
 exact ⟨hy.cell 0,hy.cell 1,h2⟩
def BySEnd (r:Option (Int×Int)) (w:World) (e:Ending) (w':World):Prop:=∃a b,e=.returned (.tuple #[.agg #[.int .i64 a,.int .i64 b],.bool r.isSome])∧(∀s,r=some s→s=(a,b))∧Gr w w'
theorem bytesEnd_no {r:Option (Int×Int)} {w w':World} (a b:Int) (h:r=none) (g:Gr w w'):BySEnd r w (.returned (.tuple #[.agg #[.int .i64 a,.int .i64 b],.bool false])) w':=⟨a,b,by rw [h];rfl,(by rw [h];intro s hs;cases hs),g⟩
theorem bytesEnd_if {r:Option (Int×Int)} {w w':World} (a b:Int) (h:r=if a < b then some (a,b) else none) (g:Gr w w'):BySEnd r w (.returned (.tuple #[.agg #[.int .i64 a,.int .i64 b],.bool (decide (a < b))])) w':=by
 by_cases hab:a < b
 ·rw [if_pos hab] at h;rw [decide_eq_true hab];exact ⟨a,b,by rw [h];rfl,(by rw [h];intro s hs;cases hs;rfl),g⟩
 ·rw [if_neg hab] at h;rw [decide_eq_false hab];exact bytesEnd_no a b h g
set_option maxHeartbeats 8000000 in
set_option maxRecDepth 100000 in
theorem specBytes_any (x:SpecT) (n:Int) (w:World) (hn:0≤n∧n≤1099511627776):Calls Tryz.prog 214 #[.agg #[.int .i64 x.1,.int .i64 x.2],.int .i64 n] w (BySEnd (bytesS x n) w):=by
 have HR:=hid (fun (v:World)=>specRight_any x.1 x.2 v)
 have HL:=hid (specB_lo (s:=x))
 have HB:=hid (show bytesS x n=_ from rfl:bytesS x n=if specB x=true then (if x.1 < 0 then (if max (n-x.2) 0 < n then some (max (n-x.2) 0,n) else none) else if 0≤x.2 then (if x.1 < min (x.2+1) n then some (x.1,min (x.2+1) n) else none) else (if x.1 < n then some (x.1,n) else none)) else none)
 generalize bytesS x n=R at *
 obtain ⟨f,l⟩:=x
 simp only at HR HL HB ⊢
 obtain ⟨b1,b2,hG0⟩:=two_box w #[.int .i64 f,.int .i64 l] #[.int .i64 0,.int .i64 0] 96 48
 go_enter Tryz.func214,Tryz.ntmps214
 go_upto_region 1 with fail
 generalize (w.alloc (Obj.cells #[.int .i64 f,.int .i64 l] 96)).alloc (Obj.cells #[.int .i64 0,.int .i64 0] 48)=w0 at *
 generalize hgq:w.heap.size=g at *
 have HGQ:=hid hgq
 have HLT:=hid b2.lt
 have q0:w0.cell? ⟨g,0,none⟩=some (.int .i64 f):=b1.cell 0
 have q1:w0.cell? ⟨g,1,none⟩=some (.int .i64 l):=b1.cell 1
 go_upto_region 2 with fail
 have hbs:=Bk.new w0 48 #[.int .i64 f,.int .i64 n] (0,0)
 have hga:=Gr.al (Gr.refl w0) (Obj.cells #[.int .i64 f,.int .i64 n] 48)
 have hgs:g+1 < w0.heap.size:=HLT.out
 generalize w0.alloc (Obj.cells #[.int .i64 f,.int .i64 n] 48)=w1 at *
 generalize w0.heap.size=gs at *
 have HB1:=hid (fun (v:World) (h:Gr w1 v)=>(b1.gr hga).gr h)
 have HB2:=hid (fun (v:World) (h:Gr w1 v)=>(b2.gr hga).gr h)
 have HBS:=hid (fun (v:World) (h:Gr w1 v)=>hbs.gr h)
 have HG1:=hid (Gr.tr hG0 hga)
 clear q0 q1 b1 b2 hbs hga hG0 hgq
 have h11:=Gr.refl w1
 have r0:∀v,Gr w1 v→v.cell? ⟨g,0,none⟩=some (.int .i64 f):=fun v h=>(HB1.out v h).cell 0
 have r1:∀v,Gr w1 v→v.cell? ⟨g,1,none⟩=some (.int .i64 l):=fun v h=>(HB1.out v h).cell 1
 cases hs:specB (f,l) with
 | false=>
   rw [hs] at HR HB
   have HN:=hid (show R=none from HB.out)
   clear hs HB HL
   go_upto_region 3 with (go_at_call 92;refine (HR.out _).mono ?_;rintro e w2 ⟨rfl,hg2⟩)
   have z0:w2.cell? ⟨g+1,0,none⟩=some (.int .i64 0):=(HB2.out _ hg2).cell 0
   have z1:w2.cell? ⟨g+1,1,none⟩=some (.int .i64 0):=(HB2.out _ hg2).cell 1
   have f0:=(HB2.out _ hg2).free 0 (.inr (Nat.zero_le _))
   have f1:=(HB2.out _ hg2).free 1 (.inr (Nat.zero_le _))
   have HZ:=hid (HB2.out _ hg2)
   have HG2:=hid (Gr.tr HG1.out hg2)
   go_wp2_with fail
   refine at_world (P:=bodyPost _ _ _ _ _) (w0:=putCs w2 (g+1) [.int .i64 0,.int .i64 0] 0) ?_
   intro wy hwy
   obtain ⟨u0,u1,hgy⟩:=put2 hwy HZ.out HG2.out (by have:=HGQ.out;omega)
   refine bodyPost_ret (v:=.tuple #[.agg #[.int .i64 0,.int .i64 0],.bool false]) (by simp [results,Tryz.results214,go_sem,u0,u1]) rfl (bytesEnd_no 0 0 HN.out hgy)
 | true=>
   obtain ⟨⟨hl1,hl2⟩,hl3,hl4⟩:=HL.out hs
   rw [hs,if_pos rfl] at HB
   rw [hs] at HR
   clear hs HL
   go_upto_region 4 with (go_at_call 92;refine (HR.out _).mono ?_;rintro e w2 ⟨rfl,hg2⟩)
   have HBS:=hid (HBS.out _ hg2)
   have HBR:=hid (HB2.out _ hg2)
   have HGG:=hid (Gr.tr HG1.out hg2)
   have s0:w2.cell? ⟨gs,0,none⟩=some (.int .i64 f):=HBS.out.cell 0
   have s1:w2.cell? ⟨gs,1,none⟩=some (.int .i64 n):=HBS.out.cell 1
   have c0:w2.cell? ⟨g,0,none⟩=some (.int .i64 f):=r0 _ hg2
   have c1:w2.cell? ⟨g,1,none⟩=some (.int .i64 l):=r1 _ hg2
   clear r0 r1 HB1 HB2 h11 hg2 HG1 HR
   by_cases h1:f < 0
   ·rw [if_pos h1] at HB
    have k1:decide (f < 0)=true:=decide_eq_true h1
    obtain ⟨m,em⟩:∃m,max (n-l) 0=m:=⟨_,rfl⟩
    rw [em] at HB
    have es:IntKind.i64.wrap (n-l)=n-l:=IntWalk.i64_in _ (by omega)
    have sf0:=HBS.out.free 0 (.inr (Nat.zero_le _))
    clear h1
    go_upto_region 8 with fail
    refine at_world (P:=Code.wp _ _ _ _) (w0:=w2.setCell ⟨gs,0,none⟩ (.int .i64 m)) ?_
    intro w3 hw3
    have HB3:=hid (show Bk w3 gs 48 #[.int .i64 m,.int .i64 n] (0,0) from by rw [hw3];exact HBS.out.set 0 (.int .i64 m))
    have HR3:=hid (show Bk w3 (g+1) 48 #[.int .i64 0,.int .i64 0] (0,0) from by rw [hw3];exact HBR.out.far (p:=⟨gs,0,none⟩) (by show g+1≠gs;omega) _)
    have HG3:=hid (show Gr w w3 from by rw [hw3];exact HGG.out.st (p:=⟨gs,0,none⟩) (by show w.heap.size≤gs;have:=HGQ.out;omega) _)
    clear hw3 HBS HBR HGG s0 s1 c0 c1 sf0 em es
    have s0:w3.cell? ⟨gs,0,none⟩=some (.int .i64 m):=HB3.out.cell 0
    have s1:w3.cell? ⟨gs,1,none⟩=some (.int .i64 n):=HB3.out.cell 1
    have z0:w3.cell? ⟨g+1,0,none⟩=some (.int .i64 0):=HR3.out.cell 0
    have z1:w3.cell? ⟨g+1,1,none⟩=some (.int .i64 0):=HR3.out.cell 1
    have f0:=HR3.out.free 0 (.inr (Nat.zero_le _))
    have f1:=HR3.out.free 1 (.inr (Nat.zero_le _))
    go_region
    go_wp2_with fail
    refine at_world (P:=bodyPost _ _ _ _ _) (w0:=(putCs w3 (g+1) [.int .i64 m,.int .i64 n] 0).drew) ?_
    intro wy hwy
    obtain ⟨u0,u1,hgy⟩:=put2d hwy HR3.out HG3.out (by have:=HGQ.out;omega)
    refine bodyPost_ret (v:=.tuple #[.agg #[.int .i64 m,.int .i64 n],.bool (decide (m < n))]) (by simp [results,Tryz.results214,go_sem,u0,u1]) rfl (bytesEnd_if m n HB.out hgy)
   ·rw [if_neg h1] at HB
    have k1:decide (f < 0)=false:=decide_eq_false h1
    by_cases h2:0≤l
    ·rw [if_pos h2] at HB
     have k2:decide (0≤l)=true:=decide_eq_true h2
     obtain ⟨m,em⟩:∃m,min (l+1) n=m:=⟨_,rfl⟩
     rw [em] at HB
     have es:IntKind.i64.wrap (l+1)=l+1:=IntWalk.i64_in _ (by omega)
     have sf1:=HBS.out.free 1 (.inr (Nat.zero_le _))
     clear h1 h2
     go_upto_region 8 with fail
     refine at_world (P:=Code.wp _ _ _ _) (w0:=w2.setCell ⟨gs,1,none⟩ (.int .i64 m)) ?_
     intro w3 hw3
     have HB3:=hid (show Bk w3 gs 48 #[.int .i64 f,.int .i64 m] (0,0) from by rw [hw3];exact HBS.out.set 1 (.int .i64 m))
     have HR3:=hid (show Bk w3 (g+1) 48 #[.int .i64 0,.int .i64 0] (0,0) from by rw [hw3];exact HBR.out.far (p:=⟨gs,1,none⟩) (by show g+1≠gs;omega) _)
     have HG3:=hid (show Gr w w3 from by rw [hw3];exact HGG.out.st (p:=⟨gs,1,none⟩) (by show w.heap.size≤gs;have:=HGQ.out;omega) _)
     clear hw3 HBS HBR HGG s0 s1 c0 c1 sf1 em es
     have s0:w3.cell? ⟨gs,0,none⟩=some (.int .i64 f):=HB3.out.cell 0
     have s1:w3.cell? ⟨gs,1,none⟩=some (.int .i64 m):=HB3.out.cell 1
     have z0:w3.cell? ⟨g+1,0,none⟩=some (.int .i64 0):=HR3.out.cell 0
     have z1:w3.cell? ⟨g+1,1,none⟩=some (.int .i64 0):=HR3.out.cell 1
     have f0:=HR3.out.free 0 (.inr (Nat.zero_le _))
     have f1:=HR3.out.free 1 (.inr (Nat.zero_le _))
     go_region
     go_wp2_with fail
     refine at_world (P:=bodyPost _ _ _ _ _) (w0:=(putCs w3 (g+1) [.int .i64 f,.int .i64 m] 0).drew) ?_
     intro wy hwy
     obtain ⟨u0,u1,hgy⟩:=put2d hwy HR3.out HG3.out (by have:=HGQ.out;omega)
     refine bodyPost_ret (v:=.tuple #[.agg #[.int .i64 f,.int .i64 m],.bool (decide (f < m))]) (by simp [results,Tryz.results214,go_sem,u0,u1]) rfl (bytesEnd_if f m HB.out hgy)
    ·rw [if_neg h2] at HB
     have k2:decide (0≤l)=false:=decide_eq_false h2
     have z0:w2.cell? ⟨g+1,0,none⟩=some (.int .i64 0):=HBR.out.cell 0
     have z1:w2.cell? ⟨g+1,1,none⟩=some (.int .i64 0):=HBR.out.cell 1
     have f0:=HBR.out.free 0 (.inr (Nat.zero_le _))
     have f1:=HBR.out.free 1 (.inr (Nat.zero_le _))
     clear h1 h2
     go_upto_region 8 with fail
     go_region
     go_wp2_with fail
     refine at_world (P:=bodyPost _ _ _ _ _) (w0:=(putCs w2 (g+1) [.int .i64 f,.int .i64 n] 0).drew) ?_
     intro wy hwy
     obtain ⟨u0,u1,hgy⟩:=put2d hwy HBR.out HGG.out (by have:=HGQ.out;omega)
     refine bodyPost_ret (v:=.tuple #[.agg #[.int .i64 f,.int .i64 n],.bool (decide (f < n))]) (by simp [results,Tryz.results214,go_sem,u0,u1]) rfl (bytesEnd_if f n HB.out hgy)
theorem elemSpanT:ElemOk Tryz.prog 31 48 (.agg #[.int .i64 0,.int .i64 0]) 2 16:=⟨Tryz.underlying31,by kernel_rfl,rfl,by omega⟩
theorem resL_snoc (l:List SpecT) (n:Int) (k:Nat) (h:k < l.length):resL (l.take (k+1)) n=resL (l.take k) n++(bytesS l[k] n).toList:=by
 unfold resL
 rw [take_snoc l k h,List.filterMap_append]
 cases hb:bytesS l[k] n <;> simp [hb]
theorem resL_take_len (l:List SpecT) (n:Int) (k:Nat):(resL (l.take k) n).length≤k:=Nat.le_trans (resL_len _ n) (by rw [List.length_take];omega)
theorem spansV_app (a b:List (Int×Int)):spansV (a++b)=spansV a++spansV b:=by simp [spansV]
theorem one_span (a b:Int):∀u∈[Value.int .i64 a,.int .i64 b],u.oneCell'=true:=by
 intro u hu
 simp only [List.mem_cons,List.not_mem_nil,or_false] at hu
 rcases hu with rfl | rfl <;> rfl
def ResEnd (l:List (Int×Int)) (w:World) (e:Ending) (w':World):Prop:=∃A c,e=.returned (.tuple #[.slice A l.length c,.bool (decide (0 < l.length))])∧Own w w' 48 2 (.slice A l.length c) l.length (spansV l)∧Gr w w'
set_option maxHeartbeats 8000000 in
set_option maxRecDepth 100000 in
theorem resolve_any (u:Value) (l:List SpecT) (n:Int) (w:World) (hu:Specs w u l) (hl:l.length≤1000000) (hn:0≤n∧n≤1099511627776):Calls Tryz.prog 144 #[u,.int .i64 n] w (ResEnd (resL l n) w):=by
 obtain ⟨A,c,rfl,hc,hm,hA⟩:=hu.open
 have HA:=hid hA
 have HBY:=hid (fun (k:Nat) (hk:k < l.length) (v:World)=>specBytes_any l[k] n v hn)
 clear hA hu
 go_enter Tryz.func144,Tryz.ntmps144
 go_wp2_with fail
 go_loopw [6,8,9,10,13] (fun out x8 x9 x10 i wr=>∃k:Nat,k≤l.length∧i=.int .i64 k∧Gr w wr∧Own w wr 48 2 out (resL (l.take k) n).length (spansV (resL (l.take k) n))) (fun _ _ _ _ i _=>l.length-(intOf i).toNat)
 case atStart=>exact ⟨0,Nat.zero_le _,rfl,Gr.refl _,Own.nil _ _ _ _⟩
 case round=>
  obtain ⟨k,hk,rfl,hG,hO⟩:=hrel
  obtain ⟨A6,c6,rfl⟩:=hO.form
  have HO:=hid hO
  have hrl:=resL_take_len l n k
  clear hO
  by_cases hlt:k < l.length
  ·obtain ⟨b1,o1,rfl,hb1,p0,p1⟩:=HA.out k hlt
   have p0:=Gr.cell hG p0
   have p1:=Gr.cell hG p1
   have HBK:=hid (HBY.out k hlt)
   have HSN:=hid (resL_snoc l n k hlt)
   generalize l[k]=x at *
   obtain ⟨xf,xl⟩:=x
   simp only at p0 p1 HBK
   generalize bytesS (xf,xl) n=R at *
   go_upto_region 5 with fail
   obtain ⟨hGb,y0,y1⟩:=box2 wr (.int .i64 xf) (.int .i64 xl) 96
   have hG1:=Gr.tr hG hGb
   have HO:=hid (HO.out.gr hGb)
   clear p0 p1 hGb
   generalize wr.alloc (Obj.cells #[.int .i64 xf,.int .i64 xl] 96)=wb at *
   generalize wr.heap.size=gb at *
   go_upto_region 6 with (go_at_call 214;refine (HBK.out _).mono ?_;rintro e w2 ⟨sa,sb,rfl,hsab,hg2⟩)
   have HO:=hid (HO.out.gr hg2)
   have hG2:=Gr.tr hG1 hg2
   obtain ⟨hGb,s0,s1⟩:=box2 w2 (.int .i64 sa) (.int .i64 sb) 48
   have hG3:=Gr.tr hG2 hGb
   have HO:=hid (HO.out.gr hGb)
   clear y0 y1 hG1 hG2 hg2 hGb hG
   generalize w2.alloc (Obj.cells #[.int .i64 sa,.int .i64 sb] 48)=w3 at *
   generalize w2.heap.size=gs at *
   cases R with
   | none=>
     go_wp2_with fail
     exact ⟨⟨k+1,by omega,by go_num,hG3,by rw [HSN.out,Option.toList_none,List.append_nil];exact HO.out⟩,by simp [intOf];omega⟩
   | some s=>
     obtain rfl:=hsab s rfl
     go_wp2_with (at_builtin;refine wpList_app1 (W0:=w) (W:=w3) (n:=(resL (l.take k) n).length) (xs:=spansV (resL (l.take k) n)) (news:=[.int .i64 sa,.int .i64 sb]) elemSpanT rfl _ _ rfl rfl rfl hG3 HO.out rfl (one_span _ _) (by omega) (by omega) ?_;intro v' w4 hown4 hg4;have HO4:=hid hown4;clear hown4)
     refine ⟨⟨k+1,by omega,by go_num,hg4,?_⟩,by simp [intOf];omega⟩
     rw [HSN.out,Option.toList_some,List.length_append,spansV_app]
     exact HO4.out
  ·have he:l.take k=l:=List.take_of_length_le (by omega)
   rw [he] at HO hrl ⊢
   clear he
   go_wp2_with fail
   go_ret2
   exact ⟨A6,c6,by simp,HO.out,hG⟩
end Go.Proofs.YtflepnkpihfidaaGreatDoor
namespace Go.Proofs.YtflepnkpihfidaaGreatDoor
open Lib (hid)
open Go.RowKit
theorem sumS_snoc (l:List (Int×Int)) (k:Nat) (h:k < l.length):sumS (l.take (k+1))=sumS (l.take k)+(l[k].2-l[k].1):=by
 rw [take_snoc l k h,sumS_app];unfold sumS;simp
theorem sumS_part {n:Int} {l:List (Int×Int)} (h:∀s∈l,InS n s) (k:Nat):sumS (l.take k)≤sumS l∧0≤sumS (l.take k):=by
 have e:sumS l=sumS (l.take k)+sumS (l.drop k):=by rw [←sumS_app,List.take_append_drop]
 have h1:=(sumS_pos (l:=l.drop k) (fun s hs=>h s (List.mem_of_mem_drop hs))).1
 have h2:=(sumS_pos (l:=l.take k) (fun s hs=>h s (List.mem_of_mem_take hs))).1
 omega
set_option maxHeartbeats 8000000 in
set_option maxRecDepth 100000 in
theorem costly_any (u:Value) (l:List SpecT) (n most:Int) (w:World) (hu:Specs w u l) (hl:l.length≤1000000) (hn:0≤n∧n≤1099511627776):Calls Tryz.prog 71 #[u,.int .i64 n,.int .i64 most] w fun e w'=>e=.returned (.bool (costL l n most))∧Gr w w':=by
 have HRS:=hid (resolve_any u l n w hu hl hn)
 have hin:=resL_in (l:=l) (n:=n)
 have HC:=hid (show costL l n most=(decide (most < (l.length:Int))||decide (2*n < sumS (resL l n))) from rfl)
 obtain ⟨A,c,rfl,-,-,-⟩:=hu.open
 clear hu
 generalize resL l n=sp at *
 generalize costL l n most=R at *
 by_cases h1:most < (l.length:Int)
 ·have k1:decide (most < (l.length:Int))=true:=decide_eq_true h1
  rw [k1] at HC
  go_enter Tryz.func71,Tryz.ntmps71
  go_wp2_with fail
  go_ret
  exact ⟨ret_bool HC.out.symm,Gr.refl _⟩
 have k1:decide (most < (l.length:Int))=false:=decide_eq_false h1
 rw [k1,Bool.false_or] at HC
 have HIN:=hid hin
 have HSP:=hid (fun k=>sumS_part hin k)
 have HSN:=hid (sumS_snoc sp)
 clear h1 hin
 go_enter Tryz.func71,Tryz.ntmps71
 go_upto_region 5 with (go_at_call 144;refine HRS.out.mono ?_;rintro e w1 ⟨A1,c1,rfl,hO,hG1⟩;have HO:=hid (show Spans w1 (.slice A1 sp.length c1) sp from hO.sl (by decide));clear hO)
 have HG1:=hid hG1
 have h11:=Gr.refl w1
 clear hG1 HRS k1
 obtain ⟨A2,c2,hv2,hc2,hm2,ho2⟩:=HO.out.open
 obtain ⟨rfl,rfl⟩:A1=A2∧c1=c2:=by injection hv2 with h1 _ h3;exact ⟨h1,h3⟩
 have HA:=hid ho2
 clear hv2 ho2
 go_wp2_with fail
 go_loopw [6,7,11,24] (fun x6 sm x11 i wr=>∃k:Nat,k≤sp.length∧i=.int .i64 k∧Gr w1 wr∧sm=.int .i64 (sumS (sp.take k))∧sumS (sp.take k)≤2*n) (fun _ _ _ i _=>sp.length-(intOf i).toNat)
 case atStart=>exact ⟨0,Nat.zero_le _,rfl,h11,rfl,by simp [sumS];omega⟩
 case round=>
  obtain ⟨k,hk,rfl,hG,rfl,hle⟩:=hrel
  have hp0:=(HSP.out k).2
  by_cases hlt:k < sp.length
  ·obtain ⟨b1,o1,rfl,hb1,p0,p1⟩:=HA.out k hlt
   have p0:=Gr.cell hG p0
   have p1:=Gr.cell hG p1
   obtain ⟨i0,i1,i2⟩:=HIN.out _ (List.getElem_mem hlt)
   have hsn:=HSN.out k hlt
   have hp1:=HSP.out (k+1)
   generalize sumS (sp.take k)=S0 at *
   obtain ⟨S1,hS1⟩:∃z,z=sumS (sp.take (k+1)):=⟨_,rfl⟩
   rw [←hS1] at hsn hp1
   have HS1E:=hid hS1
   clear hS1
   generalize sp[k]=x at *
   obtain ⟨xf,xl⟩:=x
   simp only at p0 p1 i0 i1 i2 hsn
   go_upto_region 8 with fail
   obtain ⟨hGb,y0,y1⟩:=box2 wr (.int .i64 xf) (.int .i64 xl) 48
   have hG1:=Gr.tr hG hGb
   clear p0 p1 hGb
   generalize wr.alloc (Obj.cells #[.int .i64 xf,.int .i64 xl] 48)=wb at *
   have e1:IntKind.i64.wrap (xl-xf)=xl-xf:=IntWalk.i64_in _ (by omega)
   have e2:IntKind.i64.wrap (S0+(xl-xf))=S1:=by rw [IntWalk.i64_in _ (by omega)];omega
   have e3:IntKind.i64.wrap (2*n)=2*n:=IntWalk.i64_in _ (by omega)
   clear hsn
   by_cases hgt:2*n < S1
   ·have k2:decide (2*n < S1)=true:=decide_eq_true hgt
    have HT:=hid (show R=true from by rw [HC.out];exact decide_eq_true (by omega))
    go_wp2_with fail
    go_ret
    exact ⟨ret_bool HT.out.symm,Gr.tr HG1.out hG1⟩
   ·have k2:decide (2*n < S1)=false:=decide_eq_false hgt
    have HS1:=hid (show S1≤2*n from by omega)
    go_wp2_with fail
    exact ⟨⟨k+1,by omega,by go_num,hG1,by rw [←HS1E.out],by rw [←HS1E.out];exact HS1.out⟩,by simp [intOf];omega⟩
  ·have he:sp.take k=sp:=List.take_of_length_le (by omega)
   rw [he] at hle
   have HT:=hid (show R=false from by rw [HC.out];exact decide_eq_false (by omega))
   clear he
   go_wp2_with fail
   go_ret
   exact ⟨ret_bool HT.out.symm,Gr.tr HG1.out hG⟩
theorem sizePs_snoc (ps:List PartT) (k:Nat) (h:k < ps.length):sizePs (ps.take (k+1))=sizePs (ps.take k)+partLen ps[k]:=by
 unfold sizePs
 rw [take_snoc ps k h,List.map_append,List.sum_append,List.map_cons,List.map_nil,List.sum_cons,List.sum_nil,Int.add_zero]
structure PartsOkS (ps:List PartT):Prop where
 span:∀p∈ps,p.1=[]→0≤p.2.1∧p.2.1≤p.2.2∧p.2.2≤1099511627776
 text:∀p∈ps,p.1.length≤1000000
 few:ps.length≤1000
theorem sizePs_le {ps:List PartT} (h:PartsOkS ps) (k:Nat):0≤sizePs (ps.take k)∧sizePs (ps.take k)≤k*1099511627776:=by
 induction k with
 | zero=>simp [sizePs]
 | succ k ih=>
   by_cases hk:k < ps.length
   ·rw [sizePs_snoc ps k hk]
    have h1:=h.span _ (List.getElem_mem hk)
    have h2:=h.text _ (List.getElem_mem hk)
    unfold partLen
    split
    ·have:=h1 (by assumption);omega
    ·omega
   ·rw [List.take_of_length_le (by omega)] at ih ⊢
    omega
theorem spanLen_big (f t:Int) (w:World) (h0:0≤f) (h1:f≤t) (h2:t≤2000000000000):Calls Tryz.prog 85 #[.agg #[.int .i64 f,.int .i64 t]] w fun e w'=>e=.returned (.int .i64 (t-f))∧Gr w w':=by
 have hs:spanB f t=true:=by unfold spanB;simp;omega
 have HS:=hid (fun (w:World)=>spanRight_any f t w)
 have HO:=hid (fun (w:World)=>spanOpen_no f t w (by omega))
 rw [hs] at HS
 clear hs
 have hb:=Bk.new w 48 #[.int .i64 f,.int .i64 t] (0,0)
 have hG1:=Gr.al (Gr.refl w) (Obj.cells #[.int .i64 f,.int .i64 t] 48)
 go_enter Tryz.func85,Tryz.ntmps85
 go_upto_region 1 with fail
 generalize w.alloc (Obj.cells #[.int .i64 f,.int .i64 t] 48)=w1 at *
 generalize w.heap.size=g at *
 obtain ⟨q0,q1⟩:=hb.cells2
 clear hb
 go_wp2_with (first
  | (go_at_call 41;refine (HS.out _).mono ?_;rintro e w2 ⟨rfl,hG2⟩;have q0:=hG2.cell q0;have q1:=hG2.cell q1)
  | (go_at_call 157;refine (HO.out _).mono ?_;rintro e w3 ⟨rfl,hG3⟩;have q0:=hG3.cell q0;have q1:=hG3.cell q1))
 go_ret
 exact ⟨rfl,Gr.tr (Gr.tr hG1 hG2) hG3⟩
set_option maxHeartbeats 8000000 in
set_option maxRecDepth 100000 in
theorem sizeS_any (u:Value) (ps:List PartT) (w:World) (hu:Parts w u ps) (hin:PartsOkS ps) :
  Calls Tryz.prog 149 #[u] w fun e w'=>e=.returned (.int .i64 (sizePs ps))∧Gr w w':=by
 obtain ⟨A,c,rfl,hc,hm,hA⟩:=hu.open
 have HA:=hid hA
 have HIN:=hid hin
 have HSL:=hid (fun k=>sizePs_le hin k)
 have HSN:=hid (sizePs_snoc ps)
 have hfew:=hin.few
 clear hA hu hin
 go_enter Tryz.func149,Tryz.ntmps149
 go_wp2_with fail
 go_loopw [2,3,5,8] (fun x2 n x5 i wr=>∃k:Nat,k≤ps.length∧i=.int .i64 k∧Gr w wr∧n=.int .i64 (sizePs (ps.take k))) (fun _ _ _ i _=>ps.length-(intOf i).toNat)
 case atStart=>exact ⟨0,Nat.zero_le _,rfl,Gr.refl _,rfl⟩
 case round=>
  obtain ⟨k,hk,rfl,hG,rfl⟩:=hrel
  have hs0:=HSL.out k
  by_cases hlt:k < ps.length
  ·obtain ⟨b1,o1,rfl,hb1,p0,p1,p2⟩:=HA.out k hlt
   have p0:=Gr.cell hG p0;have p1:=Gr.cell hG p1;have p2:=Gr.cell hG p2
   have hsn:=HSN.out k hlt
   have hspn:=HIN.out.span _ (List.getElem_mem hlt)
   have htxt:=HIN.out.text _ (List.getElem_mem hlt)
   generalize sizePs (ps.take k)=S0 at *
   obtain ⟨S1,hS1⟩:∃z,z=sizePs (ps.take (k+1)):=⟨_,rfl⟩
   rw [←hS1] at hsn
   have HS1E:=hid hS1
   clear hS1
   generalize ps[k]=p at *
   obtain ⟨tx,pf,pt⟩:=p
   simp only at p0 p1 p2 hspn htxt
   go_upto_region 6 with fail
   have hbp:=Bk.new wr 51 #[str tx,.int .i64 pf,.int .i64 pt] (0,0)
   have hGb:=Gr.al (Gr.refl wr) (Obj.cells #[str tx,.int .i64 pf,.int .i64 pt] 51)
   have hG:=Gr.tr hG hGb
   generalize wr.alloc (Obj.cells #[str tx,.int .i64 pf,.int .i64 pt] 51)=wb at *
   generalize wr.heap.size=gb at *
   have y0:wb.cell? ⟨gb,0,none⟩=some (str tx):=hbp.cell 0
   have y1:wb.cell? ⟨gb,1,none⟩=some (.int .i64 pf):=hbp.cell 1
   have y2:wb.cell? ⟨gb,2,none⟩=some (.int .i64 pt):=hbp.cell 2
   clear hbp hGb p0 p1 p2
   by_cases ht:tx=[]
   ·have kt:tx.isEmpty=true:=by rw [ht];rfl
    obtain ⟨i0,i1,i2⟩:=hspn ht
    have hs:spanB pf pt=true:=by unfold spanB;simp;omega
    have k4:(pt==4611686018427387904)=false:=by simp;omega
    have HS:=hid (fun (w:World)=>spanRight_any pf pt w)
    rw [hs] at HS
    have HL:=hid (fun (w:World)=>spanLen_big pf pt w i0 i1 (by omega))
    have hpl:partLen (tx,pf,pt)=pt-pf:=by unfold partLen;rw [if_pos ht]
    rw [hpl] at hsn
    have e2:IntKind.i64.wrap (S0+(pt-pf))=S1:=by rw [IntWalk.i64_in _ (by omega)];omega
    clear ht hs hpl hspn hsn
    go_wp2_with (first
     | (go_at_call 41;refine (HS.out _).mono ?_;rintro e w2 ⟨rfl,hG2⟩;have y1:=hG2.cell y1;have y2:=hG2.cell y2)
     | (go_at_call 85;refine (HL.out _).mono ?_;rintro e w3 ⟨rfl,hG3⟩))
    exact ⟨⟨k+1,by omega,by go_num,Gr.tr (Gr.tr hG hG2) hG3,by rw [←HS1E.out]⟩,by simp [intOf];omega⟩
   ·have kt:tx.isEmpty=false:=by simpa using ht
    have hpl:partLen (tx,pf,pt)=(tx.length:Int):=by unfold partLen;rw [if_neg ht]
    rw [hpl] at hsn
    have e2:IntKind.i64.wrap (S0+(tx.length:Int))=S1:=by rw [IntWalk.i64_in _ (by omega)];omega
    clear ht hpl hspn hsn
    go_wp2_with fail
    exact ⟨⟨k+1,by omega,by go_num,hG,by rw [←HS1E.out]⟩,by simp [intOf];omega⟩
  ·have he:ps.take k=ps:=List.take_of_length_le (by omega)
   rw [he]
   go_wp2_with fail
   go_ret
   exact ⟨rfl,hG⟩
def SpEnd (l:List (Int×Int)) (w:World) (e:Ending) (w':World):Prop:=∃A c,e=.returned (.slice A l.length c)∧Own w w' 48 2 (.slice A l.length c) l.length (spansV l)∧Gr w w'
end Go.Proofs.YtflepnkpihfidaaGreatDoor
namespace Go.Proofs.YtflepnkpihfidaaGreatDoor
open Lib (hid)
open Go.RowKit Go.Shelf Go.Sort
section
variable {α : Type} [Inhabited α]
theorem flat_get (enc:α→List Value) (k:Nat) (hk:∀x,(enc x).length=k):∀(l:List α) (t:Nat),t < l.length*k→(l.flatMap enc)[t]?=some ((enc l.toArray[t / k]!)[t % k]!)
 | [],t,h=>by simp at h
 | x::l,t,h=>by
   have hx:=hk x
   rw [List.length_cons,Nat.succ_mul] at h
   have k0:0 < k:=by rcases Nat.eq_zero_or_pos k with h0 | h0;· subst h0;simp at h
                     exact h0
   rw [List.flatMap_cons]
   by_cases ht:t < k
   ·rw [List.getElem?_append_left (by omega),Nat.div_eq_of_lt ht,Nat.mod_eq_of_lt ht]
    simp [List.getElem?_eq_getElem (show t < (enc x).length by omega),List.getElem!_eq_getElem?_getD,show t < (enc x).length by omega]
   ·rw [List.getElem?_append_right (by omega),hx,flat_get enc k hk l (t-k) (by omega)]
    have e1:t / k=(t-k) / k+1:=by
     conv=>lhs;rw [show t=(t-k)+k from by omega]
     rw [Nat.add_div_right _ k0]
    have e2:t % k=(t-k) % k:=by
     conv=>lhs;rw [show t=(t-k)+k from by omega]
     rw [Nat.add_mod_right]
    rw [e1,e2]
    simp
theorem flatK_list (enc:α→List Value) (k:Nat) (hk:∀x,(enc x).length=k) (l:List α):(flatK enc k l.toArray).toList=l.flatMap enc:=by
 have hlen:(l.flatMap enc).length=l.length*k:=by
  induction l with
  | nil=>simp
  | cons x l ih=>rw [List.flatMap_cons,List.length_append,ih,hk,List.length_cons,Nat.succ_mul];omega
 apply List.ext_getElem?
 intro t
 by_cases ht:t < l.length*k
 ·rw [flat_get enc k hk l t ht]
  unfold flatK
  simp [ht]
 ·rw [List.getElem?_eq_none (by rw [Array.length_toList,size_flatK];simpa using ht),List.getElem?_eq_none (by omega)]
theorem own_holds {W0 w:World} {e:TypeId} {k b n cap:Nat} {enc:α→List Value} (hk:∀x,(enc x).length=k) {l:List α} (hn:l.length=n) (h:Own W0 w e k (.slice (some ⟨b,0,none⟩) n cap) n (l.flatMap enc)):HoldsK enc k w b 0 l.toArray∧b < w.heap.size∧W0.heap.size≤b:=by
 rcases h.2 with ⟨hv,_⟩ | ⟨b',cap',cur,hv,hb,hh,h1,h2,h3,h4⟩
 ·cases hv
 ·cases hv
  have hbk:Bk w b e cur (0,0):=hh
  refine ⟨fun j hj=>?_,hbk.lt,hb⟩
  rw [size_flatK] at hj
  have hj':j < n*k:=by rw [←hn];simpa using hj
  rw [Nat.zero_add,hbk.cell j,hbk.free j (.inr (Nat.zero_le _)),get_flatK _ _ _ _ hj]
  refine ⟨?_,rfl⟩
  rw [←Array.getElem?_toList]
  have:=flat_get enc k hk l j (by rw [hn];exact hj')
  rw [←h4,List.getElem?_take,if_pos hj'] at this
  exact this
theorem sort_size (enc:α→List Value) (k:Nat) (w:World) (b off m:Nat) (d:Array α) (os:Array Obj):w.heap.size≤(sortWorldK enc k w b off m d os).heap.size:=by
 unfold sortWorldK putRowK;simp
theorem sort_by (enc:α→List Value) (k:Nat) (w:World) (b off m:Nat) (d:Array α) (os:Array Obj):w.grownBy (sortWorldK enc k w b off m d os) (some b):=by
 refine ⟨rfl,rfl,rfl,sort_size enc k w b off m d os,fun i hi hne=>?_⟩
 unfold sortWorldK putRowK grow putRow mapBlock
 rw [Array.getElem?_append_left (by simpa using hi)]
 simp only [Array.getElem?_modify]
 rw [if_neg (fun h=>hne (by rw [h]))]
 rfl
theorem own_sorted {W0 w:World} {e:TypeId} {k b n cap:Nat} {enc:α→List Value} (hk:∀x,(enc x).length=k) {l l':List α} (hn':l'.length=n) (h:Own W0 w e k (.slice (some ⟨b,0,none⟩) n cap) n (l.flatMap enc)) (m:Nat) (os:Array Obj) :
  Own W0 (sortWorldK enc k w b 0 m l'.toArray os) e k (.slice (some ⟨b,0,none⟩) n cap) n (l'.flatMap enc):=by
 have hlen:(l'.flatMap enc).length=n*k:=by
  rw [←flatK_list enc k hk l',Array.length_toList,size_flatK];simp [hn']
 refine ⟨hlen,?_⟩
 rcases h.2 with ⟨hv,_⟩ | ⟨b',cap',cur,hv,hb,hh,h1,h2,h3,h4⟩
 ·cases hv
 ·cases hv
  have hbk:Bk w b e cur (0,0):=hh
  refine .inr ⟨b,cap,putCells id 0 (flatK enc k l'.toArray) cur,rfl,hb,?_,h1,h2,?_,?_⟩
  ·unfold sortWorldK putRowK grow putRow mapBlock
   show ((w.heap.modify b _)++os)[b]?=_
   rw [Array.getElem?_append_left (by simpa using hbk.lt),Array.getElem?_modify,if_pos rfl,hh]
   rfl
  ·simp [putCells,h3]
  ·apply List.ext_getElem?
   intro t
   rw [List.getElem?_take]
   by_cases ht:t < n*k
   ·rw [if_pos ht,Array.getElem?_toList]
    have hc:n*k≤cap*k:=Nat.mul_le_mul_right k h1
    unfold putCells
    rw [Array.getElem?_mapIdx,Array.getElem?_eq_getElem (by omega),Option.map_some,if_pos (by simp [hn'];omega),←flatK_list enc k hk l',Array.getElem?_toList,Nat.sub_zero]
    rw [getElem!_pos _ _ (by simp [hn'];omega),Array.getElem?_eq_getElem (by simp [hn'];omega)]
    rfl
   ·rw [if_neg ht,List.getElem?_eq_none (by omega)]
end
end Go.Proofs.YtflepnkpihfidaaGreatDoor
namespace Go.Proofs.YtflepnkpihfidaaGreatDoor
open Lib (hid)
open Go.RowKit Go.Sort Go.Shelf
def encF (x:FoT):List Value:=[.int .i64 x.1.1,.int .i64 x.1.2,.int .i64 x.2]
theorem encF_len (x:FoT):(encF x).length=3:=rfl
theorem encF_one (x:FoT):∀v∈encF x,v.oneCell'=true:=by
 intro v hv
 simp only [encF,List.mem_cons,List.not_mem_nil,or_false] at hv
 rcases hv with rfl | rfl | rfl <;> rfl
theorem foldFrom_any (x y:FoT) (w:World):Calls Tryz.prog 216 #[.agg (encF x).toArray,.agg (encF y).toArray] w fun e w'=>e=.returned (.int .i64 (cfFrom x y))∧∃q os',w'=grow (w.drewN q) os':=by
 have hcon:=fun (v:World)=>Tryz.cmp_Compare_int_f45 x.1.1 y.1.1 v
 unfold cfFrom encF
 obtain ⟨⟨a,b⟩,c⟩:=x
 obtain ⟨⟨a',b'⟩,c'⟩:=y
 simp only at hcon ⊢
 generalize Lib.compareInt a a'=r at *
 obtain ⟨b1,b2,-⟩:=two_box w #[.int .i64 a,.int .i64 b,.int .i64 c] #[.int .i64 a',.int .i64 b',.int .i64 c'] 289 289
 have q0:=b1.cell 0
 have q1:=b2.cell 0
 go_enter Tryz.func216,Tryz.ntmps216
 go_upto_region 1 with fail
 have HW:=hid (show ∃q os',(w.alloc (Obj.cells #[.int .i64 a,.int .i64 b,.int .i64 c] 289)).alloc (Obj.cells #[.int .i64 a',.int .i64 b',.int .i64 c'] 289)=grow (w.drewN q) os' from ⟨0,_,by rw [alloc_eq_grow,alloc_eq_grow,grow_grow];rfl⟩)
 generalize (w.alloc (Obj.cells #[.int .i64 a,.int .i64 b,.int .i64 c] 289)).alloc (Obj.cells #[.int .i64 a',.int .i64 b',.int .i64 c'] 289)=w0 at *
 clear b1 b2
 go_wp2_with (go_at_call 45;refine (hcon _).mono ?_;rintro e w1 ⟨rfl,rfl⟩)
 go_ret
 exact ⟨rfl,HW.out⟩
theorem foldPlace_any (x y:FoT) (w:World):Calls Tryz.prog 218 #[.agg (encF x).toArray,.agg (encF y).toArray] w fun e w'=>e=.returned (.int .i64 (cfPlace x y))∧∃q os',w'=grow (w.drewN q) os':=by
 have hcon:=fun (v:World)=>Tryz.cmp_Compare_int x.2 y.2 v
 unfold cfPlace encF
 obtain ⟨⟨a,b⟩,c⟩:=x
 obtain ⟨⟨a',b'⟩,c'⟩:=y
 simp only at hcon ⊢
 generalize Lib.compareInt c c'=r at *
 obtain ⟨b1,b2,-⟩:=two_box w #[.int .i64 a,.int .i64 b,.int .i64 c] #[.int .i64 a',.int .i64 b',.int .i64 c'] 289 289
 have q0:=b1.cell 2
 have q1:=b2.cell 2
 go_enter Tryz.func218,Tryz.ntmps218
 go_upto_region 1 with fail
 have HW:=hid (show ∃q os',(w.alloc (Obj.cells #[.int .i64 a,.int .i64 b,.int .i64 c] 289)).alloc (Obj.cells #[.int .i64 a',.int .i64 b',.int .i64 c'] 289)=grow (w.drewN q) os' from ⟨0,_,by rw [alloc_eq_grow,alloc_eq_grow,grow_grow];rfl⟩)
 generalize (w.alloc (Obj.cells #[.int .i64 a,.int .i64 b,.int .i64 c] 289)).alloc (Obj.cells #[.int .i64 a',.int .i64 b',.int .i64 c'] 289)=w0 at *
 clear b1 b2
 go_wp2_with (go_at_call 219;refine (hcon _).mono ?_;rintro e w1 ⟨rfl,rfl⟩)
 go_ret
 exact ⟨rfl,HW.out⟩
theorem foldAgg (w:World):(isAgg 289).run Tryz.prog w=.ok true w:=by kernel_rfl
theorem foldSize (w:World):(Go.sizeOf 289).run Tryz.prog w=.ok 3 w:=by kernel_rfl
theorem bitsLen_any (n:Nat) (w:World) (h:n≤12):Calls Tryz.prog 106 #[.int .u64 n] w fun e w'=>(∃l:Int,e=.returned (.int .i64 l))∧w'=w:=
 (Tryz.bits_Len n w (by omega) (by omega)).mono fun _ _ ⟨he,hw⟩=>⟨⟨_,he⟩,hw⟩
theorem sortBy_arr (cf:FoT→FoT→Int) (l:List FoT):(sortBy cf l).toArray=Go.Sort.insertionSort (ltOf cf) l.toArray 0 l.length:=by unfold sortBy;simp
def SortEnd (W0 w:World) (b n cap:Nat) (l:List FoT) (e:Ending) (w':World):Prop:=e=.returned (.tuple #[])∧Own W0 w' 289 3 (.slice (some ⟨b,0,none⟩) n cap) n (l.flatMap encF)∧w.grownBy w' (some b)
theorem sortEnd_of {W0 w:World} {b n cap:Nat} {l:List FoT} {cf:FoT→FoT→Int} (hO:SWO (ltOf cf)) (hn:l.length=n) (h:Own W0 w 289 3 (.slice (some ⟨b,0,none⟩) n cap) n (l.flatMap encF)) (m:Nat) (os:Array Obj) :
  SortEnd W0 w b n cap (sortBy cf l) (.returned (.tuple #[])) (sortWorldK encF 3 w b 0 m (Go.Sort.insertionSort (ltOf cf) l.toArray 0 l.length) os):=by
 rw [←sortBy_arr]
 exact ⟨rfl,own_sorted encF_len (by rw [(sortBy_perm hO l).length_eq,hn]) h m os,sort_by encF 3 w b 0 m _ os⟩
set_option maxHeartbeats 2000000 in
set_option maxRecDepth 100000 in
theorem insFrom_any (W0 w:World) (b n cap:Nat) (l:List FoT) (hn:l.length=n) (hl:n≤1000) (h:Own W0 w 289 3 (.slice (some ⟨b,0,none⟩) n cap) n (l.flatMap encF)) :
  Calls Tryz.prog 289 #[.slice (some ⟨b,0,none⟩) n cap,.int .i64 0,.int .i64 n,.func (.func 216) #[] #[]] w (SortEnd W0 w b n cap (sortBy cfFrom l)):=by
 subst hn
 have eg:∀args w,(callFunc 216 args).run Tryz.prog w=.ok (.enter 216 args) w:=enters_of Tryz.func216 (by kernel_rfl) rfl
 obtain ⟨hH,hb,-⟩:=own_holds encF_len rfl h
 have hcon:=AnyQ.insertionSortCmpFunc (L:={ Tryz.sortFolded with }) 3 foldAgg foldSize encF encF_len encF_one cfFrom 216 #[] b 0 cap 0 l.length l.toArray w eg (fun _ _ _ _ x y=>foldFrom_any x y _) hH hb (Nat.zero_le _) (by simp) (by simp;omega)
 have hcon2:Calls Tryz.prog 289 _ _ _:=hcon
 refine hcon2.mono ?_
 rintro e w' ⟨rfl,m,os,rfl⟩
 exact sortEnd_of swoFrom rfl h m os
end Go.Proofs.YtflepnkpihfidaaGreatDoor
namespace Go.Proofs.YtflepnkpihfidaaGreatDoor
open Lib (hid)
open Go.RowKit Go.Sort Go.Shelf
set_option maxHeartbeats 4000000 in
set_option maxRecDepth 100000 in
theorem stable_any (W0 w:World) (b n cap:Nat) (l:List FoT) (hn:l.length=n) (hl:n < 20) (h:Own W0 w 289 3 (.slice (some ⟨b,0,none⟩) n cap) n (l.flatMap encF)) :
  Calls Tryz.prog 259 #[.slice (some ⟨b,0,none⟩) n cap,.int .i64 n,.func (.func 216) #[] #[]] w (SortEnd W0 w b n cap (sortBy cfFrom l)):=by
 have HI:=hid (insFrom_any W0 w b n cap l hn (by omega) h)
 have k1:decide ((20:Int)≤(n:Int))=false:=decide_eq_false (by omega)
 have k2:decide ((20:Int) < (n:Int))=false:=decide_eq_false (by omega)
 clear h hn
 go_enter Tryz.func259,Tryz.ntmps259
 go_wp2_with fail
 refine wp_loop_rounds 1 ?_
 rw [rounds_succ]
 go_wp2_with (go_at_call 289;refine HI.out.mono ?_;rintro e w' ⟨rfl,hO,hB⟩)
 refine wp_loop_rounds 1 ?_
 rw [rounds_succ]
 go_wp2_with fail
 go_end0
 exact ⟨rfl,hO,hB⟩
set_option maxHeartbeats 4000000 in
set_option maxRecDepth 100000 in
theorem sortStable_any (W0 w:World) (b n cap:Nat) (l:List FoT) (hn:l.length=n) (hl:n < 20) (h:Own W0 w 289 3 (.slice (some ⟨b,0,none⟩) n cap) n (l.flatMap encF)) :
  Calls Tryz.prog 215 #[.slice (some ⟨b,0,none⟩) n cap,.func (.func 216) #[] #[]] w (SortEnd W0 w b n cap (sortBy cfFrom l)):=by
 have HI:=hid (stable_any W0 w b n cap l hn hl h)
 clear h hn
 go_enter Tryz.func215,Tryz.ntmps215
 go_wp2_with (go_at_call 259;refine HI.out.mono ?_;rintro e w' ⟨rfl,hO,hB⟩)
 go_end0
 exact ⟨rfl,hO,hB⟩
theorem sortPlace_any (W0 w:World) (b n cap:Nat) (l:List FoT) (hn:l.length=n) (hl:n≤12) (h:Own W0 w 289 3 (.slice (some ⟨b,0,none⟩) n cap) n (l.flatMap encF)) :
  Calls Tryz.prog 217 #[.slice (some ⟨b,0,none⟩) n cap,.func (.func 218) #[] #[]] w (SortEnd W0 w b n cap (sortBy cfPlace l)):=by
 subst hn
 have eg:∀args w,(callFunc 218 args).run Tryz.prog w=.ok (.enter 218 args) w:=enters_of Tryz.func218 (by kernel_rfl) rfl
 obtain ⟨hH,hb,-⟩:=own_holds encF_len rfl h
 have hcon:=AnyQ.slices_SortFunc_small Tryz.sortFolded 3 foldAgg foldSize encF encF_len encF_one cfPlace 218 #[] b 0 cap l.toArray w eg (fun _ _ _ _ x y=>foldPlace_any x y _) hH hb (by simpa using hl) bitsLen_any
 have hcon2:Calls Tryz.prog 217 _ _ _:=hcon
 refine hcon2.mono ?_
 rintro e w' ⟨rfl,m,os,rfl⟩
 exact sortEnd_of swoPlace rfl h m os
set_option maxHeartbeats 4000000 in
set_option maxRecDepth 100000 in
theorem sortPlace_nil (w:World) (f:Value):Calls Tryz.prog 217 #[.slice none 0 0,f] w fun e w'=>e=.returned (.tuple #[])∧Gr w w':=by
 have HIN:=hid (show ∀v:World,Calls Tryz.prog 289 #[.slice none 0 0,.int .i64 0,.int .i64 0,f] v fun e w'=>e=.returned (.tuple #[])∧Gr v w' from by
  intro v
  go_enter Tryz.func289,Tryz.ntmps289
  go_wp2_with fail
  refine wp_loop_rounds 1 ?_
  rw [rounds_succ]
  go_wp2_with fail
  go_end0
  exact ⟨rfl,Gr.refl _⟩)
 have HPD:=hid (show ∀(v:World) (k:Int),Calls Tryz.prog 260 #[.slice none 0 0,.int .i64 0,.int .i64 0,.int .i64 k,f] v fun e w'=>e=.returned (.tuple #[])∧Gr v w' from by
  intro v k
  go_enter Tryz.func260,Tryz.ntmps260
  go_wp2_with fail
  refine wp_loop_rounds 1 ?_
  rw [rounds_succ]
  go_wp2_with (go_at_call 289;refine (HIN.out _).mono ?_;rintro e w1 ⟨rfl,hG1⟩)
  (try simp only [Exit.inBlock,Exit.then]);refine bodyPost_ret (results_none rfl _ _ _) rfl ?_
  exact ⟨rfl,hG1⟩)
 go_enter Tryz.func217,Tryz.ntmps217
 go_wp2_with (first
  | (go_at_call 106;refine (bitsLen_any 0 w (by omega)).mono ?_;rintro e w1 ⟨⟨k,rfl⟩,rfl⟩)
  | (go_at_call 260;refine (HPD.out _ _).mono ?_;rintro e w2 ⟨rfl,hG2⟩))
 go_end0
 exact ⟨rfl,hG2⟩
theorem sortBy_nil (cf:FoT→FoT→Int):sortBy cf []=[]:=by
 unfold sortBy Go.Sort.insertionSort
 rw [Go.Sort.insOuter,if_neg (by simp)]
theorem own_cell {W0 w:World} {e:TypeId} {size b n cap:Nat} {xs:List Value} (h:Own W0 w e size (.slice (some ⟨b,0,none⟩) n cap) n xs) {j:Nat} {u:Value} (hj:xs[j]?=some u):w.cell? ⟨b,j,none⟩=some u∧w.frozen? ⟨b,j,none⟩=false:=by
 rcases h.2 with ⟨hv,_⟩ | ⟨b',cap',cur,hv,hb,hh,h1,h2,h3,h4⟩
 ·cases hv
 ·cases hv
  have hbk:Bk w b e cur (0,0):=hh
  rw [hbk.cell j,hbk.free j (.inr (Nat.zero_le _))]
  refine ⟨?_,rfl⟩
  rw [←h4,List.getElem?_take] at hj
  split at hj
  ·rw [←Array.getElem?_toList];exact hj
  ·cases hj
theorem encF_at (l:List FoT) (k:Nat) (h:k < l.length) (r:List Value):(l.flatMap encF++r)[k*3]?=some (.int .i64 l[k].1.1)∧(l.flatMap encF++r)[k*3+1]?=some (.int .i64 l[k].1.2)∧(l.flatMap encF++r)[k*3+2]?=some (.int .i64 l[k].2):=by
 induction l generalizing k with
 | nil=>simp at h
 | cons x l ih=>
   rw [List.flatMap_cons,List.append_assoc]
   cases k with
   | zero=>simp [encF]
   | succ k=>
     have:=ih k (by simpa using h)
     rw [show (k+1)*3=k*3+1+1+1 from by omega]
     simpa [encF] using this
theorem encF_lenL (l:List FoT):(l.flatMap encF).length=l.length*3:=by
 induction l with
 | nil=>rfl
 | cons x l ih=>rw [List.flatMap_cons,List.length_append,ih,encF_len,List.length_cons];omega
def fillC (l:List FoT) (k:Nat):List Value:=(l.take k).flatMap encF++List.replicate ((l.length-k)*3) (.int .i64 0)
theorem fillC_set (l:List FoT) (k:Nat) (h:k < l.length):(((fillC l k).set (k*3) (.int .i64 l[k].1.1)).set (k*3+1) (.int .i64 l[k].1.2)).set (k*3+2) (.int .i64 l[k].2)=fillC l (k+1):=by
 unfold fillC
 have e1:((l.take k).flatMap encF).length=k*3:=by rw [encF_lenL,List.length_take];omega
 have e2:(l.length-k)*3=(l.length-(k+1))*3+1+1+1:=by omega
 rw [take_snoc l k h,List.flatMap_append,e2]
 simp only [List.replicate_succ,List.flatMap_cons,List.flatMap_nil,List.append_nil,encF]
 generalize (l.take k).flatMap encF=A at *
 have q (X:List Value) (c:Nat) (v:Value):(A++X).set (k*3+c) v=A++X.set c v:=by
  rw [List.set_append,if_neg (by omega),e1];congr 2;omega
 have q0 (X:List Value) (v:Value):(A++X).set (k*3) v=A++X.set 0 v:=q X 0 v
 rw [q0,q,q]
 simp
theorem fillC_at (l:List FoT) (k:Nat) (h:k < l.length):∃a b c,(fillC l k)[k*3]?=some a∧(fillC l k)[k*3+1]?=some b∧(fillC l k)[k*3+2]?=some c:=by
 unfold fillC
 have e1:((l.take k).flatMap encF).length=k*3:=by rw [encF_lenL,List.length_take];omega
 have e2:(l.length-k)*3=(l.length-(k+1))*3+1+1+1:=by omega
 rw [e2]
 generalize (l.take k).flatMap encF=A at *
 rw [List.getElem?_append_right (by omega),List.getElem?_append_right (by omega),List.getElem?_append_right (by omega),e1]
 simp only [Nat.sub_self,Nat.add_sub_cancel_left,List.replicate_succ]
 exact ⟨_,_,_,rfl,rfl,rfl⟩
theorem fillC_zero (l:List FoT):fillC l 0=List.replicate (l.length*3) (.int .i64 0):=by simp [fillC]
theorem fillC_all (l:List FoT) {k:Nat} (h:l.length≤k):fillC l k=l.flatMap encF:=by unfold fillC;rw [List.take_of_length_le h,show l.length-k=0 from by omega];simp
theorem placed_len (l:List (Int×Int)):(placed l).length=l.length:=by unfold placed;simp
theorem placed_at (l : List (Int × Int)) (k : Nat) (h : k < l.length) : (placed l)[k]'(by rw [placed_len]; exact h) = (l[k], (k : Int)) := by unfold placed; simp
theorem elemFo:ElemOk Tryz.prog 287 289 (.agg #[.int .i64 0,.int .i64 0,.int .i64 0]) 3 24:=⟨Tryz.underlying287,by kernel_rfl,rfl,by omega⟩
theorem made_fold (n:Nat):(madeCells (Value.agg #[.int .i64 0,.int .i64 0,.int .i64 0]).cells (n*3)).toList=List.replicate (n*3) (.int .i64 0):=by
 unfold madeCells
 apply List.ext_getElem?
 intro j
 rw [Array.getElem?_toList]
 by_cases hj:j < n*3
 ·rw [Array.getElem?_map,Array.getElem?_range,if_pos hj,List.getElem?_replicate,if_pos hj,Option.map_some]
  congr 1
  show (#[.int .i64 0,.int .i64 0,.int .i64 0]:Array Value)[j % 3]! =.int .i64 0
  have:j % 3=0∨j % 3=1∨j % 3=2:=by omega
  rcases this with h | h | h <;> rw [h] <;> rfl
 ·rw [Array.getElem?_eq_none (by simpa using hj),List.getElem?_eq_none (by simpa using hj)]
theorem fold_last (T:List FoT) (g:FoT) (u v:Int):(((T++[g]).flatMap encF).set (T.length*3+1) (.int .i64 u)).set (T.length*3+2) (.int .i64 v)=(T++[((g.1.1,u),v)]).flatMap encF:=by
 simp only [List.flatMap_append,List.flatMap_cons,List.flatMap_nil,List.append_nil]
 have e1:=encF_lenL T
 generalize T.flatMap encF=A at *
 have q (X:List Value) (c:Nat) (v:Value):(A++X).set (T.length*3+c) v=A++X.set c v:=by
  rw [List.set_append,if_neg (by omega),e1];congr 2;omega
 rw [q,q]
 simp [encF]
theorem foldStep_nil (f:FoT):foldStep [] f=[f]:=rfl
theorem foldStep_met (T:List FoT) (g f:FoT) (h:f.1.1≤g.1.2):foldStep (T++[g]) f=T++[((g.1.1,max g.1.2 f.1.2),min g.2 f.2)]:=by
 unfold foldStep
 rw [List.getLast?_concat]
 simp only
 rw [if_pos h,List.dropLast_concat]
theorem foldStep_apart (T:List FoT) (g f:FoT) (h:¬f.1.1≤g.1.2):foldStep (T++[g]) f=T++[g]++[f]:=by
 unfold foldStep
 rw [List.getLast?_concat]
 simp only
 rw [if_neg h]
theorem one_fo (a b c:Int):∀u∈[Value.int .i64 a,.int .i64 b,.int .i64 c],u.oneCell'=true:=encF_one ((a,b),c)
theorem folds_snoc (R:List FoT) (k:Nat) (h:k < R.length):(R.take (k+1)).foldl foldStep []=foldStep ((R.take k).foldl foldStep []) R[k]:=by
 rw [take_snoc R k h,List.foldl_append];rfl
structure FoS (W0:World) (b n cap:Nat) (R O:List FoT) (v:Value) (x:World):Prop where
 gr:Gr W0 x
 row:Own W0 x 289 3 (.slice (some ⟨b,0,none⟩) n cap) n (R.flatMap encF)
 one:Own W0 x 289 3 v O.length (O.flatMap encF)
 off:v.ownBlock≠some b
theorem FoS.to {W0:World} {b n cap:Nat} {R O:List FoT} {v:Value} {x y:World} (h:FoS W0 b n cap R O v x) (g:Gr x y):FoS W0 b n cap R O v y:=⟨Gr.tr h.gr g,h.row.gr g,h.one.gr g,h.off⟩
theorem FoS.app {W0:World} {b n cap:Nat} {R O:List FoT} {v v':Value} {x y:World} {f:FoT} (h:FoS W0 b n cap R O v x) (hown:Own W0 y 289 3 v' (O.length+1) (O.flatMap encF++[.int .i64 f.1.1,.int .i64 f.1.2,.int .i64 f.2])) (happ:App v v' x y):FoS W0 b n cap R (O++[f]) v' y:=by
 refine ⟨happ.gr h.gr h.one,own_kr h.row happ.grown (.inr (by simpa [Value.ownBlock] using (Ne.symm h.off))),?_,?_⟩
 ·rw [List.flatMap_append,List.length_append]
  exact hown
 ·rcases happ.at_ with e | ⟨c,e,hc⟩
  ·rw [e];exact h.off
  ·rw [e]
   have:=(World.ownsRow.lt h.row b rfl).2
   simp only [ne_eq,Option.some.injEq];omega
theorem FoS.put {W0:World} {b n cap:Nat} {R T:List FoT} {g:FoT} {bo co:Nat} {x:World} (h:FoS W0 b n cap R (T++[g]) (.slice (some ⟨bo,0,none⟩) (T++[g]).length co) x) (j:Nat) (u:Value) (cs:List Value) (hc:((T++[g]).flatMap encF).set j u=cs) :
  Gr W0 (x.setCell ⟨bo,j,none⟩ u)∧Own W0 (x.setCell ⟨bo,j,none⟩ u) 289 3 (.slice (some ⟨b,0,none⟩) n cap) n (R.flatMap encF)∧Own W0 (x.setCell ⟨bo,j,none⟩ u) 289 3 (.slice (some ⟨bo,0,none⟩) (T++[g]).length co) (T++[g]).length cs:=by
 have hb:=(World.ownsRow.lt h.one bo rfl).1
 refine ⟨Gr.st h.gr (p:=⟨bo,j,none⟩) hb u,own_kr h.row (by_st ((Gr.refl x).by (some bo)) j u) (.inr (by simpa [Value.ownBlock] using (Ne.symm h.off))),?_⟩
 rw [←hc]
 exact own_put h.one j u
end Go.Proofs.YtflepnkpihfidaaGreatDoor
namespace Go.Proofs.YtflepnkpihfidaaGreatDoor
open Lib (hid)
open Go.RowKit Go.Sort Go.Shelf
theorem wpList_mkN {P:Program} {ops:Array Oper} {rest:List Oper} {o:Oper} {a:Act} {Q:Exit→Act→World→Prop} {W0 w:World} {t e:TypeId} {z:Value} {size bytes:Nat} {kl kc:IntKind} {L C:Int} (n:Nat)
  (hE:ElemOk P t e z size bytes) (hgd:o.guard=none) (l c:Operand) (ho:o.op=.makeSlice t l c) (hl:a.eval l=.int kl L) (hc:a.eval c=.int kc C) (hL:L=(n:Int)) (hC:C=(n:Int)) (hb:bytes*n≤281474976710656) (hm:n≤9223372036854775807) (hB:W0.heap.size≤w.heap.size)
  (h:∀w',Own W0 w' e size (.slice (some ⟨w.heap.size,0,none⟩) n n) n (madeCells z.cells (n*size)).toList→Gr w w'→wpList P ops Q rest (a.put o.dst (.slice (some ⟨w.heap.size,0,none⟩) n n)) w'):wpList P ops Q (o::rest) a w:=by
 obtain ⟨i,hi,hz0,hz1,hz2⟩:=info_parts hE.hi
 exact wpList_make_full w hgd l c t ho W0.heap.size e i z size hE.ht hi hz0 hz1 kl kc L C n hl hc hL hC (by rw [hz2];exact hb) (by unfold maxLen;omega) hB fun w' h1 h2=>h w' h1 (gr_none h2)
theorem gr_of_by {W x y:World} {b:Nat} (h:Gr W x) (k:x.grownBy y (some b)) (hb:W.heap.size≤b):Gr W y:=
 ⟨k.os.trans h.os,k.tape.trans h.tape,k.output.trans h.output,Nat.le_trans h.size k.size,fun i hi=>(k.block i (Nat.lt_of_lt_of_le hi h.size) (fun e=>by cases e;omega)).trans (h.block i hi)⟩
theorem own_at1 {W0 w:World} {e:TypeId} {size m n c:Nat} {A:Option Addr} {xs:List Value} (h:Own W0 w e size (.slice A n c) m xs) (hn:0 < n):∃b,A=some ⟨b,0,none⟩:=by
 rcases h.2 with ⟨hv,_⟩ | ⟨b,cap,cur,hv,_⟩
 ·cases hv;omega
 ·cases hv;exact ⟨b,rfl⟩
theorem own_cap {W0 w:World} {e:TypeId} {size m n c:Nat} {A:Option Addr} {xs:List Value} (h:Own W0 w e size (.slice A n c) m xs):n≤c:=by
 rcases h.2 with ⟨hv,_⟩ | ⟨b,cap,cur,hv,_,_,h,_⟩
 ·cases hv;exact Nat.le_refl _
 ·cases hv;exact h
theorem last_at (T:List FoT) (g:FoT):((T++[g]).flatMap encF)[T.length*3]?=some (.int .i64 g.1.1)∧((T++[g]).flatMap encF)[T.length*3+1]?=some (.int .i64 g.1.2)∧((T++[g]).flatMap encF)[T.length*3+2]?=some (.int .i64 g.2):=by
 have h:=encF_at (T++[g]) T.length (by simp) []
 rw [List.append_nil] at h
 simpa using h
theorem FoS.one2 {W0:World} {b n cap:Nat} {R T:List FoT} {g:FoT} {A:Option Addr} {co:Nat} {x:World} (h:FoS W0 b n cap R (T++[g]) (.slice A (T.length+1) co) x):Own W0 x 289 3 (.slice A (T++[g]).length co) (T++[g]).length ((T++[g]).flatMap encF):=by
 have e:=h.one
 rw [List.length_append,List.length_singleton] at e ⊢
 exact e
theorem FoS.one3 {W0:World} {b n cap:Nat} {R T:List FoT} {g:FoT} {A:Option Addr} {co:Nat} {x:World} (h:FoS W0 b n cap R (T++[g]) (.slice A (T.length+1) co) x):Own W0 x 289 3 (.slice A (T.length+1) co) (T.length+1) ((T++[g]).flatMap encF):=by
 have e:=h.one
 rw [List.length_append,List.length_singleton] at e
 exact e
theorem FoS.met1 {W0:World} {b n cap:Nat} {R T:List FoT} {g:FoT} {bo co:Nat} {x:World} (h:FoS W0 b n cap R (T++[g]) (.slice (some ⟨bo,0,none⟩) (T.length+1) co) x) (u:Int) {y:World} (hy:y=(x.setCell ⟨bo,T.length*3+1,none⟩ (.int .i64 u)).drew) :
  Gr W0 y∧Own W0 y 289 3 (.slice (some ⟨b,0,none⟩) n cap) n (R.flatMap encF)∧Own W0 y 289 3 (.slice (some ⟨bo,0,none⟩) (T.length+1) co) (T.length+1) (((T++[g]).flatMap encF).set (T.length*3+1) (.int .i64 u)):=by
 have e:(T++[g]).length=T.length+1:=by simp
 have h':FoS W0 b n cap R (T++[g]) (.slice (some ⟨bo,0,none⟩) (T++[g]).length co) x:=by rw [e];exact h
 obtain ⟨a1,a2,a3⟩:=h'.put (T.length*3+1) (.int .i64 u) _ rfl
 rw [e] at a3
 rw [hy]
 exact ⟨a1.dr,a2.dr,a3.dr⟩
theorem FoS.met2 {W0:World} {b n cap:Nat} {R T:List FoT} {g:FoT} {bo co:Nat} {y z:World} {u:Int} (h1:Gr W0 y) (h2:Own W0 y 289 3 (.slice (some ⟨b,0,none⟩) n cap) n (R.flatMap encF)) (h3:Own W0 y 289 3 (.slice (some ⟨bo,0,none⟩) (T.length+1) co) (T.length+1) (((T++[g]).flatMap encF).set (T.length*3+1) (.int .i64 u))) (hne:(Value.slice (some ⟨bo,0,none⟩) (T.length+1) co).ownBlock≠some b) (v:Int) (hz:z=(y.setCell ⟨bo,T.length*3+2,none⟩ (.int .i64 v)).drew) :
  FoS W0 b n cap R (T++[((g.1.1,u),v)]) (.slice (some ⟨bo,0,none⟩) (T.length+1) co) z:=by
 have hb:=(World.ownsRow.lt h3 bo rfl).1
 have h4:=own_put h3 (T.length*3+2) (.int .i64 v)
 rw [fold_last] at h4
 rw [hz]
 refine ⟨(Gr.st h1 (p:=⟨bo,T.length*3+2,none⟩) hb _).dr,(own_kr h2 (by_st ((Gr.refl y).by (some bo)) _ _) (.inr (by simpa [Value.ownBlock] using (Ne.symm hne)))).dr,?_,hne⟩
 rw [List.length_append,List.length_singleton]
 exact h4.dr
theorem sortPlace_own (W0 w:World) (b n cap:Nat) (R O:List FoT) (v:Value) (h:FoS W0 b n cap R O v w) (hO:O.length≤12):Calls Tryz.prog 217 #[v,.func (.func 218) #[] #[]] w (fun e w'=>e=.returned (.tuple #[])∧Gr W0 w'∧Own W0 w' 289 3 v O.length ((sortBy cfPlace O).flatMap encF)):=by
 rcases h.one.2 with ⟨hv,hn⟩ | ⟨bo,cap',cur,hv,hb,-⟩
 ·subst hv
  have hn:O=[]:=List.length_eq_zero_iff.1 hn
  subst hn
  refine (sortPlace_nil w _).mono ?_
  rintro e w' ⟨rfl,hg⟩
  exact ⟨rfl,Gr.tr h.gr hg,by rw [sortBy_nil];exact Own.nil _ _ _ _⟩
 ·subst hv
  refine (sortPlace_any W0 w bo O.length cap' O rfl hO h.one).mono ?_
  rintro e w' ⟨rfl,hO2,hB2⟩
  exact ⟨rfl,gr_of_by h.gr hB2 hb,hO2⟩
def fstF (S:List FoT) (m:Nat):List (Int×Int):=(S.take m).map (·.1)
theorem fstF_len (S:List FoT) (m:Nat) (h:m≤S.length):(fstF S m).length=m:=by unfold fstF;rw [List.length_map,List.length_take,Nat.min_eq_left h]
theorem fstF_snoc (S:List FoT) (m:Nat) (h:m < S.length):fstF S (m+1)=fstF S m++[S[m].1]:=by unfold fstF;rw [take_snoc S m h,List.map_append];rfl
theorem fstF_all (S:List FoT) (m:Nat) (h:S.length≤m):fstF S m=S.map (·.1):=by unfold fstF;rw [List.take_of_length_le h]
set_option maxHeartbeats 16000000 in
set_option maxRecDepth 100000 in
theorem fold_any (u:Value) (l:List (Int×Int)) (N:Int) (w:World) (hu:Spans w u l) (hin:∀s∈l,InS N s) (hN:N≤1099511627776) (hl:l.length≤12):Calls Tryz.prog 146 #[u,.int .i64 0] w (SpEnd (foldL l) w):=by
 obtain ⟨A,c,rfl,hc,hm,hA⟩:=hu.open
 have HA:=hid hA
 have p1:=sortBy_perm swoFrom (placed l)
 have hRl:(sortBy cfFrom (placed l)).length=l.length:=by rw [p1.length_eq,placed_len]
 have hRin:∀g∈sortBy cfFrom (placed l),InS N g.1:=fun g hg=>hin _ (by
  have:g.1∈(placed l).map (·.1):=List.mem_map.2 ⟨g,p1.mem_iff.1 hg,rfl⟩
  rwa [placed_fst] at this)
 have HPL:=hid (placed_len l)
 have HPA:=hid (placed_at l)
 have HFC:=hid (fillC_set (placed l))
 have HFA:=hid (fillC_at (placed l))
 have HFZ:=hid (fillC_zero (placed l))
 have HFE:=hid (fun k=>fillC_all (placed l) (k:=k))
 have HST:=hid (fun (x:World) (b:Nat) (h:Own w x 289 3 (.slice (some ⟨b,0,none⟩) l.length l.length) l.length ((placed l).flatMap encF))=>sortStable_any w x b l.length l.length (placed l) (placed_len l) (by omega) h)
 have HX:=hid (show foldL l=(sortBy cfPlace ((sortBy cfFrom (placed l)).foldl foldStep [])).map (·.1) from rfl)
 generalize sortBy cfFrom (placed l)=R at *
 generalize foldL l=FL at *
 have HFI:=hid (fun (k:Nat)=>show (∀g∈(R.take k).foldl foldStep [],InS N g.1)∧((R.take k).foldl foldStep []).length≤k from by
  obtain ⟨h1,h2,_⟩:=foldAll_in (n:=N) (R.take k) [] (by simp) (fun g hg=>hRin g (List.mem_of_mem_take hg))
  refine ⟨h1,?_⟩
  simp only [List.length_nil,Nat.zero_add,List.length_take] at h2
  omega)
 have HRI:=hid hRin
 have HFN:=hid (folds_snoc R)
 clear hA hu hin hRin p1
 go_enter Tryz.func146,Tryz.ntmps146
 go_upto_region 3 with (at_make;refine wpList_mkN (W0:=w) l.length elemFo rfl _ _ rfl rfl rfl rfl rfl ?_ ?_ (Nat.le_refl _) ?_;omega;omega;intro w1 hown1 hg1)
 rw [made_fold,←HPL.out,←HFZ.out,HPL.out] at hown1
 have HB:=hid (Nat.le_refl w.heap.size)
 generalize hbq:w.heap.size=b at hown1 HB ⊢
 have HBQ:=hid (show w.heap.size≤b from Nat.le_of_eq hbq)
 clear hbq HB
 have HO1:=hid hown1
 clear hown1
 go_wp2_with fail
 go_loopw [6,7,22] (fun x6 x7 i wr=>∃k:Nat,k≤l.length∧i=.int .i64 k∧Gr w wr∧Own w wr 289 3 (.slice (some ⟨b,0,none⟩) l.length l.length) l.length (fillC (placed l) k)) (fun _ _ i _=>l.length-(intOf i).toNat)
 case atStart=>exact ⟨0,Nat.zero_le _,rfl,hg1,HO1.out⟩
 case round=>
  obtain ⟨k,hk,rfl,hG,hO⟩:=hrel
  have HO:=hid hO
  clear hO HO1 hg1
  by_cases hlt:k < l.length
  ·obtain ⟨b1,o1,rfl,hb1,p0,p1⟩:=HA.out k hlt
   have p0:=Gr.cell hG p0
   have p1:=Gr.cell hG p1
   have HPK:=hid (HPA.out k hlt)
   have HSK:=hid (HFC.out k (by rw [HPL.out];exact hlt))
   rw [HPK.out] at HSK
   obtain ⟨za,zb,zc,ha,hb,hc3⟩:=HFA.out k (by rw [HPL.out];exact hlt)
   clear HPK
   generalize l[k]=s at *
   obtain ⟨sf,sl⟩:=s
   simp only at p0 p1 HSK
   go_upto_region 6 with fail
   obtain ⟨hGb,y0,y1⟩:=box2 wr (.int .i64 sf) (.int .i64 sl) 48
   have hG1:=Gr.tr hG hGb
   have HO:=hid (HO.out.gr hGb)
   clear p0 p1 hGb hG
   generalize wr.alloc (Obj.cells #[.int .i64 sf,.int .i64 sl] 48)=wb at *
   generalize wr.heap.size=gb at *
   obtain ⟨z0,f0⟩:=own_cell HO.out ha
   obtain ⟨z1,f1⟩:=own_cell HO.out hb
   obtain ⟨z2,f2⟩:=own_cell HO.out hc3
   have hOZ:=own_put (own_put (own_put HO.out (k*3) (.int .i64 sf)) (k*3+1) (.int .i64 sl)) (k*3+2) (.int .i64 k)
   rw [HSK.out] at hOZ
   have HOZ:=hid hOZ
   have HGZ:=hid (Gr.st (p:=⟨b,k*3+2,none⟩) (Gr.st (p:=⟨b,k*3+1,none⟩) (Gr.st (p:=⟨b,k*3,none⟩) hG1 HBQ.out (.int .i64 sf)) HBQ.out (.int .i64 sl)) HBQ.out (.int .i64 k))
   clear hOZ ha hb hc3 hG1
   go_wp2_with fail
   exact ⟨⟨k+1,by omega,by go_num,HGZ.out,HOZ.out⟩,by simp [intOf];omega⟩
  ·rw [HFE.out k (by rw [HPL.out];omega)] at HO
   have HSX:=hid (HST.out _ b HO.out)
   have HGR:=hid hG
   clear hG HO HST HFE HFA HFC HFZ HPA
   go_upto_region 10 with (go_at_call 215;refine HSX.out.mono ?_;rintro e w2 ⟨rfl,hO2,hB2⟩;have HS2:=hid (show FoS w b l.length l.length R [] (.slice none 0 0) w2 from ⟨gr_of_by HGR.out hB2 HBQ.out,hO2,Own.nil _ _ _ _,by simp [Value.ownBlock]⟩);clear hO2 hB2)
   clear HSX HGR
   go_wp2_with fail
   go_loopw [8,10,11,38] (fun one x10 x11 i wr=>∃j:Nat,j≤R.length∧i=.int .i64 j∧FoS w b l.length l.length R ((R.take j).foldl foldStep []) one wr) (fun _ _ _ i _=>R.length-(intOf i).toNat)
   case atStart=>exact ⟨0,Nat.zero_le _,rfl,HS2.out⟩
   case round=>
    obtain ⟨j,hj,rfl,hS⟩:=hrel
    have HS:=hid hS
    clear hS HS2
    obtain ⟨hOin,hOl⟩:=HFI.out j
    by_cases hlj:j < R.length
    ·have hf:=encF_at R j hlj []
     rw [List.append_nil] at hf
     obtain ⟨c0,-⟩:=own_cell HS.out.row hf.1
     obtain ⟨c1,-⟩:=own_cell HS.out.row hf.2.1
     obtain ⟨c2,-⟩:=own_cell HS.out.row hf.2.2
     obtain ⟨i0,i1,i2⟩:=HRI.out _ (List.getElem_mem hlj)
     have HFJ:=hid (HFN.out j hlj)
     clear hf
     generalize R[j]=f at *
     obtain ⟨⟨ff,ft⟩,fp⟩:=f
     simp only at c0 c1 c2 i0 i1 i2
     generalize (R.take j).foldl foldStep []=O at *
     obtain ⟨A8,c8,rfl⟩:=HS.out.one.form
     go_upto_region 13 with fail
     have hbf:=Bk.new wr 289 #[.int .i64 ff,.int .i64 ft,.int .i64 fp] (0,0)
     have hGb:=Gr.al (Gr.refl wr) (Obj.cells #[.int .i64 ff,.int .i64 ft,.int .i64 fp] 289)
     have HBN:=hid (fun (bb:Nat) (hv:(Value.slice A8 O.length c8).ownBlock=some bb)=>(World.ownsRow.lt HS.out.one bb hv).2)
     have HS:=hid (HS.out.to hGb)
     clear c0 c1 c2 hGb
     generalize wr.alloc (Obj.cells #[.int .i64 ff,.int .i64 ft,.int .i64 fp] 289)=wb at *
     generalize wr.heap.size=gb at *
     have y0:∀x,Gr wb x→x.cell? ⟨gb,0,none⟩=some (.int .i64 ff):=fun x h=>(hbf.gr h).cell 0
     have y1:∀x,Gr wb x→x.cell? ⟨gb,1,none⟩=some (.int .i64 ft):=fun x h=>(hbf.gr h).cell 1
     have y2:∀x,Gr wb x→x.cell? ⟨gb,2,none⟩=some (.int .i64 fp):=fun x h=>(hbf.gr h).cell 2
     have hbb:=Gr.refl wb
     have HBF:=hid hbf
     clear hbf
     rcases nil_or_snoc O with hOe | ⟨T,g,hOe⟩
     ·subst hOe
      rw [foldStep_nil] at HFJ
      have HS:=hid (show FoS w b l.length l.length R [] (.slice A8 0 c8) wb from HS.out)
      go_upto_region 14 with fail
      go_quiet (fail)
      have hd:=Gr.drN (Gr.refl wb) nq
      generalize wb.drewN nq=wd at *
      have HSD:=hid (HS.out.to hd)
      go_wp2_with (at_builtin;refine wpList_app1x (W0:=w) (W:=wd) (n:=0) (xs:=[]) (v:=.slice A8 0 c8) (news:=[.int .i64 ff,.int .i64 ft,.int .i64 fp]) elemFo rfl _ _ rfl rfl rfl HSD.out.gr.size HSD.out.one rfl (one_fo _ _ _) (by omega) (by omega) ?_;intro v' x' hown' happ;have HSA:=hid (HSD.out.app (f:=((ff,ft),fp)) hown' happ);clear hown' happ)
      exact ⟨⟨j+1,by omega,by go_num,by rw [HFJ.out];exact HSA.out⟩,by simp [intOf];omega⟩
     ·have e:O.length=T.length+1:=by rw [hOe,List.length_append,List.length_singleton]
      obtain ⟨⟨gf,gt⟩,gp⟩:=g
      have h0:=HS.out
      rw [e] at h0 ⊢
      rw [hOe] at h0 HFJ
      have hin:=hOin ((gf,gt),gp) (by rw [hOe];simp)
      have hT:T.length < 12:=by omega
      clear HS e hOe hOin hOl
      obtain ⟨bo,rfl⟩:=own_at1 h0.one (Nat.succ_pos _)
      obtain ⟨l0,l1,l2⟩:=last_at T ((gf,gt),gp)
      have q1:∀x,Gr wb x→x.cell? ⟨bo,T.length*3+1,none⟩=some (.int .i64 gt):=fun x h=>(own_cell ((h0.to h).one2) l1).1
      have hcap:T.length+1≤c8:=own_cap h0.one
      have e1:IntKind.i64.wrap ((T.length:Int)+1-1)=T.length:=by rw [show (T.length:Int)+1-1=T.length from by omega];exact IntWalk.i64_in _ (by omega)
      have e2:IntKind.i64.wrap (T.length:Int)=T.length:=IntWalk.i64_in _ (by omega)
      have hi1:(0:Int)≤(T.length:Int):=by omega
      have hi3:decide ((T.length:Int) < 0)=false:=by simp
      have hi2:(T.length:Int) < (T.length:Int)+1:=by omega
      have HO0:=hid h0
      clear h0
      obtain ⟨j0,j1,j2⟩:=hin
      simp only at j0 j1 j2
      have hne:bo≠gb:=Nat.ne_of_lt (HBN.out bo rfl)
      have ew:IntKind.i64.wrap (ff-gt)=ff-gt:=IntWalk.i64_in _ (by omega)
      clear HBN
      go_upto_region 14 with fail
      by_cases hmet:ff≤gt
      ·have hmet2:ff-gt≤0:=by omega
       rw [foldStep_met T _ _ hmet] at HFJ
       go_quiet (fail)
       have hd:=Gr.drN (Gr.refl wb) nq
       have h1:=HO0.out.to hd
       obtain ⟨z1,f1⟩:=own_cell h1.one2 l1
       obtain ⟨z2,f2⟩:=own_cell h1.one2 l2
       have x1:=y1 _ hd
       have x2:=y2 _ hd
       have HO1:=hid h1
       have HB1:=hid (HBF.out.gr hd)
       clear hd h1 y0 y1 y2 hbb q1
       generalize wb.drewN nq=wd at *
       go_upto_region 15 with fail
       go_region
       go_upto_region 16 with fail
       refine at_world (P:=Code.wp _ _ _ _) (w0:=(wd.setCell ⟨bo,T.length*3+1,none⟩ (.int .i64 (max gt ft))).drew) ?_
       intro w15 hw15
       obtain ⟨a1,a2,a3⟩:=HO1.out.met1 (max gt ft) hw15
       have b15:Bk w15 gb 289 #[.int .i64 ff,.int .i64 ft,.int .i64 fp] (0,0):=by rw [hw15];exact ((HB1.out).far (p:=⟨bo,T.length*3+1,none⟩) (Ne.symm hne) (.int .i64 (max gt ft))).gr (Gr.refl _).dr
       obtain ⟨z3,f3⟩:=own_cell a3 (j:=T.length*3+2) (u:=.int .i64 gp) (by rw [List.getElem?_set_ne (by omega)];exact l2)
       have x3:w15.cell? ⟨gb,2,none⟩=some (.int .i64 fp):=b15.cell 2
       have HA1:=hid a1
       have HA2:=hid a2
       have HA3:=hid a3
       have HOF:=hid HO1.out.off
       clear hw15 a1 a2 a3 b15 z1 f1 z2 f2 x1 x2
       go_region
       refine at_world (P:=Exit.then _ _ _ _) (w0:=(w15.setCell ⟨bo,T.length*3+2,none⟩ (.int .i64 (min gp fp))).drew) ?_
       intro w16 hw16
       have HSM:=hid (FoS.met2 HA1.out HA2.out HA3.out HOF.out (min gp fp) hw16)
       clear hw16 z3 f3 x3
       go_wp2_with fail
       exact ⟨⟨j+1,by omega,by go_num,by rw [HFJ.out];exact HSM.out⟩,by simp [intOf];omega⟩
      ·have hmet2:¬ff-gt≤0:=by omega
       rw [foldStep_apart T _ _ hmet] at HFJ
       go_quiet (fail)
       have hd:=Gr.drN (Gr.refl wb) nq
       generalize wb.drewN nq=wd at *
       have HSD:=hid (HO0.out.to hd)
       go_wp2_with (at_builtin;refine wpList_app1x (W0:=w) (W:=wd) (n:=T.length+1) (xs:=(T++[((gf,gt),gp)]).flatMap encF) (v:=.slice (some ⟨bo,0,none⟩) (T.length+1) c8) (news:=[.int .i64 ff,.int .i64 ft,.int .i64 fp]) elemFo rfl _ _ rfl rfl rfl HSD.out.gr.size HSD.out.one3 rfl (one_fo _ _ _) (by omega) (by omega) ?_;intro v' x' hown' happ;have HSA:=hid (HSD.out.app (f:=((ff,ft),fp)) (by rw [List.length_append,List.length_singleton];exact hown') happ);clear hown' happ)
       exact ⟨⟨j+1,by omega,by go_num,by rw [HFJ.out];exact HSA.out⟩,by simp [intOf];omega⟩
    ·have hljl:¬j < l.length:=by omega
     have ej:R.take j=R:=List.take_of_length_le (by omega)
     rw [ej] at HS hOl
     generalize R.foldl foldStep []=O at *
     have hO12:O.length≤12:=by omega
     have HSP:=hid (sortPlace_own w wr b l.length l.length R O _ HS.out hO12)
     have hSl:(sortBy cfPlace O).length=O.length:=(sortBy_perm swoPlace O).length_eq
     clear HS
     go_upto_region 20 with (go_at_call 217;refine HSP.out.mono ?_;rintro e w2 ⟨rfl,hg2,hO2⟩)
     rw [←hSl] at hO2
     generalize sortBy cfPlace O=S at *
     obtain ⟨A8,c8,rfl⟩:=hO2.form
     have HO2:=hid hO2
     have HG2:=hid hg2
     have hS12:S.length≤12:=by omega
     clear hO2 hg2 HSP hSl hO12 hOin hOl
     go_wp2_with fail
     go_loopw [12,14,101] (fun out x14 i wr=>∃m:Nat,m≤S.length∧i=.int .i64 m∧Gr w2 wr∧Own w2 wr 48 2 out (fstF S m).length (spansV (fstF S m))) (fun _ _ i _=>S.length-(intOf i).toNat)
     case atStart=>exact ⟨0,Nat.zero_le _,rfl,Gr.refl _,Own.nil _ _ _ _⟩
     case round=>
      obtain ⟨m,hm2,rfl,hG,hOo⟩:=hrel
      obtain ⟨A6,c6,rfl⟩:=hOo.form
      have HOo:=hid hOo
      have hml:=fstF_len S m hm2
      clear hOo
      by_cases hlt2:m < S.length
      ·have hf:=encF_at S m hlt2 []
       rw [List.append_nil] at hf
       obtain ⟨bo,rfl⟩:=own_at1 HO2.out (Nat.lt_of_le_of_lt (Nat.zero_le _) hlt2)
       have c0:=(own_cell (HO2.out.gr hG) hf.1).1
       have c1:=(own_cell (HO2.out.gr hG) hf.2.1).1
       have c2:=(own_cell (HO2.out.gr hG) hf.2.2).1
       have HSN:=hid (fstF_snoc S m hlt2)
       clear hf
       generalize S[m]=f at *
       obtain ⟨⟨ff,ft⟩,fp⟩:=f
       simp only at c0 c1 c2
       go_upto_region 24 with fail
       have hbf:=Bk.new wr 289 #[.int .i64 ff,.int .i64 ft,.int .i64 fp] (0,0)
       have hGb:=Gr.al (Gr.refl wr) (Obj.cells #[.int .i64 ff,.int .i64 ft,.int .i64 fp] 289)
       have hG3:=Gr.tr hG hGb
       have HOo:=hid (HOo.out.gr hGb)
       clear c0 c1 c2 hGb hG
       generalize wr.alloc (Obj.cells #[.int .i64 ff,.int .i64 ft,.int .i64 fp] 289)=wb at *
       generalize wr.heap.size=gb at *
       have y0:wb.cell? ⟨gb,0,none⟩=some (.int .i64 ff):=hbf.cell 0
       have y1:wb.cell? ⟨gb,1,none⟩=some (.int .i64 ft):=hbf.cell 1
       clear hbf
       go_wp2_with (at_builtin;refine wpList_app1 (W0:=w2) (W:=wb) (n:=(fstF S m).length) (xs:=spansV (fstF S m)) (news:=[.int .i64 ff,.int .i64 ft]) elemSpanT rfl _ _ rfl rfl rfl hG3 HOo.out rfl (one_span _ _) (by omega) (by omega) ?_;intro v' w4 hown4 hg4;have HO4:=hid hown4;clear hown4)
       refine ⟨⟨m+1,by omega,by go_num,hg4,?_⟩,by simp [intOf];omega⟩
       rw [HSN.out,List.length_append,spansV_app]
       exact HO4.out
      ·have hF:fstF S m=FL:=by rw [fstF_all S m (by omega)];exact HX.out.symm
       rw [hF] at HOo ⊢
       go_wp2_with fail
       go_ret
       exact ⟨A6,c6,rfl,own_base HOo.out HG2.out.size,Gr.tr HG2.out hG⟩
end Go.Proofs.YtflepnkpihfidaaGreatDoor
