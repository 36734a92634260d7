/- Parts. No conditions but those that each theorem names. -/
import Derived.Test.YtflepnkpihfidaaGreatDoorJGateO
import Derived.Test.YtflepnkpihfidaaGreatDoorJCond2
import Derived.Test.YtflepnkpihfidaaGreatDoorJSpec2
import Derived.Test.YtflepnkpihfidaaGreatDoorJHead1
import Derived.Test.YtflepnkpihfidaaGreatDoorJGate1
set_option linter.unusedVariables false
set_option linter.unusedSimpArgs false
namespace Go.Proofs.YtflepnkpihfidaaGreatDoor
open Lib (hid)
open Go.RowKit
def putCs (w:World) (g:Nat):List Value→Nat→World
 | [],_=>w
 | v::r,i=>putCs (w.setCell ⟨g,i,none⟩ v) g r (i+1)
theorem putCs_gr {a:World} {g:Nat} (hg:a.heap.size≤g):∀(l:List Value) (i:Nat) (w:World),Gr a w→Gr a (putCs w g l i)
 | [],_,_,h=>h
 | v::r,i,w,h=>putCs_gr hg r (i+1) _ (h.st (p:=⟨g,i,none⟩) hg v)
theorem putCs_by {g:Nat}:∀(l:List Value) (i:Nat) (a w:World),a.grownBy w (some g)→a.grownBy (putCs w g l i) (some g)
 | [],_,_,_,h=>h
 | v::r,i,a,w,h=>putCs_by r (i+1) a _ (by_st h i v)
theorem putCs_sl {v:Value} {n:Nat} {cs:List Value} {g:Nat} (hne:v.ownBlock≠some g):∀(l:List Value) (i:Nat) (w:World),Sl w v n cs→Sl (putCs w g l i) v n cs
 | [],_,_,h=>h
 | u::r,i,w,h=>putCs_sl hne r (i+1) _ (Sl.st h hne i u)
theorem putCs_go {g:Nat} {t:TypeId} {fr:Nat×Nat}:∀(l pre:List Value) (cs:List Value) (w:World),cs.length=l.length→Bk w g t (pre++cs).toArray fr→Bk (putCs w g l pre.length) g t (pre++l).toArray fr
 | [],pre,cs,w,hl,h=>by
   have:cs=[]:=List.eq_nil_of_length_eq_zero hl
   rw [this] at h;exact h
 | v::r,pre,cs,w,hl,h=>by
   cases cs with
   | nil=>simp at hl
   | cons c cs=>
     have h1:=Bk.set h pre.length v
     have e:(pre++c::cs).toArray.setIfInBounds pre.length v=((pre++[v])++cs).toArray:=by
      simp
     rw [e] at h1
     have h2:=putCs_go r (pre++[v]) cs _ (by simpa using hl) h1
     have e2:(pre++[v]).length=pre.length+1:=by simp
     rw [e2] at h2
     have e3:pre++[v]++r=pre++v::r:=by simp
     rw [e3] at h2
     exact h2
theorem putCs_bk {w:World} {g:Nat} {t:TypeId} {cs:Array Value} {fr:Nat×Nat} {l:List Value} (h:Bk w g t cs fr) (hl:cs.size=l.length):Bk (putCs w g l 0) g t l.toArray fr:=by
 have:=putCs_go l [] cs.toList w (by simpa using hl) (by simpa using h)
 simpa using this
theorem at_world {P:World→Prop} {w0:World} (h:∀wy,wy=w0→P wy):P w0:=h _ rfl
def zq:List Value:=[.bool false,str [],.slice none 0 0,.slice none 0 0,.slice none 0 0,.bool false,.bool false,.int .i64 0,.int .i64 0,str [],.bool false]
def AskEnd (w:World) (r:ReqT×Nat×Nat) (e:Ending) (w':World):Prop:=∃vs vm vn,e=.returned (.tuple #[.agg #[.bool r.1.1,str r.1.2.1,vs,vm,vn,.bool r.1.2.2.2.am,.bool r.1.2.2.2.an,.int .i64 r.1.2.2.2.si,.int .i64 r.1.2.2.2.un,str r.1.2.2.2.rg.1,.bool r.1.2.2.2.rg.2],.int .i64 (r.2.1:Nat),.int .i64 (r.2.2:Nat)])∧ReqA w' r.1 vs vm vn∧Gr w w'∧Fresh w vs∧Fresh w vm∧Fresh w vn
theorem reqA_zero (w:World):ReqA w ReqT.zero (.slice none 0 0) (.slice none 0 0) (.slice none 0 0):=⟨Specs.nil _,Tags.nil _,Tags.nil _⟩
theorem ask_zero {w wx:World} {g:Nat} (n:Nat) (h:Gr w wx) (hg:w.heap.size≤g):AskEnd w (ReqT.zero,0,n) (.returned (.tuple #[.agg #[.bool false,str [],.slice none 0 0,.slice none 0 0,.slice none 0 0,.bool false,.bool false,.int .i64 0,.int .i64 0,str [],.bool false],.int .i64 0,.int .i64 (n:Nat)])) (putCs wx g zq 0):=
 ⟨.slice none 0 0,.slice none 0 0,.slice none 0 0,rfl,reqA_zero _,putCs_gr hg _ _ _ h,fresh_nil _,fresh_nil _,fresh_nil _⟩
def CondEndX (C:CondT) (ec:Nat) (w:World) (e:Ending) (w':World):Prop:=∃A1 c1 A2 c2,e=.returned (.tuple #[.agg #[.slice A1 C.mt.length c1,.slice A2 C.no.length c2,.bool C.am,.bool C.an,.int .i64 C.si,.int .i64 C.un,str C.rg.1,.bool C.rg.2],.int .i64 (ec:Nat)])∧Tags w' (.slice A1 C.mt.length c1) C.mt∧Tags w' (.slice A2 C.no.length c2) C.no∧Gr w w'∧Fresh w (.slice A1 C.mt.length c1)∧Fresh w (.slice A2 C.no.length c2)
theorem condEndX {C:CondT} {ec:Nat} {w w':World} {e:Ending} (h:CondEnd (C,ec) w e w'):CondEndX C ec w e w':=h
theorem askF_coded {T:HeadT} {n:Nat} (h:ofN T.2.2.2 codingN≠[]):askF T n=(ReqT.zero,0,2):=by unfold askF;rw [if_pos h]
theorem askF_sized {T:HeadT} {n:Nat} (h:ofN T.2.2.2 codingN=[]) (h2:(ofN T.2.2.2 lengthN).all (·==[48])=false):askF T n=(ReqT.zero,0,2):=by unfold askF;rw [if_neg (fun k=>k h),if_pos h2]
theorem askF_good {T:HeadT} {n:Nat} (h:ofN T.2.2.2 codingN=[]) (h2:(ofN T.2.2.2 lengthN).all (·==[48])=true):askF T n=if (condP T.2.2.2).2≠0 then (ReqT.zero,0,(condP T.2.2.2).2) else ((T.1==headB,T.2.1,rngV (ofN T.2.2.2 rngN),(condP T.2.2.2).1),n,0):=by unfold askF;rw [if_neg (fun k=>k h),if_neg (by rw [h2];simp)]
theorem mid_of {fs:List Fld} (h:fs.all right=true∧fs.length≤100):Mid fs:=⟨by omega,fun f hf=>by have:=right_len (List.all_eq_true.1 h.1 f hf);omega⟩
theorem specs_ne {w:World} {v:Value} {g:Nat} (h:Fresh w v) (hg:g < w.heap.size):v.ownBlock≠some g:=fun e=>by have:=h g e;omega
end Go.Proofs.YtflepnkpihfidaaGreatDoor
namespace Go.Proofs.YtflepnkpihfidaaGreatDoor
open Lib (hid)
open Go.RowKit
set_option maxHeartbeats 16000000 in
set_option maxRecDepth 100000 in
theorem gateAsk_any (v:Value) (s:List UInt8) (w:World) (hb:Byts w v s) (hm:Ml w) (hs:s.length≤100000):Calls Tryz.prog 23 #[v] w (AskEnd w (askQ s)):=by
 obtain ⟨Av,cv,rfl,_,_,_⟩:=id hb
 have HH:=hid (fun (x:World) (g:Gr w x)=>ask_any (.slice Av s.length cv) s x (hb.gr g) (hm.gr g) (by omega))
 have H29:=hid (askR_right s)
 have HQ:=hid (show askQ s=if (askR s).2.2=0 then askF (askR s).1 (askR s).2.1 else (ReqT.zero,0,(askR s).2.2) from rfl)
 generalize askQ s=Q at *
 generalize askR s=R at *
 obtain ⟨⟨m,o,st,fs⟩,n,e⟩:=R
 have HMX:=hid (fun (x:World) (g:Gr w x)=>hm.gr g)
 clear hb hm
 go_enter Tryz.func23,Tryz.ntmps23
 go_upto_region 1 with fail
 have hbr:=Bk.new w 29 #[.bool false,str [],.slice none 0 0,.slice none 0 0,.slice none 0 0,.bool false,.bool false,.int .i64 0,.int .i64 0,str [],.bool false] (0,0)
 have hG0:=Gr.al (Gr.refl w) (Obj.cells #[.bool false,str [],.slice none 0 0,.slice none 0 0,.slice none 0 0,.bool false,.bool false,.int .i64 0,.int .i64 0,str [],.bool false] 29)
 obtain ⟨gr,hgg⟩:∃g,g=w.heap.size:=⟨_,rfl⟩
 rw [←hgg] at hbr ⊢
 have HGG:=hid (show w.heap.size≤gr from Nat.le_of_eq hgg.symm)
 clear hgg
 generalize w.alloc (Obj.cells #[.bool false,str [],.slice none 0 0,.slice none 0 0,.slice none 0 0,.bool false,.bool false,.int .i64 0,.int .i64 0,str [],.bool false] 29)=w0 at *
 have HBR:=hid (fun (x:World) (g:Gr w0 x)=>hbr.gr g)
 have hgr0:=hbr.lt
 have HG0:=hid hG0
 clear hbr hG0
 go_upto_region 2 with (go_at_call 65;refine (HH.out _ HG0.out).mono ?_;rintro e1 w1 ⟨A1,c1,rfl,hF1,hG1,hR1⟩;have HF1:=hid hF1;clear hF1 hR1)
 have hb2:=Bk.new w1 123 #[str m,str o,.int .i64 st,.slice A1 fs.length c1] (0,0)
 have hG2:=Gr.al (Gr.refl w1) (Obj.cells #[str m,str o,.int .i64 st,.slice A1 fs.length c1] 123)
 have HF2:=hid (HF1.out.gr hG2)
 have hG02:=Gr.tr hG1 hG2
 generalize w1.alloc (Obj.cells #[str m,str o,.int .i64 st,.slice A1 fs.length c1] 123)=w2 at *
 generalize w1.heap.size=gh at *
 have r0:∀x,Gr w2 x→x.cell? ⟨gh,0,none⟩=some (str m):=fun x h=>(hb2.gr h).cell 0
 have r1:∀x,Gr w2 x→x.cell? ⟨gh,1,none⟩=some (str o):=fun x h=>(hb2.gr h).cell 1
 have r3:∀x,Gr w2 x→x.cell? ⟨gh,3,none⟩=some (.slice A1 fs.length c1):=fun x h=>(hb2.gr h).cell 3
 have h22:Gr w2 w2:=Gr.refl w2
 clear hb2 hG1 hG2 HF1 HH
 by_cases he:e=0
 ·subst he
  have HQ:=hid (show Q=askF (m,o,st,fs) n from by rw [HQ.out,if_pos rfl])
  have HMD:=hid (mid_of H29.out)
  have HG02:=hid hG02
  clear H29 hG02
  have HGE:=hid (fun (x:World) (g:Gr w2 x)=>get_any _ fs codingN x (HF2.out.gr g) HMD.out.short (by decide))
  have HOF:=hid (fun (x:World) (nm:List UInt8) (hn:nm.length≤1000) (g:Gr w2 x)=>of_any _ fs nm x (HF2.out.gr g) HMD.out.short (by omega) (by have:=HMD.out.few;omega))
  have HGF:=hid (getN_found fs codingN)
  generalize getN fs codingN=GN at *
  obtain ⟨gv,gb⟩:=GN
  by_cases h1:ofN fs codingN=[]
  ·obtain rfl:gb=false:=by have:=HGF.out;simp only [h1] at this;simpa using this
   clear HGF
   go_upto_region 7 with (go_at_call 66;refine (HGE.out _ h22).mono ?_;rintro e3 w3 ⟨rfl,hG3⟩)
   clear HGE
   have HO1:=hid (HOF.out w3 lengthN (by decide) hG3)
   have HB1:=hid (HMD.out.ofB lengthN)
   have HL1:=hid (HMD.out.ofLen lengthN)
   have HQ0:=hid (fun (h:(ofN fs lengthN).all (·==[48])=false)=>show Q=(ReqT.zero,0,2) from HQ.out.trans (askF_sized h1 h))
   have HQ1:=hid (fun (h:(ofN fs lengthN).all (·==[48])=true)=>show Q=if (condP fs).2≠0 then (ReqT.zero,0,(condP fs).2) else ((m==headB,o,rngV (ofN fs rngN),(condP fs).1),n,0) from HQ.out.trans (askF_good h1 h))
   clear HQ h1
   generalize ofN fs lengthN=vs at *
   go_upto_region 8 with (go_at_call 67;refine HO1.out.mono ?_;rintro e4 w4 ⟨v4,rfl,hS4,hG4⟩;obtain ⟨A4,c4,rfl,hc4,hx4,hA4⟩:=hS4.open;have HA4:=hid hA4;clear hS4 hA4)
   clear HO1
   have hG24:=Gr.tr hG3 hG4
   have hvl:=HL1.out
   clear hG3 hG4
   go_loopw [11,38] (fun x11 i wr=>∃k:Nat,k≤vs.length∧i=.int .i64 k∧Gr w4 wr∧(vs.take k).all (·==[48])=true) (fun _ i _=>vs.length-(intOf i).toNat)
   case atStart=>exact ⟨0,Nat.zero_le _,rfl,Gr.refl _,rfl⟩
   case round=>
    obtain ⟨k,hk,rfl,hG,hE⟩:=hrel
    have HE:=hid hE
    clear hE
    by_cases hlt:k < vs.length
    ·obtain ⟨b5,o5,rfl,hb5,p5⟩:=HA4.out k hlt
     have p5:=Gr.cell hG p5
     have HB5:=hid (HB1.out _ (List.getElem_mem hlt))
     go_upto_region 10 with fail
     cases hz:(vs[k]==[48]) with
     | true=>
       have HS:=hid (all_take_succ _ vs k hlt HE.out hz)
       go_wp2_with fail
       exact ⟨⟨k+1,by omega,by go_num,hG,HS.out⟩,by simp [intOf];omega⟩
     | false=>
       have HX:=hid (HQ0.out (by rw [List.all_eq_false];exact ⟨vs[k],List.getElem_mem hlt,by simp [hz]⟩))
       have HGX:=hid (Gr.tr HG02.out (Gr.tr hG24 hG))
       clear HQ0 HQ1 HE
       have hbz:=HBR.out _ (Gr.tr HG02.out (Gr.tr hG24 hG))
       generalize hww:wr=wx at *
       clear hww
       have az0:wx.cell? ⟨gr,0,none⟩=some (.bool false):=hbz.cell 0
       have af0:=hbz.free 0 (.inr (Nat.zero_le _))
       have az1:wx.cell? ⟨gr,1,none⟩=some (str []):=hbz.cell 1
       have af1:=hbz.free 1 (.inr (Nat.zero_le _))
       have az2:wx.cell? ⟨gr,2,none⟩=some (.slice none 0 0):=hbz.cell 2
       have af2:=hbz.free 2 (.inr (Nat.zero_le _))
       have az3:wx.cell? ⟨gr,3,none⟩=some (.slice none 0 0):=hbz.cell 3
       have af3:=hbz.free 3 (.inr (Nat.zero_le _))
       have az4:wx.cell? ⟨gr,4,none⟩=some (.slice none 0 0):=hbz.cell 4
       have af4:=hbz.free 4 (.inr (Nat.zero_le _))
       have az5:wx.cell? ⟨gr,5,none⟩=some (.bool false):=hbz.cell 5
       have af5:=hbz.free 5 (.inr (Nat.zero_le _))
       have az6:wx.cell? ⟨gr,6,none⟩=some (.bool false):=hbz.cell 6
       have af6:=hbz.free 6 (.inr (Nat.zero_le _))
       have az7:wx.cell? ⟨gr,7,none⟩=some (.int .i64 0):=hbz.cell 7
       have af7:=hbz.free 7 (.inr (Nat.zero_le _))
       have az8:wx.cell? ⟨gr,8,none⟩=some (.int .i64 0):=hbz.cell 8
       have af8:=hbz.free 8 (.inr (Nat.zero_le _))
       have az9:wx.cell? ⟨gr,9,none⟩=some (str []):=hbz.cell 9
       have af9:=hbz.free 9 (.inr (Nat.zero_le _))
       have az10:wx.cell? ⟨gr,10,none⟩=some (.bool false):=hbz.cell 10
       have af10:=hbz.free 10 (.inr (Nat.zero_le _))
       go_wp2_with fail
       refine at_world (P:=bodyPost _ _ _ _ _) (w0:=putCs wx gr zq 0) ?_
       intro wy hwy
       have hy:Bk wy gr 29 #[.bool false,str [],.slice none 0 0,.slice none 0 0,.slice none 0 0,.bool false,.bool false,.int .i64 0,.int .i64 0,str [],.bool false] (0,0):=by rw [hwy];exact putCs_bk hbz rfl
       have yz0:wy.cell? ⟨gr,0,none⟩=some (.bool false):=hy.cell 0
       have yz1:wy.cell? ⟨gr,1,none⟩=some (str []):=hy.cell 1
       have yz2:wy.cell? ⟨gr,2,none⟩=some (.slice none 0 0):=hy.cell 2
       have yz3:wy.cell? ⟨gr,3,none⟩=some (.slice none 0 0):=hy.cell 3
       have yz4:wy.cell? ⟨gr,4,none⟩=some (.slice none 0 0):=hy.cell 4
       have yz5:wy.cell? ⟨gr,5,none⟩=some (.bool false):=hy.cell 5
       have yz6:wy.cell? ⟨gr,6,none⟩=some (.bool false):=hy.cell 6
       have yz7:wy.cell? ⟨gr,7,none⟩=some (.int .i64 0):=hy.cell 7
       have yz8:wy.cell? ⟨gr,8,none⟩=some (.int .i64 0):=hy.cell 8
       have yz9:wy.cell? ⟨gr,9,none⟩=some (str []):=hy.cell 9
       have yz10:wy.cell? ⟨gr,10,none⟩=some (.bool false):=hy.cell 10
       refine bodyPost_ret (v:=.tuple #[.agg #[.bool false,str [],.slice none 0 0,.slice none 0 0,.slice none 0 0,.bool false,.bool false,.int .i64 0,.int .i64 0,str [],.bool false],.int .i64 0,.int .i64 2]) (by simp [results,Tryz.results23,go_sem,yz0,yz1,yz2,yz3,yz4,yz5,yz6,yz7,yz8,yz9,yz10]) rfl ?_
       rw [HX.out,hwy]
       exact ask_zero _ (Gr.tr HG0.out (HGX.out)) HGG.out
    ·have hvk:vs.take k=vs:=List.take_of_length_le (by omega)
     have HQ2:=hid (HQ1.out (by have:=HE.out;rwa [hvk] at this))
     clear HQ0 HQ1 HE hvk HA4 HB1
     have hG2r:=Gr.tr hG24 hG
     have HCP:=hid (fun (x:World) (g:Gr w2 x)=>condParse_any _ fs x (HF2.out.gr g) HMD.out)
     generalize condP fs=CP at *
     obtain ⟨C,ec⟩:=CP
     go_upto_region 14 with fail
     refine at_world (P:=Code.wp _ _ _ _) (w0:=wr.alloc (Obj.cells #[.bool (m==headB),str o,.slice none 0 0,.slice none 0 0,.slice none 0 0,.bool false,.bool false,.int .i64 0,.int .i64 0,str [],.bool false] 29)) ?_
     intro wq hwq
     have hbq:Bk wq wr.heap.size 29 #[.bool (m==headB),str o,.slice none 0 0,.slice none 0 0,.slice none 0 0,.bool false,.bool false,.int .i64 0,.int .i64 0,str [],.bool false] (0,0):=by rw [hwq];exact Bk.new wr 29 #[.bool (m==headB),str o,.slice none 0 0,.slice none 0 0,.slice none 0 0,.bool false,.bool false,.int .i64 0,.int .i64 0,str [],.bool false] (0,0)
     have hGq:Gr wr wq:=by rw [hwq];exact Gr.al (Gr.refl wr) _
     clear hwq
     have hlq:=hbq.lt
     have hgq2:w2.heap.size≤wr.heap.size:=hG2r.size
     have hG2q:=Gr.tr hG2r hGq
     generalize wr.heap.size=gq at *
     have HWQ:=hid (show w.heap.size≤gq from by have:=HG0.out.size;have:=HG02.out.size;omega)
     have HRQ:=hid (show gr < gq from by have:=HG02.out.size;omega)
     clear hG hG24 hGq hG2r
     go_upto_region 15 with (go_at_call 68;refine (HCP.out _ hG2q).mono ?_;rintro e9 w9 hce;obtain ⟨A7,c7,A8,c8,rfl,hT7,hT8,hG9,hR7,hR8⟩:=condEndX hce;clear hce;have hbq9:=hbq.gr hG9;have HT7:=hid (And.intro hT7 (specs_ne hR7 hlq));have HT8:=hid (And.intro hT8 (specs_ne hR8 hlq));have HFR7:=hid (Fresh.tr (Gr.tr HG0.out (Gr.tr HG02.out hG2q)) hR7);have HFR8:=hid (Fresh.tr (Gr.tr HG0.out (Gr.tr HG02.out hG2q)) hR8);have HQ7:=hid (specs_ne hR7 hlq);have HQ8:=hid (specs_ne hR8 hlq);have HN7:=hid (specs_ne hR7 (Nat.lt_trans HRQ.out hlq));have HN8:=hid (specs_ne hR8 (Nat.lt_trans HRQ.out hlq));clear hT7 hT8 hR7 hR8;have qz0:w9.cell? ⟨gq,0,none⟩=some (.bool (m==headB)):=hbq9.cell 0;have qf0:=hbq9.free 0 (.inr (Nat.zero_le _));have qz1:w9.cell? ⟨gq,1,none⟩=some (str o):=hbq9.cell 1;have qf1:=hbq9.free 1 (.inr (Nat.zero_le _));have qz2:w9.cell? ⟨gq,2,none⟩=some (.slice none 0 0):=hbq9.cell 2;have qf2:=hbq9.free 2 (.inr (Nat.zero_le _));have qz3:w9.cell? ⟨gq,3,none⟩=some (.slice none 0 0):=hbq9.cell 3;have qf3:=hbq9.free 3 (.inr (Nat.zero_le _));have qz4:w9.cell? ⟨gq,4,none⟩=some (.slice none 0 0):=hbq9.cell 4;have qf4:=hbq9.free 4 (.inr (Nat.zero_le _));have qz5:w9.cell? ⟨gq,5,none⟩=some (.bool false):=hbq9.cell 5;have qf5:=hbq9.free 5 (.inr (Nat.zero_le _));have qz6:w9.cell? ⟨gq,6,none⟩=some (.bool false):=hbq9.cell 6;have qf6:=hbq9.free 6 (.inr (Nat.zero_le _));have qz7:w9.cell? ⟨gq,7,none⟩=some (.int .i64 0):=hbq9.cell 7;have qf7:=hbq9.free 7 (.inr (Nat.zero_le _));have qz8:w9.cell? ⟨gq,8,none⟩=some (.int .i64 0):=hbq9.cell 8;have qf8:=hbq9.free 8 (.inr (Nat.zero_le _));have qz9:w9.cell? ⟨gq,9,none⟩=some (str []):=hbq9.cell 9;have qf9:=hbq9.free 9 (.inr (Nat.zero_le _));have qz10:w9.cell? ⟨gq,10,none⟩=some (.bool false):=hbq9.cell 10;have qf10:=hbq9.free 10 (.inr (Nat.zero_le _)))
     have HG29:=hid (Gr.tr hG2q hG9)
     refine at_world (P:=Code.wp _ _ _ _) (w0:=putCs w9 gq [.slice A7 C.mt.length c7,.slice A8 C.no.length c8,.bool C.am,.bool C.an,.int .i64 C.si,.int .i64 C.un,str C.rg.1,.bool C.rg.2] 3) ?_
     intro w10 hw10
     have hbq10:Bk w10 gq 29 #[.bool (m==headB),str o,.slice none 0 0,.slice A7 C.mt.length c7,.slice A8 C.no.length c8,.bool C.am,.bool C.an,.int .i64 C.si,.int .i64 C.un,str C.rg.1,.bool C.rg.2] (0,0):=by
      rw [hw10]
      exact putCs_go [.slice A7 C.mt.length c7,.slice A8 C.no.length c8,.bool C.am,.bool C.an,.int .i64 C.si,.int .i64 C.un,str C.rg.1,.bool C.rg.2] [.bool (m==headB),str o,.slice none 0 0] [.slice none 0 0,.slice none 0 0,.bool false,.bool false,.int .i64 0,.int .i64 0,str [],.bool false] w9 rfl hbq9
     have HM10:=hid (show Tags w10 (.slice A7 C.mt.length c7) C.mt from by rw [hw10];exact putCs_sl HT7.out.2 _ _ _ HT7.out.1)
     have HO10:=hid (show Tags w10 (.slice A8 C.no.length c8) C.no from by rw [hw10];exact putCs_sl HT8.out.2 _ _ _ HT8.out.1)
     have HSZQ:=hid (show wq.heap.size≤w10.heap.size from by rw [hw10];exact Nat.le_trans hG9.size (putCs_by _ _ _ _ ((Gr.refl w9).by (some gq))).size)
     have hG210:Gr w2 w10:=by rw [hw10];exact putCs_gr hgq2 _ _ _ HG29.out
     clear hw10 hbq9 HT7 HT8 HG29 HCP qz0 qf0 qz1 qf1 qz2 qf2 qz3 qf3 qz4 qf4 qz5 qf5 qz6 qf6 qz7 qf7 qz8 qf8 qz9 qf9 qz10 qf10
     by_cases hec:ec=0
     ·subst hec
      have HX0:=hid (show Q=((m==headB,o,rngV (ofN fs rngN),C),n,0) from by rw [HQ2.out];rfl)
      clear HQ2
      have HO2:=hid (HOF.out w10 rngN (by decide) hG210)
      have HB2:=hid (HMD.out.ofB rngN)
      have HL2:=hid (HMD.out.ofLen rngN)
      clear HOF HMD HF2
      generalize ofN fs rngN=rs at *
      go_upto_region 18 with (go_at_call 67;refine HO2.out.mono ?_;rintro e11 w11 ⟨v11,rfl,hS11,hG11⟩;obtain ⟨A11,c11,rfl,hc11,hx11,hA11⟩:=hS11.open;have HA11:=hid hA11;clear hS11 hA11)
      have hbq11:=hbq10.gr hG11
      have hG211:=Gr.tr hG210 hG11
      have HM11:=hid (HM10.out.gr hG11)
      have HO11:=hid (HO10.out.gr hG11)
      clear HM10 HO10 hbq10 HO2
      have hrl:=HL2.out
      by_cases h1r:rs.length=1
      ·obtain ⟨x,rfl⟩:∃x,rs=[x]:=List.length_eq_one_iff.1 h1r
       obtain ⟨b12,o12,rfl,hb12,p12⟩:=HA11.out 0 (by simp)
       simp only [List.getElem_cons_zero,Nat.add_zero] at p12
       have HSP:=hid (specParse_any x w11 (HMX.out _ (Gr.tr HG0.out (Gr.tr HG02.out hG211))) (by have:=HB2.out x (List.mem_singleton.2 rfl);omega))
       have HRV:=hid (show rngV [x]=if (specP x).2=0 then (specP x).1 else [] from rfl)
       rw [HRV.out] at HX0
       clear HRV h1r HL2 HB2 HA11
       generalize specP x=SX at *
       obtain ⟨sl,es⟩:=SX
       go_upto_region 20 with (go_at_call 69;refine HSP.out.mono ?_;rintro e13 w13 ⟨v13,rfl,hS13,hG13,hR13⟩;have HS13:=hid hS13;have HFR13:=hid (Fresh.tr (Gr.tr HG0.out (Gr.tr HG02.out hG211)) hR13);have HN13:=hid (specs_ne hR13 (Nat.lt_of_lt_of_le (Nat.lt_trans HRQ.out hlq) (Nat.le_trans HSZQ.out hG11.size)));have HQ13:=hid (specs_ne hR13 (Nat.lt_of_lt_of_le hlq (Nat.le_trans HSZQ.out hG11.size)));clear hS13 hR13)
       have hbq13:=hbq11.gr hG13
       have hG213:=Gr.tr hG211 hG13
       have HM13:=hid (HM11.out.gr hG13)
       have HO13:=hid (HO11.out.gr hG13)
       clear HM11 HO11 hbq11 HSP
       by_cases hes:es=0
       ·subst hes
        obtain ⟨A13,c13,rfl,-,-,-⟩:=HS13.out.open
        have HX:=hid (show Q=((m==headB,o,sl,C),n,0) from by rw [HX0.out];rfl)
        clear HX0
        have zz2:w13.cell? ⟨gq,2,none⟩=some (.slice none 0 0):=hbq13.cell 2
        have zf2:=hbq13.free 2 (.inr (Nat.zero_le _))
        go_upto_region 22 with fail
        have hbq14:=hbq13.set 2 (.slice A13 sl.length c13)
        have HM14:=hid (show Tags (w13.setCell ⟨gq,2,none⟩ (.slice A13 sl.length c13)) (.slice A7 C.mt.length c7) C.mt from Sl.st HM13.out HQ7.out _ _)
        have HO14:=hid (show Tags (w13.setCell ⟨gq,2,none⟩ (.slice A13 sl.length c13)) (.slice A8 C.no.length c8) C.no from Sl.st HO13.out HQ8.out _ _)
        have HS14:=hid (show Specs (w13.setCell ⟨gq,2,none⟩ (.slice A13 sl.length c13)) (.slice A13 sl.length c13) sl from Sl.st HS13.out HQ13.out _ _)
        have hG214:Gr w2 (w13.setCell ⟨gq,2,none⟩ (.slice A13 sl.length c13)):=hG213.st (p:=⟨gq,2,none⟩) hgq2 _
        clear hbq13 HM13 HO13 HS13 hG213 zz2 zf2
        generalize w13.setCell ⟨gq,2,none⟩ (.slice A13 sl.length c13)=w14 at *
        have hbq14:Bk w14 gq 29 #[.bool (m==headB),str o,.slice A13 sl.length c13,.slice A7 C.mt.length c7,.slice A8 C.no.length c8,.bool C.am,.bool C.an,.int .i64 C.si,.int .i64 C.un,str C.rg.1,.bool C.rg.2] (0,0):=by simpa using hbq14
        have HGF2:=hid (Gr.tr HG02.out (hG214))
        have hbz:=HBR.out _ HGF2.out
        have az0:w14.cell? ⟨gr,0,none⟩=some (.bool false):=hbz.cell 0
        have af0:=hbz.free 0 (.inr (Nat.zero_le _))
        have az1:w14.cell? ⟨gr,1,none⟩=some (str []):=hbz.cell 1
        have af1:=hbz.free 1 (.inr (Nat.zero_le _))
        have az2:w14.cell? ⟨gr,2,none⟩=some (.slice none 0 0):=hbz.cell 2
        have af2:=hbz.free 2 (.inr (Nat.zero_le _))
        have az3:w14.cell? ⟨gr,3,none⟩=some (.slice none 0 0):=hbz.cell 3
        have af3:=hbz.free 3 (.inr (Nat.zero_le _))
        have az4:w14.cell? ⟨gr,4,none⟩=some (.slice none 0 0):=hbz.cell 4
        have af4:=hbz.free 4 (.inr (Nat.zero_le _))
        have az5:w14.cell? ⟨gr,5,none⟩=some (.bool false):=hbz.cell 5
        have af5:=hbz.free 5 (.inr (Nat.zero_le _))
        have az6:w14.cell? ⟨gr,6,none⟩=some (.bool false):=hbz.cell 6
        have af6:=hbz.free 6 (.inr (Nat.zero_le _))
        have az7:w14.cell? ⟨gr,7,none⟩=some (.int .i64 0):=hbz.cell 7
        have af7:=hbz.free 7 (.inr (Nat.zero_le _))
        have az8:w14.cell? ⟨gr,8,none⟩=some (.int .i64 0):=hbz.cell 8
        have af8:=hbz.free 8 (.inr (Nat.zero_le _))
        have az9:w14.cell? ⟨gr,9,none⟩=some (str []):=hbz.cell 9
        have af9:=hbz.free 9 (.inr (Nat.zero_le _))
        have az10:w14.cell? ⟨gr,10,none⟩=some (.bool false):=hbz.cell 10
        have af10:=hbz.free 10 (.inr (Nat.zero_le _))
        have bz0:w14.cell? ⟨gq,0,none⟩=some (.bool (m==headB)):=hbq14.cell 0
        have bz1:w14.cell? ⟨gq,1,none⟩=some (str o):=hbq14.cell 1
        have bz2:w14.cell? ⟨gq,2,none⟩=some (.slice A13 sl.length c13):=hbq14.cell 2
        have bz3:w14.cell? ⟨gq,3,none⟩=some (.slice A7 C.mt.length c7):=hbq14.cell 3
        have bz4:w14.cell? ⟨gq,4,none⟩=some (.slice A8 C.no.length c8):=hbq14.cell 4
        have bz5:w14.cell? ⟨gq,5,none⟩=some (.bool C.am):=hbq14.cell 5
        have bz6:w14.cell? ⟨gq,6,none⟩=some (.bool C.an):=hbq14.cell 6
        have bz7:w14.cell? ⟨gq,7,none⟩=some (.int .i64 C.si):=hbq14.cell 7
        have bz8:w14.cell? ⟨gq,8,none⟩=some (.int .i64 C.un):=hbq14.cell 8
        have bz9:w14.cell? ⟨gq,9,none⟩=some (str C.rg.1):=hbq14.cell 9
        have bz10:w14.cell? ⟨gq,10,none⟩=some (.bool C.rg.2):=hbq14.cell 10
        go_wp2_with fail
        refine at_world (P:=bodyPost _ _ _ _ _) (w0:=putCs w14 gr [.bool (m==headB),str o,.slice A13 sl.length c13,.slice A7 C.mt.length c7,.slice A8 C.no.length c8,.bool C.am,.bool C.an,.int .i64 C.si,.int .i64 C.un,str C.rg.1,.bool C.rg.2] 0) ?_
        intro wy hwy
        have hy:Bk wy gr 29 #[.bool (m==headB),str o,.slice A13 sl.length c13,.slice A7 C.mt.length c7,.slice A8 C.no.length c8,.bool C.am,.bool C.an,.int .i64 C.si,.int .i64 C.un,str C.rg.1,.bool C.rg.2] (0,0):=by rw [hwy];exact putCs_bk hbz rfl
        have yz0:wy.cell? ⟨gr,0,none⟩=some (.bool (m==headB)):=hy.cell 0
        have yz1:wy.cell? ⟨gr,1,none⟩=some (str o):=hy.cell 1
        have yz2:wy.cell? ⟨gr,2,none⟩=some (.slice A13 sl.length c13):=hy.cell 2
        have yz3:wy.cell? ⟨gr,3,none⟩=some (.slice A7 C.mt.length c7):=hy.cell 3
        have yz4:wy.cell? ⟨gr,4,none⟩=some (.slice A8 C.no.length c8):=hy.cell 4
        have yz5:wy.cell? ⟨gr,5,none⟩=some (.bool C.am):=hy.cell 5
        have yz6:wy.cell? ⟨gr,6,none⟩=some (.bool C.an):=hy.cell 6
        have yz7:wy.cell? ⟨gr,7,none⟩=some (.int .i64 C.si):=hy.cell 7
        have yz8:wy.cell? ⟨gr,8,none⟩=some (.int .i64 C.un):=hy.cell 8
        have yz9:wy.cell? ⟨gr,9,none⟩=some (str C.rg.1):=hy.cell 9
        have yz10:wy.cell? ⟨gr,10,none⟩=some (.bool C.rg.2):=hy.cell 10
        refine bodyPost_ret (v:=.tuple #[.agg #[.bool (m==headB),str o,.slice A13 sl.length c13,.slice A7 C.mt.length c7,.slice A8 C.no.length c8,.bool C.am,.bool C.an,.int .i64 C.si,.int .i64 C.un,str C.rg.1,.bool C.rg.2],.int .i64 n,.int .i64 0]) (by simp [results,Tryz.results23,go_sem,yz0,yz1,yz2,yz3,yz4,yz5,yz6,yz7,yz8,yz9,yz10]) rfl ?_
        rw [HX.out,hwy]
        exact ⟨_,_,_,rfl,⟨putCs_sl HN13.out _ _ _ HS14.out,putCs_sl HN7.out _ _ _ HM14.out,putCs_sl HN8.out _ _ _ HO14.out⟩,putCs_gr HGG.out _ _ _ (Gr.tr HG0.out HGF2.out),HFR13.out,HFR7.out,HFR8.out⟩
       ·have HX:=hid (show Q=((m==headB,o,[],C),n,0) from by rw [HX0.out];show ((m==headB,o,if es=0 then sl else [],C),n,0)=_;rw [if_neg hes])
        have d5:((es:Int)==0)=false:=by simp;omega
        clear HX0 hes
        have HGF2:=hid (Gr.tr HG02.out (hG213))
        have hbz:=HBR.out _ HGF2.out
        have az0:w13.cell? ⟨gr,0,none⟩=some (.bool false):=hbz.cell 0
        have af0:=hbz.free 0 (.inr (Nat.zero_le _))
        have az1:w13.cell? ⟨gr,1,none⟩=some (str []):=hbz.cell 1
        have af1:=hbz.free 1 (.inr (Nat.zero_le _))
        have az2:w13.cell? ⟨gr,2,none⟩=some (.slice none 0 0):=hbz.cell 2
        have af2:=hbz.free 2 (.inr (Nat.zero_le _))
        have az3:w13.cell? ⟨gr,3,none⟩=some (.slice none 0 0):=hbz.cell 3
        have af3:=hbz.free 3 (.inr (Nat.zero_le _))
        have az4:w13.cell? ⟨gr,4,none⟩=some (.slice none 0 0):=hbz.cell 4
        have af4:=hbz.free 4 (.inr (Nat.zero_le _))
        have az5:w13.cell? ⟨gr,5,none⟩=some (.bool false):=hbz.cell 5
        have af5:=hbz.free 5 (.inr (Nat.zero_le _))
        have az6:w13.cell? ⟨gr,6,none⟩=some (.bool false):=hbz.cell 6
        have af6:=hbz.free 6 (.inr (Nat.zero_le _))
        have az7:w13.cell? ⟨gr,7,none⟩=some (.int .i64 0):=hbz.cell 7
        have af7:=hbz.free 7 (.inr (Nat.zero_le _))
        have az8:w13.cell? ⟨gr,8,none⟩=some (.int .i64 0):=hbz.cell 8
        have af8:=hbz.free 8 (.inr (Nat.zero_le _))
        have az9:w13.cell? ⟨gr,9,none⟩=some (str []):=hbz.cell 9
        have af9:=hbz.free 9 (.inr (Nat.zero_le _))
        have az10:w13.cell? ⟨gr,10,none⟩=some (.bool false):=hbz.cell 10
        have af10:=hbz.free 10 (.inr (Nat.zero_le _))
        have bz0:w13.cell? ⟨gq,0,none⟩=some (.bool (m==headB)):=hbq13.cell 0
        have bz1:w13.cell? ⟨gq,1,none⟩=some (str o):=hbq13.cell 1
        have bz2:w13.cell? ⟨gq,2,none⟩=some (.slice none 0 0):=hbq13.cell 2
        have bz3:w13.cell? ⟨gq,3,none⟩=some (.slice A7 C.mt.length c7):=hbq13.cell 3
        have bz4:w13.cell? ⟨gq,4,none⟩=some (.slice A8 C.no.length c8):=hbq13.cell 4
        have bz5:w13.cell? ⟨gq,5,none⟩=some (.bool C.am):=hbq13.cell 5
        have bz6:w13.cell? ⟨gq,6,none⟩=some (.bool C.an):=hbq13.cell 6
        have bz7:w13.cell? ⟨gq,7,none⟩=some (.int .i64 C.si):=hbq13.cell 7
        have bz8:w13.cell? ⟨gq,8,none⟩=some (.int .i64 C.un):=hbq13.cell 8
        have bz9:w13.cell? ⟨gq,9,none⟩=some (str C.rg.1):=hbq13.cell 9
        have bz10:w13.cell? ⟨gq,10,none⟩=some (.bool C.rg.2):=hbq13.cell 10
        go_wp2_with fail
        refine at_world (P:=bodyPost _ _ _ _ _) (w0:=putCs w13 gr [.bool (m==headB),str o,.slice none 0 0,.slice A7 C.mt.length c7,.slice A8 C.no.length c8,.bool C.am,.bool C.an,.int .i64 C.si,.int .i64 C.un,str C.rg.1,.bool C.rg.2] 0) ?_
        intro wy hwy
        have hy:Bk wy gr 29 #[.bool (m==headB),str o,.slice none 0 0,.slice A7 C.mt.length c7,.slice A8 C.no.length c8,.bool C.am,.bool C.an,.int .i64 C.si,.int .i64 C.un,str C.rg.1,.bool C.rg.2] (0,0):=by rw [hwy];exact putCs_bk hbz rfl
        have yz0:wy.cell? ⟨gr,0,none⟩=some (.bool (m==headB)):=hy.cell 0
        have yz1:wy.cell? ⟨gr,1,none⟩=some (str o):=hy.cell 1
        have yz2:wy.cell? ⟨gr,2,none⟩=some (.slice none 0 0):=hy.cell 2
        have yz3:wy.cell? ⟨gr,3,none⟩=some (.slice A7 C.mt.length c7):=hy.cell 3
        have yz4:wy.cell? ⟨gr,4,none⟩=some (.slice A8 C.no.length c8):=hy.cell 4
        have yz5:wy.cell? ⟨gr,5,none⟩=some (.bool C.am):=hy.cell 5
        have yz6:wy.cell? ⟨gr,6,none⟩=some (.bool C.an):=hy.cell 6
        have yz7:wy.cell? ⟨gr,7,none⟩=some (.int .i64 C.si):=hy.cell 7
        have yz8:wy.cell? ⟨gr,8,none⟩=some (.int .i64 C.un):=hy.cell 8
        have yz9:wy.cell? ⟨gr,9,none⟩=some (str C.rg.1):=hy.cell 9
        have yz10:wy.cell? ⟨gr,10,none⟩=some (.bool C.rg.2):=hy.cell 10
        refine bodyPost_ret (v:=.tuple #[.agg #[.bool (m==headB),str o,.slice none 0 0,.slice A7 C.mt.length c7,.slice A8 C.no.length c8,.bool C.am,.bool C.an,.int .i64 C.si,.int .i64 C.un,str C.rg.1,.bool C.rg.2],.int .i64 n,.int .i64 0]) (by simp [results,Tryz.results23,go_sem,yz0,yz1,yz2,yz3,yz4,yz5,yz6,yz7,yz8,yz9,yz10]) rfl ?_
        rw [HX.out,hwy]
        exact ⟨_,_,_,rfl,⟨Specs.nil _,putCs_sl HN7.out _ _ _ HM13.out,putCs_sl HN8.out _ _ _ HO13.out⟩,putCs_gr HGG.out _ _ _ (Gr.tr HG0.out HGF2.out),fresh_nil _,HFR7.out,HFR8.out⟩
      ·have HX:=hid (show Q=((m==headB,o,[],C),n,0) from by
        rw [HX0.out]
        have:rngV rs=[]:=by
         unfold rngV;split
         ·exact absurd rfl h1r
         ·rfl
        rw [this])
       have d5:((rs.length:Int)==1)=false:=by simp;omega
       clear HX0 h1r
       have HGF2:=hid (Gr.tr HG02.out (hG211))
       have hbz:=HBR.out _ HGF2.out
       have az0:w11.cell? ⟨gr,0,none⟩=some (.bool false):=hbz.cell 0
       have af0:=hbz.free 0 (.inr (Nat.zero_le _))
       have az1:w11.cell? ⟨gr,1,none⟩=some (str []):=hbz.cell 1
       have af1:=hbz.free 1 (.inr (Nat.zero_le _))
       have az2:w11.cell? ⟨gr,2,none⟩=some (.slice none 0 0):=hbz.cell 2
       have af2:=hbz.free 2 (.inr (Nat.zero_le _))
       have az3:w11.cell? ⟨gr,3,none⟩=some (.slice none 0 0):=hbz.cell 3
       have af3:=hbz.free 3 (.inr (Nat.zero_le _))
       have az4:w11.cell? ⟨gr,4,none⟩=some (.slice none 0 0):=hbz.cell 4
       have af4:=hbz.free 4 (.inr (Nat.zero_le _))
       have az5:w11.cell? ⟨gr,5,none⟩=some (.bool false):=hbz.cell 5
       have af5:=hbz.free 5 (.inr (Nat.zero_le _))
       have az6:w11.cell? ⟨gr,6,none⟩=some (.bool false):=hbz.cell 6
       have af6:=hbz.free 6 (.inr (Nat.zero_le _))
       have az7:w11.cell? ⟨gr,7,none⟩=some (.int .i64 0):=hbz.cell 7
       have af7:=hbz.free 7 (.inr (Nat.zero_le _))
       have az8:w11.cell? ⟨gr,8,none⟩=some (.int .i64 0):=hbz.cell 8
       have af8:=hbz.free 8 (.inr (Nat.zero_le _))
       have az9:w11.cell? ⟨gr,9,none⟩=some (str []):=hbz.cell 9
       have af9:=hbz.free 9 (.inr (Nat.zero_le _))
       have az10:w11.cell? ⟨gr,10,none⟩=some (.bool false):=hbz.cell 10
       have af10:=hbz.free 10 (.inr (Nat.zero_le _))
       have bz0:w11.cell? ⟨gq,0,none⟩=some (.bool (m==headB)):=hbq11.cell 0
       have bz1:w11.cell? ⟨gq,1,none⟩=some (str o):=hbq11.cell 1
       have bz2:w11.cell? ⟨gq,2,none⟩=some (.slice none 0 0):=hbq11.cell 2
       have bz3:w11.cell? ⟨gq,3,none⟩=some (.slice A7 C.mt.length c7):=hbq11.cell 3
       have bz4:w11.cell? ⟨gq,4,none⟩=some (.slice A8 C.no.length c8):=hbq11.cell 4
       have bz5:w11.cell? ⟨gq,5,none⟩=some (.bool C.am):=hbq11.cell 5
       have bz6:w11.cell? ⟨gq,6,none⟩=some (.bool C.an):=hbq11.cell 6
       have bz7:w11.cell? ⟨gq,7,none⟩=some (.int .i64 C.si):=hbq11.cell 7
       have bz8:w11.cell? ⟨gq,8,none⟩=some (.int .i64 C.un):=hbq11.cell 8
       have bz9:w11.cell? ⟨gq,9,none⟩=some (str C.rg.1):=hbq11.cell 9
       have bz10:w11.cell? ⟨gq,10,none⟩=some (.bool C.rg.2):=hbq11.cell 10
       go_wp2_with fail
       refine at_world (P:=bodyPost _ _ _ _ _) (w0:=putCs w11 gr [.bool (m==headB),str o,.slice none 0 0,.slice A7 C.mt.length c7,.slice A8 C.no.length c8,.bool C.am,.bool C.an,.int .i64 C.si,.int .i64 C.un,str C.rg.1,.bool C.rg.2] 0) ?_
       intro wy hwy
       have hy:Bk wy gr 29 #[.bool (m==headB),str o,.slice none 0 0,.slice A7 C.mt.length c7,.slice A8 C.no.length c8,.bool C.am,.bool C.an,.int .i64 C.si,.int .i64 C.un,str C.rg.1,.bool C.rg.2] (0,0):=by rw [hwy];exact putCs_bk hbz rfl
       have yz0:wy.cell? ⟨gr,0,none⟩=some (.bool (m==headB)):=hy.cell 0
       have yz1:wy.cell? ⟨gr,1,none⟩=some (str o):=hy.cell 1
       have yz2:wy.cell? ⟨gr,2,none⟩=some (.slice none 0 0):=hy.cell 2
       have yz3:wy.cell? ⟨gr,3,none⟩=some (.slice A7 C.mt.length c7):=hy.cell 3
       have yz4:wy.cell? ⟨gr,4,none⟩=some (.slice A8 C.no.length c8):=hy.cell 4
       have yz5:wy.cell? ⟨gr,5,none⟩=some (.bool C.am):=hy.cell 5
       have yz6:wy.cell? ⟨gr,6,none⟩=some (.bool C.an):=hy.cell 6
       have yz7:wy.cell? ⟨gr,7,none⟩=some (.int .i64 C.si):=hy.cell 7
       have yz8:wy.cell? ⟨gr,8,none⟩=some (.int .i64 C.un):=hy.cell 8
       have yz9:wy.cell? ⟨gr,9,none⟩=some (str C.rg.1):=hy.cell 9
       have yz10:wy.cell? ⟨gr,10,none⟩=some (.bool C.rg.2):=hy.cell 10
       refine bodyPost_ret (v:=.tuple #[.agg #[.bool (m==headB),str o,.slice none 0 0,.slice A7 C.mt.length c7,.slice A8 C.no.length c8,.bool C.am,.bool C.an,.int .i64 C.si,.int .i64 C.un,str C.rg.1,.bool C.rg.2],.int .i64 n,.int .i64 0]) (by simp [results,Tryz.results23,go_sem,yz0,yz1,yz2,yz3,yz4,yz5,yz6,yz7,yz8,yz9,yz10]) rfl ?_
       rw [HX.out,hwy]
       exact ⟨_,_,_,rfl,⟨Specs.nil _,putCs_sl HN7.out _ _ _ HM11.out,putCs_sl HN8.out _ _ _ HO11.out⟩,putCs_gr HGG.out _ _ _ (Gr.tr HG0.out HGF2.out),fresh_nil _,HFR7.out,HFR8.out⟩
     ·have d4:((ec:Int) != 0)=true:=by simp;omega
      have HX:=hid (show Q=(ReqT.zero,0,ec) from by rw [HQ2.out,if_pos hec])
      have HGX:=hid (Gr.tr HG02.out hG210)
      clear HQ2 hec HOF HMD HF2 HM10 HO10 hbq10
      have hbz:=HBR.out _ (Gr.tr HG02.out hG210)
      generalize hww:w10=wx at *
      clear hww
      have az0:wx.cell? ⟨gr,0,none⟩=some (.bool false):=hbz.cell 0
      have af0:=hbz.free 0 (.inr (Nat.zero_le _))
      have az1:wx.cell? ⟨gr,1,none⟩=some (str []):=hbz.cell 1
      have af1:=hbz.free 1 (.inr (Nat.zero_le _))
      have az2:wx.cell? ⟨gr,2,none⟩=some (.slice none 0 0):=hbz.cell 2
      have af2:=hbz.free 2 (.inr (Nat.zero_le _))
      have az3:wx.cell? ⟨gr,3,none⟩=some (.slice none 0 0):=hbz.cell 3
      have af3:=hbz.free 3 (.inr (Nat.zero_le _))
      have az4:wx.cell? ⟨gr,4,none⟩=some (.slice none 0 0):=hbz.cell 4
      have af4:=hbz.free 4 (.inr (Nat.zero_le _))
      have az5:wx.cell? ⟨gr,5,none⟩=some (.bool false):=hbz.cell 5
      have af5:=hbz.free 5 (.inr (Nat.zero_le _))
      have az6:wx.cell? ⟨gr,6,none⟩=some (.bool false):=hbz.cell 6
      have af6:=hbz.free 6 (.inr (Nat.zero_le _))
      have az7:wx.cell? ⟨gr,7,none⟩=some (.int .i64 0):=hbz.cell 7
      have af7:=hbz.free 7 (.inr (Nat.zero_le _))
      have az8:wx.cell? ⟨gr,8,none⟩=some (.int .i64 0):=hbz.cell 8
      have af8:=hbz.free 8 (.inr (Nat.zero_le _))
      have az9:wx.cell? ⟨gr,9,none⟩=some (str []):=hbz.cell 9
      have af9:=hbz.free 9 (.inr (Nat.zero_le _))
      have az10:wx.cell? ⟨gr,10,none⟩=some (.bool false):=hbz.cell 10
      have af10:=hbz.free 10 (.inr (Nat.zero_le _))
      go_wp2_with fail
      refine at_world (P:=bodyPost _ _ _ _ _) (w0:=putCs wx gr zq 0) ?_
      intro wy hwy
      have hy:Bk wy gr 29 #[.bool false,str [],.slice none 0 0,.slice none 0 0,.slice none 0 0,.bool false,.bool false,.int .i64 0,.int .i64 0,str [],.bool false] (0,0):=by rw [hwy];exact putCs_bk hbz rfl
      have yz0:wy.cell? ⟨gr,0,none⟩=some (.bool false):=hy.cell 0
      have yz1:wy.cell? ⟨gr,1,none⟩=some (str []):=hy.cell 1
      have yz2:wy.cell? ⟨gr,2,none⟩=some (.slice none 0 0):=hy.cell 2
      have yz3:wy.cell? ⟨gr,3,none⟩=some (.slice none 0 0):=hy.cell 3
      have yz4:wy.cell? ⟨gr,4,none⟩=some (.slice none 0 0):=hy.cell 4
      have yz5:wy.cell? ⟨gr,5,none⟩=some (.bool false):=hy.cell 5
      have yz6:wy.cell? ⟨gr,6,none⟩=some (.bool false):=hy.cell 6
      have yz7:wy.cell? ⟨gr,7,none⟩=some (.int .i64 0):=hy.cell 7
      have yz8:wy.cell? ⟨gr,8,none⟩=some (.int .i64 0):=hy.cell 8
      have yz9:wy.cell? ⟨gr,9,none⟩=some (str []):=hy.cell 9
      have yz10:wy.cell? ⟨gr,10,none⟩=some (.bool false):=hy.cell 10
      refine bodyPost_ret (v:=.tuple #[.agg #[.bool false,str [],.slice none 0 0,.slice none 0 0,.slice none 0 0,.bool false,.bool false,.int .i64 0,.int .i64 0,str [],.bool false],.int .i64 0,.int .i64 ec]) (by simp [results,Tryz.results23,go_sem,yz0,yz1,yz2,yz3,yz4,yz5,yz6,yz7,yz8,yz9,yz10]) rfl ?_
      rw [HX.out,hwy]
      exact ask_zero _ (Gr.tr HG0.out (HGX.out)) HGG.out
  ·obtain rfl:gb=true:=by
    have:=HGF.out;simp only at this;rw [this]
    simp only [Bool.not_eq_true',decide_eq_false_iff_not,List.length_eq_zero_iff]
    exact h1
   have HX:=hid (show Q=(ReqT.zero,0,2) from HQ.out.trans (askF_coded h1))
   clear HGF HQ
   go_upto_region 6 with (go_at_call 66;refine (HGE.out _ h22).mono ?_;rintro e3 w3 ⟨rfl,hG3⟩)
   have HGX:=hid (Gr.tr HG02.out hG3)
   clear HGE HOF h1
   have hbz:=HBR.out _ (HGX.out)
   generalize hww:w3=wx at *
   clear hww
   have az0:wx.cell? ⟨gr,0,none⟩=some (.bool false):=hbz.cell 0
   have af0:=hbz.free 0 (.inr (Nat.zero_le _))
   have az1:wx.cell? ⟨gr,1,none⟩=some (str []):=hbz.cell 1
   have af1:=hbz.free 1 (.inr (Nat.zero_le _))
   have az2:wx.cell? ⟨gr,2,none⟩=some (.slice none 0 0):=hbz.cell 2
   have af2:=hbz.free 2 (.inr (Nat.zero_le _))
   have az3:wx.cell? ⟨gr,3,none⟩=some (.slice none 0 0):=hbz.cell 3
   have af3:=hbz.free 3 (.inr (Nat.zero_le _))
   have az4:wx.cell? ⟨gr,4,none⟩=some (.slice none 0 0):=hbz.cell 4
   have af4:=hbz.free 4 (.inr (Nat.zero_le _))
   have az5:wx.cell? ⟨gr,5,none⟩=some (.bool false):=hbz.cell 5
   have af5:=hbz.free 5 (.inr (Nat.zero_le _))
   have az6:wx.cell? ⟨gr,6,none⟩=some (.bool false):=hbz.cell 6
   have af6:=hbz.free 6 (.inr (Nat.zero_le _))
   have az7:wx.cell? ⟨gr,7,none⟩=some (.int .i64 0):=hbz.cell 7
   have af7:=hbz.free 7 (.inr (Nat.zero_le _))
   have az8:wx.cell? ⟨gr,8,none⟩=some (.int .i64 0):=hbz.cell 8
   have af8:=hbz.free 8 (.inr (Nat.zero_le _))
   have az9:wx.cell? ⟨gr,9,none⟩=some (str []):=hbz.cell 9
   have af9:=hbz.free 9 (.inr (Nat.zero_le _))
   have az10:wx.cell? ⟨gr,10,none⟩=some (.bool false):=hbz.cell 10
   have af10:=hbz.free 10 (.inr (Nat.zero_le _))
   go_wp2_with fail
   refine at_world (P:=bodyPost _ _ _ _ _) (w0:=putCs wx gr zq 0) ?_
   intro wy hwy
   have hy:Bk wy gr 29 #[.bool false,str [],.slice none 0 0,.slice none 0 0,.slice none 0 0,.bool false,.bool false,.int .i64 0,.int .i64 0,str [],.bool false] (0,0):=by rw [hwy];exact putCs_bk hbz rfl
   have yz0:wy.cell? ⟨gr,0,none⟩=some (.bool false):=hy.cell 0
   have yz1:wy.cell? ⟨gr,1,none⟩=some (str []):=hy.cell 1
   have yz2:wy.cell? ⟨gr,2,none⟩=some (.slice none 0 0):=hy.cell 2
   have yz3:wy.cell? ⟨gr,3,none⟩=some (.slice none 0 0):=hy.cell 3
   have yz4:wy.cell? ⟨gr,4,none⟩=some (.slice none 0 0):=hy.cell 4
   have yz5:wy.cell? ⟨gr,5,none⟩=some (.bool false):=hy.cell 5
   have yz6:wy.cell? ⟨gr,6,none⟩=some (.bool false):=hy.cell 6
   have yz7:wy.cell? ⟨gr,7,none⟩=some (.int .i64 0):=hy.cell 7
   have yz8:wy.cell? ⟨gr,8,none⟩=some (.int .i64 0):=hy.cell 8
   have yz9:wy.cell? ⟨gr,9,none⟩=some (str []):=hy.cell 9
   have yz10:wy.cell? ⟨gr,10,none⟩=some (.bool false):=hy.cell 10
   refine bodyPost_ret (v:=.tuple #[.agg #[.bool false,str [],.slice none 0 0,.slice none 0 0,.slice none 0 0,.bool false,.bool false,.int .i64 0,.int .i64 0,str [],.bool false],.int .i64 0,.int .i64 2]) (by simp [results,Tryz.results23,go_sem,yz0,yz1,yz2,yz3,yz4,yz5,yz6,yz7,yz8,yz9,yz10]) rfl ?_
   rw [HX.out,hwy]
   exact ask_zero _ (Gr.tr HG0.out (HGX.out)) HGG.out
 ·have d0:((e:Int) != 0)=true:=by simp;omega
  have HX:=hid (show Q=(ReqT.zero,0,e) from by rw [HQ.out,if_neg he])
  have HGX:=hid hG02
  clear HQ H29 he
  have hbz:=HBR.out _ (hG02)
  generalize hww:w2=wx at *
  clear hww
  have az0:wx.cell? ⟨gr,0,none⟩=some (.bool false):=hbz.cell 0
  have af0:=hbz.free 0 (.inr (Nat.zero_le _))
  have az1:wx.cell? ⟨gr,1,none⟩=some (str []):=hbz.cell 1
  have af1:=hbz.free 1 (.inr (Nat.zero_le _))
  have az2:wx.cell? ⟨gr,2,none⟩=some (.slice none 0 0):=hbz.cell 2
  have af2:=hbz.free 2 (.inr (Nat.zero_le _))
  have az3:wx.cell? ⟨gr,3,none⟩=some (.slice none 0 0):=hbz.cell 3
  have af3:=hbz.free 3 (.inr (Nat.zero_le _))
  have az4:wx.cell? ⟨gr,4,none⟩=some (.slice none 0 0):=hbz.cell 4
  have af4:=hbz.free 4 (.inr (Nat.zero_le _))
  have az5:wx.cell? ⟨gr,5,none⟩=some (.bool false):=hbz.cell 5
  have af5:=hbz.free 5 (.inr (Nat.zero_le _))
  have az6:wx.cell? ⟨gr,6,none⟩=some (.bool false):=hbz.cell 6
  have af6:=hbz.free 6 (.inr (Nat.zero_le _))
  have az7:wx.cell? ⟨gr,7,none⟩=some (.int .i64 0):=hbz.cell 7
  have af7:=hbz.free 7 (.inr (Nat.zero_le _))
  have az8:wx.cell? ⟨gr,8,none⟩=some (.int .i64 0):=hbz.cell 8
  have af8:=hbz.free 8 (.inr (Nat.zero_le _))
  have az9:wx.cell? ⟨gr,9,none⟩=some (str []):=hbz.cell 9
  have af9:=hbz.free 9 (.inr (Nat.zero_le _))
  have az10:wx.cell? ⟨gr,10,none⟩=some (.bool false):=hbz.cell 10
  have af10:=hbz.free 10 (.inr (Nat.zero_le _))
  go_wp2_with fail
  refine at_world (P:=bodyPost _ _ _ _ _) (w0:=putCs wx gr zq 0) ?_
  intro wy hwy
  have hy:Bk wy gr 29 #[.bool false,str [],.slice none 0 0,.slice none 0 0,.slice none 0 0,.bool false,.bool false,.int .i64 0,.int .i64 0,str [],.bool false] (0,0):=by rw [hwy];exact putCs_bk hbz rfl
  have yz0:wy.cell? ⟨gr,0,none⟩=some (.bool false):=hy.cell 0
  have yz1:wy.cell? ⟨gr,1,none⟩=some (str []):=hy.cell 1
  have yz2:wy.cell? ⟨gr,2,none⟩=some (.slice none 0 0):=hy.cell 2
  have yz3:wy.cell? ⟨gr,3,none⟩=some (.slice none 0 0):=hy.cell 3
  have yz4:wy.cell? ⟨gr,4,none⟩=some (.slice none 0 0):=hy.cell 4
  have yz5:wy.cell? ⟨gr,5,none⟩=some (.bool false):=hy.cell 5
  have yz6:wy.cell? ⟨gr,6,none⟩=some (.bool false):=hy.cell 6
  have yz7:wy.cell? ⟨gr,7,none⟩=some (.int .i64 0):=hy.cell 7
  have yz8:wy.cell? ⟨gr,8,none⟩=some (.int .i64 0):=hy.cell 8
  have yz9:wy.cell? ⟨gr,9,none⟩=some (str []):=hy.cell 9
  have yz10:wy.cell? ⟨gr,10,none⟩=some (.bool false):=hy.cell 10
  refine bodyPost_ret (v:=.tuple #[.agg #[.bool false,str [],.slice none 0 0,.slice none 0 0,.slice none 0 0,.bool false,.bool false,.int .i64 0,.int .i64 0,str [],.bool false],.int .i64 0,.int .i64 e]) (by simp [results,Tryz.results23,go_sem,yz0,yz1,yz2,yz3,yz4,yz5,yz6,yz7,yz8,yz9,yz10]) rfl ?_
  rw [HX.out,hwy]
  exact ask_zero _ (Gr.tr HG0.out (HGX.out)) HGG.out
end Go.Proofs.YtflepnkpihfidaaGreatDoor
