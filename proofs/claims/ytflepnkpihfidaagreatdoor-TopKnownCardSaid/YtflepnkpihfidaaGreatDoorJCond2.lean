/- Parts. No conditions but those that each theorem names. -/
import Derived.Test.YtflepnkpihfidaaGreatDoorJCond
import Derived.Test.YtflepnkpihfidaaGreatDoorJWords
import Derived.Test.YtflepnkpihfidaaGreatDoorJHead1
set_option linter.unusedVariables false
set_option linter.unusedSimpArgs false
namespace Go.Proofs.YtflepnkpihfidaaGreatDoor
open Lib (hid)
open Go.RowKit
def CondEnd (r:CondT×Nat) (w:World) (e:Ending) (w':World):Prop:=
 ∃A1 c1 A2 c2,e=.returned (.tuple #[condV r.1 (.slice A1 r.1.mt.length c1) (.slice A2 r.1.no.length c2),.int .i64 (r.2:Nat)])∧Tags w' (.slice A1 r.1.mt.length c1) r.1.mt∧Tags w' (.slice A2 r.1.no.length c2) r.1.no∧Gr w w'∧Fresh w (.slice A1 r.1.mt.length c1)∧Fresh w (.slice A2 r.1.no.length c2)
theorem condEnd_zero (w w':World) (n:Nat) (h:Gr w w'):CondEnd (CondT.zero,n) w (.returned (.tuple #[.agg #[.slice none 0 0,.slice none 0 0,.bool false,.bool false,.int .i64 0,.int .i64 0,str [],.bool false],.int .i64 (n:Int)])) w':=
 ⟨none,0,none,0,rfl,Tags.nil _,Tags.nil _,h,fresh_nil _,fresh_nil _⟩
theorem Tags.lt {w:World} {v:Value} {l:List TagT} (h:Tags w v l) (hl:l≠[]):∀b,v.ownBlock=some b→b < w.heap.size:=by
 obtain ⟨A,c,rfl,hc,hm,hh⟩:=h
 rcases hh with hh | ⟨b,o,hA,hb,_⟩
 ·exfalso
  cases l with
  | nil=>exact hl rfl
  | cons t r=>simp [tagCs] at hh
 ·subst hA
  intro k hk
  have:b=k:=by simpa [Value.ownBlock] using hk
  rw [←this];exact hb
theorem Tags.kr {S:List Nat} {N:Nat} {A B:World} {v:Value} {l:List TagT} (h:Tags A v l) (k:Kr S N A B) (hb:l≠[]→∀b,v.ownBlock=some b→b < N∧b∉S):Tags B v l:=by
 obtain ⟨Ad,c,rfl,hc,hm,hh⟩:=h
 refine ⟨Ad,c,rfl,hc,hm,?_⟩
 rcases hh with hh | ⟨b,o,hA,hlt,hj⟩
 ·exact .inl hh
 ·by_cases hl:l=[]
  ·left;rw [hl];rfl
  ·subst hA
   obtain ⟨h1,h2⟩:=hb hl b rfl
   refine .inr ⟨b,o,rfl,Nat.lt_of_lt_of_le hlt k.size,fun j u hu=>?_⟩
   rw [World.cell?_of_block (k.block b h1 h2)];exact hj j u hu
theorem condP_form {l:List Fld} (h:¬(tagsV (ofN l nMatch)).2.2=2) (h2:¬(tagsV (ofN l nNone)).2.2=2) (h3:¬(tagsV (ofN l nMatch)).2.2≠0) (h4:¬(tagsV (ofN l nNone)).2.2≠0) :
  condP l=(⟨(tagsV (ofN l nMatch)).1,(tagsV (ofN l nNone)).1,(tagsV (ofN l nMatch)).2.1,(tagsV (ofN l nNone)).2.1,tickV (ofN l nMod),tickV (ofN l nUnmod),rangV (ofN l nIfR)⟩,0):=by
 unfold condP;rw [if_neg (by rintro (h' | h');exact h h';exact h2 h'),if_neg (by rintro (h' | h');exact h3 h';exact h4 h')]
theorem condP_two {l:List Fld} (h:(tagsV (ofN l nMatch)).2.2=2∨(tagsV (ofN l nNone)).2.2=2):condP l=(CondT.zero,2):=by unfold condP;rw [if_pos h]
theorem condP_four {l:List Fld} (h1:¬(tagsV (ofN l nMatch)).2.2=2) (h2:¬(tagsV (ofN l nNone)).2.2=2) (h:(tagsV (ofN l nMatch)).2.2≠0∨(tagsV (ofN l nNone)).2.2≠0):condP l=(CondT.zero,4):=by
 unfold condP;rw [if_neg (by rintro (h' | h');exact h1 h';exact h2 h'),if_pos h]
theorem rangV_cons (v:List UInt8) (vs:List (List UInt8)):rangV (v::vs)=match tagP v with | none=>([],true) | some t=>t:=rfl
set_option maxHeartbeats 8000000 in
set_option maxRecDepth 100000 in
theorem condParse_any (u:Value) (xs:List Fld) (w:World) (hu:Flds w u xs) (hx:Mid xs):Calls Tryz.prog 68 #[u] w (CondEnd (condP xs) w):=by
 obtain ⟨Au,cu,rfl,_,_,_⟩:=id hu
 have HU:=hid (fun (x:World) (g:Gr w x)=>hu.gr g)
 have HX:=hid hx
 have HM:=hid (fun (x:World) (g:Gr w x)=>condTags_any _ xs nMatch x (HU.out x g) hx (by decide))
 have HNO:=hid (fun (x:World) (g:Gr w x)=>condTags_any _ xs nNone x (HU.out x g) hx (by decide))
 have HTU:=hid (fun (x:World) (g:Gr w x)=>condTick_any _ xs nUnmod x (HU.out x g) hx (by decide))
 have HTM:=hid (fun (x:World) (g:Gr w x)=>condTick_any _ xs nMod x (HU.out x g) hx (by decide))
 have HIR:=hid (fun (x:World) (g:Gr w x)=>get_any _ xs nIfR x (HU.out x g) hx.short (by decide))
 have HIB:=hid (hx.ofB nIfR)
 have P2:=hid (condP_two (l:=xs))
 have P4:=hid (condP_four (l:=xs))
 have P0:=hid (condP_form (l:=xs))
 have hb2:=Bk.new w 27 #[.slice none 0 0,.slice none 0 0,.bool false,.bool false,.int .i64 0,.int .i64 0,str [],.bool false] (0,0)
 have hG0:=Gr.al (Gr.refl w) (.cells #[.slice none 0 0,.slice none 0 0,.bool false,.bool false,.int .i64 0,.int .i64 0,str [],.bool false] 27)
 clear hu hx HU
 go_enter Tryz.func68,Tryz.ntmps68
 go_upto_region 1 with fail
 obtain ⟨g2,hgg⟩:∃g,g=w.heap.size:=⟨_,rfl⟩
 rw [←hgg] at hb2 ⊢
 have HGG:=hid (show w.heap.size≤g2 from Nat.le_of_eq hgg.symm)
 clear hgg
 generalize w.alloc (.cells #[.slice none 0 0,.slice none 0 0,.bool false,.bool false,.int .i64 0,.int .i64 0,str [],.bool false] 27)=w0 at *
 have HB2:=hid (fun (x:World) (g:Gr w0 x)=>hb2.gr g)
 have hg20:=hb2.lt
 clear hb2
 generalize tickV (ofN xs nUnmod)=TU at *
 generalize tickV (ofN xs nMod)=TM at *
 unfold getN at HIR
 go_upto_region 2 with (go_at_call 134;refine (HM.out _ hG0).mono ?_;rintro e w1 ⟨v1,rfl,hT1,hG1,hF1⟩;obtain ⟨A1,c1,rfl,_⟩:=hT1.open;have HT1:=hid hT1;have HF1:=hid (fresh_ne hF1 hg20);have HFw1:=hid (Fresh.tr hG0 hF1);clear hT1 hF1)
 have hGw1:=Gr.tr hG0 hG1
 generalize htm:tagsV (ofN xs nMatch)=R1 at *
 clear htm HM
 obtain ⟨L1,any1,e1⟩:=R1
 simp only at HT1 HFw1 HF1 P2 P4 P0 ⊢
 by_cases h2:e1=2
 ·have HC:=hid (P2.out (.inl h2))
  subst h2
  have hbz:=HB2.out _ hG1
  generalize hww:w1=wx at *
  clear hww HT1 P2 P4 P0
  have z0:wx.cell? ⟨g2,0,none⟩=some (.slice none 0 0):=hbz.cell 0
  have zf0:=hbz.free 0 (.inr (Nat.zero_le _))
  have z1:wx.cell? ⟨g2,1,none⟩=some (.slice none 0 0):=hbz.cell 1
  have zf1:=hbz.free 1 (.inr (Nat.zero_le _))
  have z2:wx.cell? ⟨g2,2,none⟩=some (.bool false):=hbz.cell 2
  have zf2:=hbz.free 2 (.inr (Nat.zero_le _))
  have z3:wx.cell? ⟨g2,3,none⟩=some (.bool false):=hbz.cell 3
  have zf3:=hbz.free 3 (.inr (Nat.zero_le _))
  have z4:wx.cell? ⟨g2,4,none⟩=some (.int .i64 0):=hbz.cell 4
  have zf4:=hbz.free 4 (.inr (Nat.zero_le _))
  have z5:wx.cell? ⟨g2,5,none⟩=some (.int .i64 0):=hbz.cell 5
  have zf5:=hbz.free 5 (.inr (Nat.zero_le _))
  have z6:wx.cell? ⟨g2,6,none⟩=some (str []):=hbz.cell 6
  have zf6:=hbz.free 6 (.inr (Nat.zero_le _))
  have z7:wx.cell? ⟨g2,7,none⟩=some (.bool false):=hbz.cell 7
  have zf7:=hbz.free 7 (.inr (Nat.zero_le _))
  go_wp2_with fail
  refine bodyPost_ret (v:=.tuple #[.agg #[.slice none 0 0,.slice none 0 0,.bool false,.bool false,.int .i64 0,.int .i64 0,str [],.bool false],.int .i64 2]) (by simp [results,Tryz.results68,go_sem,z0,z1,z2,z3,z4,z5,z6,z7]) rfl ?_
  rw [HC.out]
  refine condEnd_zero _ _ _ ?_
  have hgg:=HGG.out
  exact Gr.st (Gr.st (Gr.st (Gr.st (Gr.st (Gr.st (Gr.st (Gr.st hGw1 hgg _) hgg _) hgg _) hgg _) hgg _) hgg _) hgg _) hgg _
 ·have d1:((e1:Int)==2)=false:=by rw [beq_eq_false_iff_ne];omega
  go_upto_region 5 with (go_at_call 134;refine (HNO.out _ hGw1).mono ?_;rintro e w2 ⟨v2,rfl,hT2,hG2,hF2⟩;obtain ⟨A2,c2,rfl,_⟩:=hT2.open;have HT2:=hid hT2;have HF2:=hid (fresh_ne hF2 (Nat.lt_of_lt_of_le hg20 hG1.size));have HFw2:=hid (Fresh.tr hGw1 hF2);clear hT2 hF2)
  have hG02:=Gr.tr hG1 hG2
  have hGw2:=Gr.tr hGw1 hG2
  have HT1:=hid (HT1.out.gr hG2)
  generalize htn:tagsV (ofN xs nNone)=R2 at *
  clear htn HNO d1 hG1 hG2 hGw1
  obtain ⟨L2,any2,e2⟩:=R2
  simp only at HT2 HFw2 HF2 P2 P4 P0 ⊢
  by_cases h3:e2=2
  ·have HC:=hid (P2.out (.inr h3))
   subst h3
   have hbz:=HB2.out _ hG02
   generalize hww:w2=wx at *
   clear hww HT1 HT2 P2 P4 P0 h2
   have z0:wx.cell? ⟨g2,0,none⟩=some (.slice none 0 0):=hbz.cell 0
   have zf0:=hbz.free 0 (.inr (Nat.zero_le _))
   have z1:wx.cell? ⟨g2,1,none⟩=some (.slice none 0 0):=hbz.cell 1
   have zf1:=hbz.free 1 (.inr (Nat.zero_le _))
   have z2:wx.cell? ⟨g2,2,none⟩=some (.bool false):=hbz.cell 2
   have zf2:=hbz.free 2 (.inr (Nat.zero_le _))
   have z3:wx.cell? ⟨g2,3,none⟩=some (.bool false):=hbz.cell 3
   have zf3:=hbz.free 3 (.inr (Nat.zero_le _))
   have z4:wx.cell? ⟨g2,4,none⟩=some (.int .i64 0):=hbz.cell 4
   have zf4:=hbz.free 4 (.inr (Nat.zero_le _))
   have z5:wx.cell? ⟨g2,5,none⟩=some (.int .i64 0):=hbz.cell 5
   have zf5:=hbz.free 5 (.inr (Nat.zero_le _))
   have z6:wx.cell? ⟨g2,6,none⟩=some (str []):=hbz.cell 6
   have zf6:=hbz.free 6 (.inr (Nat.zero_le _))
   have z7:wx.cell? ⟨g2,7,none⟩=some (.bool false):=hbz.cell 7
   have zf7:=hbz.free 7 (.inr (Nat.zero_le _))
   go_wp2_with fail
   refine bodyPost_ret (v:=.tuple #[.agg #[.slice none 0 0,.slice none 0 0,.bool false,.bool false,.int .i64 0,.int .i64 0,str [],.bool false],.int .i64 2]) (by simp [results,Tryz.results68,go_sem,z0,z1,z2,z3,z4,z5,z6,z7]) rfl ?_
   rw [HC.out]
   refine condEnd_zero _ _ _ ?_
   have hgg:=HGG.out
   exact Gr.st (Gr.st (Gr.st (Gr.st (Gr.st (Gr.st (Gr.st (Gr.st hGw2 hgg _) hgg _) hgg _) hgg _) hgg _) hgg _) hgg _) hgg _
  ·have d2:((e2:Int)==2)=false:=by rw [beq_eq_false_iff_ne];omega
   by_cases h4:e1≠0∨e2≠0
   ·have HC:=hid (P4.out h2 h3 h4)
    have hbz:=HB2.out _ hG02
    generalize hww:w2=wx at *
    clear hww HT1 HT2 P2 P4 P0 h2 h3
    by_cases h5:e1=0
    ·subst h5
     have d3:((e2:Int) != 0)=true:=by rw [bne_iff_ne];omega
     clear h4
     have z0:wx.cell? ⟨g2,0,none⟩=some (.slice none 0 0):=hbz.cell 0
     have zf0:=hbz.free 0 (.inr (Nat.zero_le _))
     have z1:wx.cell? ⟨g2,1,none⟩=some (.slice none 0 0):=hbz.cell 1
     have zf1:=hbz.free 1 (.inr (Nat.zero_le _))
     have z2:wx.cell? ⟨g2,2,none⟩=some (.bool false):=hbz.cell 2
     have zf2:=hbz.free 2 (.inr (Nat.zero_le _))
     have z3:wx.cell? ⟨g2,3,none⟩=some (.bool false):=hbz.cell 3
     have zf3:=hbz.free 3 (.inr (Nat.zero_le _))
     have z4:wx.cell? ⟨g2,4,none⟩=some (.int .i64 0):=hbz.cell 4
     have zf4:=hbz.free 4 (.inr (Nat.zero_le _))
     have z5:wx.cell? ⟨g2,5,none⟩=some (.int .i64 0):=hbz.cell 5
     have zf5:=hbz.free 5 (.inr (Nat.zero_le _))
     have z6:wx.cell? ⟨g2,6,none⟩=some (str []):=hbz.cell 6
     have zf6:=hbz.free 6 (.inr (Nat.zero_le _))
     have z7:wx.cell? ⟨g2,7,none⟩=some (.bool false):=hbz.cell 7
     have zf7:=hbz.free 7 (.inr (Nat.zero_le _))
     go_wp2_with fail
     refine bodyPost_ret (v:=.tuple #[.agg #[.slice none 0 0,.slice none 0 0,.bool false,.bool false,.int .i64 0,.int .i64 0,str [],.bool false],.int .i64 4]) (by simp [results,Tryz.results68,go_sem,z0,z1,z2,z3,z4,z5,z6,z7]) rfl ?_
     rw [HC.out]
     refine condEnd_zero _ _ _ ?_
     have hgg:=HGG.out
     exact Gr.st (Gr.st (Gr.st (Gr.st (Gr.st (Gr.st (Gr.st (Gr.st hGw2 hgg _) hgg _) hgg _) hgg _) hgg _) hgg _) hgg _) hgg _
    ·have d3:((e1:Int) != 0)=true:=by rw [bne_iff_ne];omega
     clear h4 h5
     have z0:wx.cell? ⟨g2,0,none⟩=some (.slice none 0 0):=hbz.cell 0
     have zf0:=hbz.free 0 (.inr (Nat.zero_le _))
     have z1:wx.cell? ⟨g2,1,none⟩=some (.slice none 0 0):=hbz.cell 1
     have zf1:=hbz.free 1 (.inr (Nat.zero_le _))
     have z2:wx.cell? ⟨g2,2,none⟩=some (.bool false):=hbz.cell 2
     have zf2:=hbz.free 2 (.inr (Nat.zero_le _))
     have z3:wx.cell? ⟨g2,3,none⟩=some (.bool false):=hbz.cell 3
     have zf3:=hbz.free 3 (.inr (Nat.zero_le _))
     have z4:wx.cell? ⟨g2,4,none⟩=some (.int .i64 0):=hbz.cell 4
     have zf4:=hbz.free 4 (.inr (Nat.zero_le _))
     have z5:wx.cell? ⟨g2,5,none⟩=some (.int .i64 0):=hbz.cell 5
     have zf5:=hbz.free 5 (.inr (Nat.zero_le _))
     have z6:wx.cell? ⟨g2,6,none⟩=some (str []):=hbz.cell 6
     have zf6:=hbz.free 6 (.inr (Nat.zero_le _))
     have z7:wx.cell? ⟨g2,7,none⟩=some (.bool false):=hbz.cell 7
     have zf7:=hbz.free 7 (.inr (Nat.zero_le _))
     go_wp2_with fail
     refine bodyPost_ret (v:=.tuple #[.agg #[.slice none 0 0,.slice none 0 0,.bool false,.bool false,.int .i64 0,.int .i64 0,str [],.bool false],.int .i64 4]) (by simp [results,Tryz.results68,go_sem,z0,z1,z2,z3,z4,z5,z6,z7]) rfl ?_
     rw [HC.out]
     refine condEnd_zero _ _ _ ?_
     have hgg:=HGG.out
     exact Gr.st (Gr.st (Gr.st (Gr.st (Gr.st (Gr.st (Gr.st (Gr.st hGw2 hgg _) hgg _) hgg _) hgg _) hgg _) hgg _) hgg _) hgg _
   ·have HC0:=hid (P0.out h2 h3 (fun h=>h4 (.inl h)) (fun h=>h4 (.inr h)))
    obtain ⟨rfl,rfl⟩:e1=0∧e2=0:=by omega
    clear h2 h3 h4 P2 P4 P0 d2
    go_upto_region 10 with fail
    have hb10:=Bk.new w2 27 #[.slice A1 L1.length c1,.slice A2 L2.length c2,.bool any1,.bool any2,.int .i64 0,.int .i64 0,str [],.bool false] (0,0)
    have HK:=hid (Kr.al (Kr.refl (Nat.le_refl _):Kr [] w2.heap.size w2 w2) (.cells #[.slice A1 L1.length c1,.slice A2 L2.length c2,.bool any1,.bool any2,.int .i64 0,.int .i64 0,str [],.bool false] 27))
    have HN10:=hid (Nat.le_refl w2.heap.size)
    have hg2w:=(HB2.out _ hG02).lt
    have hgx:∀x,Kr [g2] w2.heap.size w2 x→Gr w x:=fun x k=>k.old hGw2 (by simpa using HGG.out) hGw2.size
    have HGX:=hid hgx
    clear hgx
    generalize w2.alloc (.cells #[.slice A1 L1.length c1,.slice A2 L2.length c2,.bool any1,.bool any2,.int .i64 0,.int .i64 0,str [],.bool false] 27)=wc at *
    generalize hg10:w2.heap.size=g10 at HN10 hb10 ⊢
    have HN10:Hid (w2.heap.size≤g10):=hid (Nat.le_of_eq hg10)
    clear hg10
    go_upto_region 11 with (go_at_call 135;refine (HTU.out _ (HGX.out _ (HK.out.more (by simp)))).mono ?_;rintro e wn ⟨rfl,hGn⟩;have hbn:=hb10.gr hGn;have y5:wn.cell? ⟨g10,5,none⟩=some (.int .i64 0):=hbn.cell 5;have yf5:=hbn.free 5 (.inr (Nat.zero_le _)))
    have HK:=hid ((HK.out.gr hGn).set (g:=g10) (.inr HN10.out) 5 (.int .i64 TU))
    have hb10:Bk (wn.setCell ⟨g10,5,none⟩ (.int .i64 TU)) g10 27 #[.slice A1 L1.length c1,.slice A2 L2.length c2,.bool any1,.bool any2,.int .i64 0,.int .i64 TU,str [],.bool false] (0,0):=(hb10.gr hGn).set 5 (.int .i64 TU)
    clear hGn hbn y5 yf5
    generalize wn.setCell ⟨g10,5,none⟩ (.int .i64 TU)=wc at *
    go_upto_region 12 with (go_at_call 135;refine (HTM.out _ (HGX.out _ (HK.out.more (by simp)))).mono ?_;rintro e wn ⟨rfl,hGn⟩;have hbn:=hb10.gr hGn;have y4:wn.cell? ⟨g10,4,none⟩=some (.int .i64 0):=hbn.cell 4;have yf4:=hbn.free 4 (.inr (Nat.zero_le _)))
    have HK:=hid ((HK.out.gr hGn).set (g:=g10) (.inr HN10.out) 4 (.int .i64 TM))
    have hb10:Bk (wn.setCell ⟨g10,4,none⟩ (.int .i64 TM)) g10 27 #[.slice A1 L1.length c1,.slice A2 L2.length c2,.bool any1,.bool any2,.int .i64 TM,.int .i64 TU,str [],.bool false] (0,0):=(hb10.gr hGn).set 4 (.int .i64 TM)
    clear hGn hbn y4 yf4
    generalize wn.setCell ⟨g10,4,none⟩ (.int .i64 TM)=wc at *
    generalize hvs:ofN xs nIfR=vs at *
    clear hvs
    cases vs with
    | nil=>
      simp only at HIR
      have HC:=hid (show condP xs=(⟨L1,L2,any1,any2,TM,TU,([],false)⟩,0) from HC0.out)
      go_upto_region 17 with (go_at_call 66;refine (HIR.out _ (HGX.out _ (HK.out.more (by simp)))).mono ?_;rintro e wn ⟨rfl,hGn⟩)
      have HK:=hid (HK.out.gr hGn)
      have hb10:=hb10.gr hGn
      clear hGn
      generalize hww:wn=wc at *
      clear hww
      have y0:wc.cell? ⟨g10,0,none⟩=some (.slice A1 L1.length c1):=hb10.cell 0
      have y1:wc.cell? ⟨g10,1,none⟩=some (.slice A2 L2.length c2):=hb10.cell 1
      have y2:wc.cell? ⟨g10,2,none⟩=some (.bool any1):=hb10.cell 2
      have y3:wc.cell? ⟨g10,3,none⟩=some (.bool any2):=hb10.cell 3
      have y4:wc.cell? ⟨g10,4,none⟩=some (.int .i64 TM):=hb10.cell 4
      have y5:wc.cell? ⟨g10,5,none⟩=some (.int .i64 TU):=hb10.cell 5
      have y6:wc.cell? ⟨g10,6,none⟩=some (str []):=hb10.cell 6
      have y7:wc.cell? ⟨g10,7,none⟩=some (.bool false):=hb10.cell 7
      have hbz:=HK.out.bk (HB2.out _ hG02) hg2w (by simp)
      have z0:wc.cell? ⟨g2,0,none⟩=some (.slice none 0 0):=hbz.cell 0
      have zf0:=hbz.free 0 (.inr (Nat.zero_le _))
      have z1:wc.cell? ⟨g2,1,none⟩=some (.slice none 0 0):=hbz.cell 1
      have zf1:=hbz.free 1 (.inr (Nat.zero_le _))
      have z2:wc.cell? ⟨g2,2,none⟩=some (.bool false):=hbz.cell 2
      have zf2:=hbz.free 2 (.inr (Nat.zero_le _))
      have z3:wc.cell? ⟨g2,3,none⟩=some (.bool false):=hbz.cell 3
      have zf3:=hbz.free 3 (.inr (Nat.zero_le _))
      have z4:wc.cell? ⟨g2,4,none⟩=some (.int .i64 0):=hbz.cell 4
      have zf4:=hbz.free 4 (.inr (Nat.zero_le _))
      have z5:wc.cell? ⟨g2,5,none⟩=some (.int .i64 0):=hbz.cell 5
      have zf5:=hbz.free 5 (.inr (Nat.zero_le _))
      have z6:wc.cell? ⟨g2,6,none⟩=some (str []):=hbz.cell 6
      have zf6:=hbz.free 6 (.inr (Nat.zero_le _))
      have z7:wc.cell? ⟨g2,7,none⟩=some (.bool false):=hbz.cell 7
      have zf7:=hbz.free 7 (.inr (Nat.zero_le _))
      have hk8:=(((((((((HK.out.more (by simp):Kr [g2] w2.heap.size w2 wc).set (g:=g2) (.inl (by simp)) 0 (.slice A1 L1.length c1)).set (g:=g2) (.inl (by simp)) 1 (.slice A2 L2.length c2)).set (g:=g2) (.inl (by simp)) 2 (.bool any1)).set (g:=g2) (.inl (by simp)) 3 (.bool any2)).set (g:=g2) (.inl (by simp)) 4 (.int .i64 TM)).set (g:=g2) (.inl (by simp)) 5 (.int .i64 TU)).set (g:=g2) (.inl (by simp)) 6 (str [])).set (g:=g2) (.inl (by simp)) 7 (.bool false))
      have HK8:=hid hk8
      clear hk8 hb10 hbz
      go_wp2_with fail
      refine bodyPost_ret (v:=.tuple #[.agg #[.slice A1 L1.length c1,.slice A2 L2.length c2,.bool any1,.bool any2,.int .i64 TM,.int .i64 TU,str [],.bool false],.int .i64 0]) (by simp [results,Tryz.results68,go_sem,z0,z1,z2,z3,z4,z5,z6,z7]) rfl ?_
      rw [HC.out]
      exact ⟨A1,c1,A2,c2,rfl,HT1.out.kr HK8.out (fun hl b hb=>⟨HT1.out.lt hl b hb,by rintro h;rw [List.mem_singleton] at h;subst h;exact HF1.out hb⟩),HT2.out.kr HK8.out (fun hl b hb=>⟨HT2.out.lt hl b hb,by rintro h;rw [List.mem_singleton] at h;subst h;exact HF2.out hb⟩),HGX.out _ HK8.out,HFw1.out,HFw2.out⟩
    | cons v vs=>
      have hvl:=HIB.out v (List.mem_cons_self ..)
      simp only at HIR
      have HTP:=hid (fun (x:World)=>tagParse_any v x (by omega))
      cases ht:tagP v with
      | none=>
        rw [ht,show tagV none=.tuple #[.agg #[str [],.bool false],.int .i64 2] from rfl] at HTP
        have HC:=hid (show condP xs=(⟨L1,L2,any1,any2,TM,TU,([],true)⟩,0) from by rw [HC0.out,rangV_cons,ht])
        clear ht
        go_upto_region 15 with (first
         | (go_at_call 66;refine (HIR.out _ (HGX.out _ (HK.out.more (by simp)))).mono ?_;rintro e wm ⟨rfl,hGm⟩;have HKm:=hid (HK.out.gr hGm);have hbm:=hb10.gr hGm)
         | (go_at_call 77;refine (HTP.out _).mono ?_;rintro e wn ⟨rfl,hGn⟩;have hbn:=hbm.gr hGn;have y6:wn.cell? ⟨g10,6,none⟩=some (str []):=hbn.cell 6;have yf6:=hbn.free 6 (.inr (Nat.zero_le _));have y7:wn.cell? ⟨g10,7,none⟩=some (.bool false):=hbn.cell 7;have yf7:=hbn.free 7 (.inr (Nat.zero_le _))))
        have HK:=hid (((HKm.out.gr hGn).set (g:=g10) (.inr HN10.out) 6 (str [])).set (g:=g10) (.inr HN10.out) 7 (.bool false))
        have hb10:Bk ((wn.setCell ⟨g10,6,none⟩ (str [])).setCell ⟨g10,7,none⟩ (.bool false)) g10 27 #[.slice A1 L1.length c1,.slice A2 L2.length c2,.bool any1,.bool any2,.int .i64 TM,.int .i64 TU,str [],.bool false] (0,0):=(hbn.set 6 (str [])).set 7 (.bool false)
        clear hGn hGm hbn hbm y6 yf6 y7 yf7 HKm
        generalize (wn.setCell ⟨g10,6,none⟩ (str [])).setCell ⟨g10,7,none⟩ (.bool false)=wc at *
        have y6:wc.cell? ⟨g10,6,none⟩=some (str []):=hb10.cell 6
        have yf6:=hb10.free 6 (.inr (Nat.zero_le _))
        have y7:wc.cell? ⟨g10,7,none⟩=some (.bool false):=hb10.cell 7
        have yf7:=hb10.free 7 (.inr (Nat.zero_le _))
        go_upto_region 17 with fail
        have HK:=hid ((HK.out.set (g:=g10) (.inr HN10.out) 6 (str [])).set (g:=g10) (.inr HN10.out) 7 (.bool true))
        have hb10:Bk ((wc.setCell ⟨g10,6,none⟩ (str [])).setCell ⟨g10,7,none⟩ (.bool true)) g10 27 #[.slice A1 L1.length c1,.slice A2 L2.length c2,.bool any1,.bool any2,.int .i64 TM,.int .i64 TU,str [],.bool true] (0,0):=(hb10.set 6 (str [])).set 7 (.bool true)
        clear y6 yf6 y7 yf7
        generalize (wc.setCell ⟨g10,6,none⟩ (str [])).setCell ⟨g10,7,none⟩ (.bool true)=wc at *
        have y0:wc.cell? ⟨g10,0,none⟩=some (.slice A1 L1.length c1):=hb10.cell 0
        have y1:wc.cell? ⟨g10,1,none⟩=some (.slice A2 L2.length c2):=hb10.cell 1
        have y2:wc.cell? ⟨g10,2,none⟩=some (.bool any1):=hb10.cell 2
        have y3:wc.cell? ⟨g10,3,none⟩=some (.bool any2):=hb10.cell 3
        have y4:wc.cell? ⟨g10,4,none⟩=some (.int .i64 TM):=hb10.cell 4
        have y5:wc.cell? ⟨g10,5,none⟩=some (.int .i64 TU):=hb10.cell 5
        have y6:wc.cell? ⟨g10,6,none⟩=some (str []):=hb10.cell 6
        have y7:wc.cell? ⟨g10,7,none⟩=some (.bool true):=hb10.cell 7
        have hbz:=HK.out.bk (HB2.out _ hG02) hg2w (by simp)
        have z0:wc.cell? ⟨g2,0,none⟩=some (.slice none 0 0):=hbz.cell 0
        have zf0:=hbz.free 0 (.inr (Nat.zero_le _))
        have z1:wc.cell? ⟨g2,1,none⟩=some (.slice none 0 0):=hbz.cell 1
        have zf1:=hbz.free 1 (.inr (Nat.zero_le _))
        have z2:wc.cell? ⟨g2,2,none⟩=some (.bool false):=hbz.cell 2
        have zf2:=hbz.free 2 (.inr (Nat.zero_le _))
        have z3:wc.cell? ⟨g2,3,none⟩=some (.bool false):=hbz.cell 3
        have zf3:=hbz.free 3 (.inr (Nat.zero_le _))
        have z4:wc.cell? ⟨g2,4,none⟩=some (.int .i64 0):=hbz.cell 4
        have zf4:=hbz.free 4 (.inr (Nat.zero_le _))
        have z5:wc.cell? ⟨g2,5,none⟩=some (.int .i64 0):=hbz.cell 5
        have zf5:=hbz.free 5 (.inr (Nat.zero_le _))
        have z6:wc.cell? ⟨g2,6,none⟩=some (str []):=hbz.cell 6
        have zf6:=hbz.free 6 (.inr (Nat.zero_le _))
        have z7:wc.cell? ⟨g2,7,none⟩=some (.bool false):=hbz.cell 7
        have zf7:=hbz.free 7 (.inr (Nat.zero_le _))
        have hk8:=(((((((((HK.out.more (by simp):Kr [g2] w2.heap.size w2 wc).set (g:=g2) (.inl (by simp)) 0 (.slice A1 L1.length c1)).set (g:=g2) (.inl (by simp)) 1 (.slice A2 L2.length c2)).set (g:=g2) (.inl (by simp)) 2 (.bool any1)).set (g:=g2) (.inl (by simp)) 3 (.bool any2)).set (g:=g2) (.inl (by simp)) 4 (.int .i64 TM)).set (g:=g2) (.inl (by simp)) 5 (.int .i64 TU)).set (g:=g2) (.inl (by simp)) 6 (str [])).set (g:=g2) (.inl (by simp)) 7 (.bool true))
        have HK8:=hid hk8
        clear hk8 hb10 hbz
        go_wp2_with fail
        refine bodyPost_ret (v:=.tuple #[.agg #[.slice A1 L1.length c1,.slice A2 L2.length c2,.bool any1,.bool any2,.int .i64 TM,.int .i64 TU,str [],.bool true],.int .i64 0]) (by simp [results,Tryz.results68,go_sem,z0,z1,z2,z3,z4,z5,z6,z7]) rfl ?_
        rw [HC.out]
        exact ⟨A1,c1,A2,c2,rfl,HT1.out.kr HK8.out (fun hl b hb=>⟨HT1.out.lt hl b hb,by rintro h;rw [List.mem_singleton] at h;subst h;exact HF1.out hb⟩),HT2.out.kr HK8.out (fun hl b hb=>⟨HT2.out.lt hl b hb,by rintro h;rw [List.mem_singleton] at h;subst h;exact HF2.out hb⟩),HGX.out _ HK8.out,HFw1.out,HFw2.out⟩
      | some t=>
        obtain ⟨tx,tk⟩:=t
        rw [ht,show tagV (some (tx,tk))=.tuple #[.agg #[str tx,.bool tk],.int .i64 0] from rfl] at HTP
        have HC:=hid (show condP xs=(⟨L1,L2,any1,any2,TM,TU,(tx,tk)⟩,0) from by rw [HC0.out,rangV_cons,ht])
        clear ht
        go_upto_region 15 with (first
         | (go_at_call 66;refine (HIR.out _ (HGX.out _ (HK.out.more (by simp)))).mono ?_;rintro e wm ⟨rfl,hGm⟩;have HKm:=hid (HK.out.gr hGm);have hbm:=hb10.gr hGm)
         | (go_at_call 77;refine (HTP.out _).mono ?_;rintro e wn ⟨rfl,hGn⟩;have hbn:=hbm.gr hGn;have y6:wn.cell? ⟨g10,6,none⟩=some (str []):=hbn.cell 6;have yf6:=hbn.free 6 (.inr (Nat.zero_le _));have y7:wn.cell? ⟨g10,7,none⟩=some (.bool false):=hbn.cell 7;have yf7:=hbn.free 7 (.inr (Nat.zero_le _))))
        have HK:=hid (((HKm.out.gr hGn).set (g:=g10) (.inr HN10.out) 6 (str tx)).set (g:=g10) (.inr HN10.out) 7 (.bool tk))
        have hb10:Bk ((wn.setCell ⟨g10,6,none⟩ (str tx)).setCell ⟨g10,7,none⟩ (.bool tk)) g10 27 #[.slice A1 L1.length c1,.slice A2 L2.length c2,.bool any1,.bool any2,.int .i64 TM,.int .i64 TU,str tx,.bool tk] (0,0):=(hbn.set 6 (str tx)).set 7 (.bool tk)
        clear hGn hGm hbn hbm y6 yf6 y7 yf7 HKm
        generalize (wn.setCell ⟨g10,6,none⟩ (str tx)).setCell ⟨g10,7,none⟩ (.bool tk)=wc at *
        go_upto_region 17 with fail
        have y0:wc.cell? ⟨g10,0,none⟩=some (.slice A1 L1.length c1):=hb10.cell 0
        have y1:wc.cell? ⟨g10,1,none⟩=some (.slice A2 L2.length c2):=hb10.cell 1
        have y2:wc.cell? ⟨g10,2,none⟩=some (.bool any1):=hb10.cell 2
        have y3:wc.cell? ⟨g10,3,none⟩=some (.bool any2):=hb10.cell 3
        have y4:wc.cell? ⟨g10,4,none⟩=some (.int .i64 TM):=hb10.cell 4
        have y5:wc.cell? ⟨g10,5,none⟩=some (.int .i64 TU):=hb10.cell 5
        have y6:wc.cell? ⟨g10,6,none⟩=some (str tx):=hb10.cell 6
        have y7:wc.cell? ⟨g10,7,none⟩=some (.bool tk):=hb10.cell 7
        have hbz:=HK.out.bk (HB2.out _ hG02) hg2w (by simp)
        have z0:wc.cell? ⟨g2,0,none⟩=some (.slice none 0 0):=hbz.cell 0
        have zf0:=hbz.free 0 (.inr (Nat.zero_le _))
        have z1:wc.cell? ⟨g2,1,none⟩=some (.slice none 0 0):=hbz.cell 1
        have zf1:=hbz.free 1 (.inr (Nat.zero_le _))
        have z2:wc.cell? ⟨g2,2,none⟩=some (.bool false):=hbz.cell 2
        have zf2:=hbz.free 2 (.inr (Nat.zero_le _))
        have z3:wc.cell? ⟨g2,3,none⟩=some (.bool false):=hbz.cell 3
        have zf3:=hbz.free 3 (.inr (Nat.zero_le _))
        have z4:wc.cell? ⟨g2,4,none⟩=some (.int .i64 0):=hbz.cell 4
        have zf4:=hbz.free 4 (.inr (Nat.zero_le _))
        have z5:wc.cell? ⟨g2,5,none⟩=some (.int .i64 0):=hbz.cell 5
        have zf5:=hbz.free 5 (.inr (Nat.zero_le _))
        have z6:wc.cell? ⟨g2,6,none⟩=some (str []):=hbz.cell 6
        have zf6:=hbz.free 6 (.inr (Nat.zero_le _))
        have z7:wc.cell? ⟨g2,7,none⟩=some (.bool false):=hbz.cell 7
        have zf7:=hbz.free 7 (.inr (Nat.zero_le _))
        have hk8:=(((((((((HK.out.more (by simp):Kr [g2] w2.heap.size w2 wc).set (g:=g2) (.inl (by simp)) 0 (.slice A1 L1.length c1)).set (g:=g2) (.inl (by simp)) 1 (.slice A2 L2.length c2)).set (g:=g2) (.inl (by simp)) 2 (.bool any1)).set (g:=g2) (.inl (by simp)) 3 (.bool any2)).set (g:=g2) (.inl (by simp)) 4 (.int .i64 TM)).set (g:=g2) (.inl (by simp)) 5 (.int .i64 TU)).set (g:=g2) (.inl (by simp)) 6 (str tx)).set (g:=g2) (.inl (by simp)) 7 (.bool tk))
        have HK8:=hid hk8
        clear hk8 hb10 hbz
        go_wp2_with fail
        refine bodyPost_ret (v:=.tuple #[.agg #[.slice A1 L1.length c1,.slice A2 L2.length c2,.bool any1,.bool any2,.int .i64 TM,.int .i64 TU,str tx,.bool tk],.int .i64 0]) (by simp [results,Tryz.results68,go_sem,z0,z1,z2,z3,z4,z5,z6,z7]) rfl ?_
        rw [HC.out]
        exact ⟨A1,c1,A2,c2,rfl,HT1.out.kr HK8.out (fun hl b hb=>⟨HT1.out.lt hl b hb,by rintro h;rw [List.mem_singleton] at h;subst h;exact HF1.out hb⟩),HT2.out.kr HK8.out (fun hl b hb=>⟨HT2.out.lt hl b hb,by rintro h;rw [List.mem_singleton] at h;subst h;exact HF2.out hb⟩),HGX.out _ HK8.out,HFw1.out,HFw2.out⟩
end Go.Proofs.YtflepnkpihfidaaGreatDoor
namespace Go.Proofs.YtflepnkpihfidaaGreatDoor
open Lib (hid)
open Go.RowKit
end Go.Proofs.YtflepnkpihfidaaGreatDoor
