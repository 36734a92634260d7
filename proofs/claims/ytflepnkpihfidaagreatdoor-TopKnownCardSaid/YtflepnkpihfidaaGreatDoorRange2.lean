/- strings.SplitSeq at a separator of one byte: the texts between; its iterator as a range over a function takes it. No conditions. -/
import Derived.Test.YtflepnkpihfidaaGreatDoorShelf
import Derived.Test.YtflepnkpihfidaaGreatDoorJWords
import Derived.Lib.IndexLaws
set_option linter.unusedVariables false
set_option linter.unusedSimpArgs false
namespace Go.Proofs.YtflepnkpihfidaaGreatDoor
open Lib (hid)
open Go.RowKit
def splitC (c:UInt8):List UInt8→List (List UInt8)
 | []=>[[]]
 | b::t=>if b==c then []::splitC c t else match splitC c t with
   | []=>[[b]]
   | x::r=>(b::x)::r
theorem splitC_ne (c:UInt8) (s:List UInt8):splitC c s≠[]:=by
 cases s with
 | nil=>simp [splitC]
 | cons b t=>unfold splitC;split <;> (try split) <;> simp
theorem splitC_last (c:UInt8):∀(t:List UInt8),Lib.indexByte t c= -1→splitC c t=[t]
 | [],_=>rfl
 | b::t,h=>by
   unfold Lib.indexByte at h
   unfold splitC
   by_cases hb:(b==c)=true
   ·rw [if_pos hb] at h;omega
   ·rw [if_neg hb] at h ⊢
    by_cases h1:(Lib.indexByte t c==-1)=true
    ·rw [splitC_last c t (by simpa using h1)]
    ·rw [if_neg h1] at h
     have:=Lib.indexByte_ge t c
     have h1':Lib.indexByte t c≠-1:=by simpa using h1
     omega
theorem splitC_hit (c b:UInt8) (t:List UInt8) (h:(b==c)=true):splitC c (b::t)=[]::splitC c t:=by
 rw [splitC,if_pos h]
theorem splitC_miss (c b:UInt8) (t x:List UInt8) (r:List (List UInt8)) (h:¬(b==c)=true) (hr:splitC c t=x::r):splitC c (b::t)=(b::x)::r:=by
 rw [splitC,if_neg h,hr]
theorem splitC_at (c:UInt8):∀(t:List UInt8) (k:Nat),Lib.indexByte t c=k→k < t.length∧splitC c t=t.take k::splitC c (t.drop (k+1))
 | [],k,h=>by unfold Lib.indexByte at h;omega
 | b::t,k,h=>by
   unfold Lib.indexByte at h
   by_cases hb:(b==c)=true
   ·rw [if_pos hb] at h
    obtain rfl:k=0:=by omega
    exact ⟨by simp,splitC_hit c b t hb⟩
   ·rw [if_neg hb] at h
    by_cases h1:(Lib.indexByte t c==-1)=true
    ·rw [if_pos h1] at h;omega
    ·rw [if_neg h1] at h
     have:=Lib.indexByte_ge t c
     have h1':Lib.indexByte t c≠-1:=by simpa using h1
     obtain ⟨j,rfl⟩:∃j,k=j+1:=⟨k-1,by omega⟩
     have hj:=splitC_at c t j (by omega)
     exact ⟨by simp;omega,splitC_miss c b t _ _ hb hj.2⟩
theorem wpY_plain {P:Program} {ops:Array Oper} {Q:Exit→Act→World→Prop} {o:Oper} {rest:List Oper} {a:Act} {w:World} (hg:o.guard=none)
  (h:∀K:Act→World→Prop,(∀a w,wpListIn Fence.wide 0 P ops Q rest a w→K a w)→o.wp P a w K Q):wpListIn Fence.wide 0 P ops Q (o::rest) a w:=by
 refine wpListIn_plain hg fun K hK=>⟨fun _ _=>trivial,?_⟩
 rw [Fence.wide_round,Oper.semAt_none]
 have h:=h K hK
 unfold Oper.wp at h
 generalize (execOp a.eval o).run P w=r at *
 cases r with
 | ok x w'=>
   cases x <;> simp only [Oper.upon] at h <;> simp only [Oper.uponIn] <;>
    first
     | exact h
     | exact ⟨fun hx=>by simp [Fence.wide] at hx,callsIn_wide.2 h⟩
     | exact ⟨fun hx=>by simp [Fence.wide] at hx,fun c cs _=>let ⟨v,w',r,s⟩:=h c cs;⟨v,w',r,stepsIn_wide.2 s⟩⟩
 | halt x w'=>cases x <;> simp only [Oper.upon] at h <;> simp only [Oper.uponIn] <;> exact h
theorem wpY_yield {P:Program} {ops:Array Oper} {Q:Exit→Act→World→Prop} {o:Oper} {rest:List Oper} {a:Act} {w:World} (hg:o.guard=none) {l:Nat} {args:Array Value} {R:Ending→World→Prop}
  (hy:YieldAt Fence.wide 0 P l args w R) (hrun:∀r,(Instr.yield l args).run P w=r→(execOp a.eval o).run P w=r)
  (h:∀e w',R e w'→∃v,e=.returned v∧wpListIn Fence.wide 0 P ops Q rest (a.put o.dst v) w'):wpListIn Fence.wide 0 P ops Q (o::rest) a w:=by
 refine wpListIn_plain hg fun K hK=>⟨fun _ _=>trivial,?_⟩
 rw [Fence.wide_round,Oper.semAt_none]
 obtain ⟨fn,tmps,assign,body,hy,hR⟩:=hy
 rw [hrun _ hy]
 refine ⟨fun hx=>by simp [Fence.wide] at hx,hR.mono fun e w' hr=>?_⟩
 obtain ⟨v,rfl,h2⟩:=h e w' hr
 exact hK _ _ h2
theorem wpY_region {P:Program} {id:Nat} {os:List Oper} {Q:Exit→Act→World→Prop} {a:Act} {w:World} (h:wpListIn Fence.wide 0 P os.toArray Q os a w):(Code.region id os.toArray false).wp P Q a w:=
 (wpIn_wide (n:=0)).1 (wpIn_region_lit h)
theorem indexOne (s:List UInt8) (c:UInt8) (w:World):Calls Tryz.prog 253 #[str s,str [c]] w fun e w'=>e=.returned (.int .i64 (Lib.indexByte s c))∧w'=w:=
 (Tryz.strings_Index_one ⟨s.toArray⟩ c w).mono fun e w' ⟨h1,h2⟩=>⟨by rw [h1],h2⟩
set_option maxHeartbeats 4000000 in
theorem splitIter (s:List UInt8) (c:UInt8) (w0:World) (b:Nat) (hs:s.length≤9223372036854775806) (h0:Bk w0 b 9 #[str s] (0,0)) (h1:Bk w0 (b+1) 9 #[str [c]] (0,0)) (h2:Bk w0 (b+2) 3 #[.int .i64 0] (0,0)) :
  IterC Tryz.prog 254 #[.pointer (some ⟨b+1,0,none⟩),.pointer (some ⟨b,0,none⟩),.pointer (some ⟨b+2,0,none⟩)] (fun x=>#[str x]) (splitC c s) w0 (some b) (fun A=>A.heap[b+1]?=w0.heap[b+1]?∧A.heap[b+2]?=w0.heap[b+2]?):=by
 intro l J Jx W hJ hJx hJ0 hround hbo hJi
 have hc0:Bk W b 9 #[str s] (0,0):=(hbo b rfl).trans h0
 have hc1:∀pre A,J pre A→A.cell? ⟨b+1,0,none⟩=some (str [c]):=fun pre A h=>Bk.cell (show Bk A (b+1) 9 #[str [c]] (0,0) from (hJ0 pre A h).1.trans h1) 0
 have hc2:∀pre A,J pre A→A.cell? ⟨b+2,0,none⟩=some (.int .i64 0):=fun pre A h=>Bk.cell (show Bk A (b+2) 3 #[.int .i64 0] (0,0) from (hJ0 pre A h).2.trans h2) 0
 have q1:=hc1 _ _ hJi
 clear h0 h1 h2 hbo
 have HC1:=hid hc1
 have HC2:=hid hc2
 have HC0:=hid hc0
 have HJi:=hid hJi
 have HR:=hid hround
 have HJ:=hid hJ
 have HJx:=hid hJx
 clear hc1 hc2 hc0 hJi hround hJ hJx hJ0
 show Calls _ _ #[.func (.yield l) #[] #[],.pointer (some ⟨b+1,0,none⟩),.pointer (some ⟨b,0,none⟩),.pointer (some ⟨b+2,0,none⟩)] _ _
 go_enter Tryz.func254,Tryz.ntmps254
 go_upto_region 5 with fail
 go_loopw [7,8] (fun x7 x8 wr=>∃(pre:List (List UInt8)) (t:List UInt8),splitC c s=pre++splitC c t∧t.length≤s.length∧J pre wr∧Bk wr b 9 #[str t] (0,0)) (fun _ _ wr=>Lib.strSize ((wr.cell? ⟨b,0,none⟩).getD undef))
 case atStart=>exact ⟨[],s,rfl,Nat.le_refl _,HJi.out,HC0.out⟩
 case round=>
  obtain ⟨pre,t,hsp,htl,hJ,hb⟩:=hrel
  have q1:=HC1.out _ _ hJ
  have q2:=HC2.out _ _ hJ
  have q0:wr.cell? ⟨b,0,none⟩=some (str t):=hb.cell 0
  have HB:=hid hb
  have HJw:=hid hJ
  have HSP:=hid hsp
  have hge:=Lib.indexByte_ge t c
  clear hb hJ hsp HJi HC0
  by_cases hi:Lib.indexByte t c= -1
  ·have HL:=hid (splitC_last c t hi)
   have hlt:decide (Lib.indexByte t c < 0)=true:=decide_eq_true (by omega)
   go_upto_region 10 with (go_at_call 253;refine (indexOne t c _).mono ?_;rintro e w1 ⟨rfl,rfl⟩)
   refine wpY_region ?_
   (refine wpY_plain rfl (fun K hK=>?_);go_simp;refine hK _ _ ?_;clear hK K)
   (refine wpY_plain rfl (fun K hK=>?_);go_simp;refine hK _ _ ?_;clear hK K)
   refine wpY_yield rfl (HR.out pre t [] w1 (by rw [HSP.out,HL.out]) HJw.out) (fun r hr=>by rw [←hr];go_simp) ?_
   rintro e w2 (⟨rfl,hJ2,hk2⟩ | ⟨rfl,hJ2⟩)
   ·refine ⟨_,rfl,?_⟩
    refine wpListIn_nil ?_
    go_simp
    go_wp2_with fail
    go_end0
    exact ⟨⟨_,rfl⟩,.inl (by rw [HSP.out,HL.out];exact hJ2)⟩
   ·refine ⟨_,rfl,?_⟩
    refine wpListIn_nil ?_
    go_simp
    go_wp2_with fail
    go_end0
    exact ⟨⟨_,rfl⟩,.inr ⟨pre,t,[],by rw [HSP.out,HL.out],hJ2⟩⟩
  ·obtain ⟨k,hk⟩:∃k:Nat,Lib.indexByte t c=k:=⟨(Lib.indexByte t c).toNat,by omega⟩
   obtain ⟨hkl,hL⟩:=splitC_at c t k hk
   have HL:=hid hL
   clear hL
   have hlt:decide (Lib.indexByte t c < 0)=false:=decide_eq_false (by omega)
   go_upto_region 8 with (go_at_call 253;refine (indexOne t c _).mono ?_;rintro e w1 ⟨rfl,rfl⟩)
   have hxs:splitC c s=pre++List.take k t::splitC c (List.drop (k+1) t):=by rw [HSP.out,HL.out]
   refine wpY_region ?_
   (refine wpY_plain rfl (fun K hK=>?_);go_simp;refine hK _ _ ?_;clear hK K)
   (refine wpY_plain rfl (fun K hK=>?_);go_simp;refine hK _ _ ?_;clear hK K)
   refine wpY_yield rfl (HR.out pre (List.take k t) (splitC c (t.drop (k+1))) w1 hxs HJw.out) (fun r hr=>by rw [←hr];go_simp) ?_
   rintro e w2 (⟨rfl,hJ2,hk2⟩ | ⟨rfl,hJ2⟩)
   ·refine ⟨_,rfl,?_⟩
    have hb2:Bk w2 b 9 #[str t] (0,0):=(hk2 b rfl).trans HB.out
    have q0:w2.cell? ⟨b,0,none⟩=some (str t):=hb2.cell 0
    have q0':=hb2.free 0 (.inr (by simp))
    have q1:=HC1.out _ _ hJ2
    have q2:=HC2.out _ _ hJ2
    have HB2:=hid hb2
    have HJ2:=hid hJ2
    clear hb2 hJ2 hk2
    (refine wpY_plain rfl (fun K hK=>?_);go_simp;refine hK _ _ ?_;clear hK K)
    refine wpListIn_nil ?_
    simp only [Exit.then]
    go_wp2_with fail
    refine ⟨⟨pre++[List.take k t],t.drop (k+1),by rw [hxs];simp,by simp;omega,HJ.out _ _ _ HJ2.out (by_st ((Gr.refl w2).by (some b)) 0 _),HB2.out.set 0 _⟩,?_⟩
    rw [(HB2.out.set 0 _).cell 0,HB.out.cell 0]
    show (t.drop (k+1)).length < t.length
    simp;omega
   ·refine ⟨_,rfl,?_⟩
    (refine wpY_plain rfl (fun K hK=>?_);go_simp;refine hK _ _ ?_;clear hK K)
    refine wpListIn_nil ?_
    simp only [Exit.then]
    go_wp2_with fail
    refine bodyPost_ret (results_none rfl _ _ _) rfl ?_
    exact ⟨⟨_,rfl⟩,.inr ⟨pre,List.take k t,_,hxs,hJ2⟩⟩
def SplitEnd (w:World) (s:List UInt8) (c:UInt8) (e:Ending) (w':World):Prop:=
 ∃b:Nat,e=.returned (.func (.func 254) #[] #[.pointer (some ⟨b+1,0,none⟩),.pointer (some ⟨b,0,none⟩),.pointer (some ⟨b+2,0,none⟩)])∧Gr w w'∧w.heap.size≤b∧b+2 < w'.heap.size∧
  IterC Tryz.prog 254 #[.pointer (some ⟨b+1,0,none⟩),.pointer (some ⟨b,0,none⟩),.pointer (some ⟨b+2,0,none⟩)] (fun x=>#[str x]) (splitC c s) w' (some b) (fun A=>A.heap[b+1]?=w'.heap[b+1]?∧A.heap[b+2]?=w'.heap[b+2]?)
set_option maxHeartbeats 4000000 in
theorem splitSeq_any (s:List UInt8) (c:UInt8) (w:World) (hs:s.length≤9223372036854775806):Calls Tryz.prog 204 #[str s,str [c],.int .i64 0] w (SplitEnd w s c):=by
 have HS:=hid hs
 clear hs
 go_enter Tryz.func204,Tryz.ntmps204
 go_wp2_with fail
 go_ret
 have h0:=Bk.new w 9 #[str s] (0,0)
 have h1:=Bk.new (w.alloc (.cells #[str s] 9)) 9 #[str [c]] (0,0)
 have h2:=Bk.new ((w.alloc (.cells #[str s] 9)).alloc (.cells #[str [c]] 9)) 3 #[.int .i64 0] (0,0)
 simp only [World.size_alloc] at h1 h2
 refine ⟨w.heap.size,?_,Gr.al (Gr.al (Gr.al (Gr.refl w) _) _) _,Nat.le_refl _,by simp [World.size_alloc],splitIter s c _ w.heap.size HS.out ((h0.al _).al _) (h1.al _) h2⟩
 simp
set_option maxHeartbeats 4000000 in
theorem SplitSeq_any (s:List UInt8) (c:UInt8) (w:World) (hs:s.length≤9223372036854775806):Calls Tryz.prog 137 #[str s,str [c]] w (SplitEnd w s c):=by
 have HS:=hid (splitSeq_any s c w hs)
 clear hs
 go_enter Tryz.func137,Tryz.ntmps137
 go_wp2_with (go_at_call 204;refine HS.out.mono ?_;rintro e w1 ⟨b,rfl,hx⟩)
 go_ret
 exact ⟨b,rfl,hx⟩
end Go.Proofs.YtflepnkpihfidaaGreatDoor
