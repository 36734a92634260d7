/- Parts. No conditions but those that each theorem names. -/
import Derived.Test.YtflepnkpihfidaaGreatDoorJSpec
import Derived.Test.YtflepnkpihfidaaGreatDoorJWords
import Derived.Test.YtflepnkpihfidaaGreatDoorRange2
set_option linter.unusedVariables false
set_option linter.unusedSimpArgs false
namespace Go.Proofs.YtflepnkpihfidaaGreatDoor
open Lib (hid)
open Go.RowKit
def SpecsEnd (r:List SpecT×Nat) (w:World) (e:Ending) (w':World):Prop:=∃v,e=.returned (.tuple #[v,.int .i64 (r.2:Nat)])∧Specs w' v r.1∧Gr w w'∧Fresh w v
theorem addS_nil {cur:List UInt8} {l:List SpecT} (h:trim cur=[]):addS cur l=some l:=by unfold addS;rw [if_pos h]
theorem addS_none {cur:List UInt8} {l:List SpecT} (h:trim cur≠[]) (hp:itemL (trim cur)=none):addS cur l=none:=by unfold addS;rw [if_neg h,hp];rfl
theorem addS_some {cur:List UInt8} {l:List SpecT} {t:SpecT} (h:trim cur≠[]) (hp:itemL (trim cur)=some t):addS cur l=some (l++[t]):=by unfold addS;rw [if_neg h,hp];rfl
theorem trim_isEmpty_no' {x:List UInt8} (h:x≠[]):x.isEmpty=false:=by cases x <;> simp_all
theorem specP_short {s:List UInt8} (h:s.length < 6∨low (s.take 6)≠bytesEq):specP s=([],2):=by unfold specP;rw [if_pos h]
end Go.Proofs.YtflepnkpihfidaaGreatDoor
namespace Go.Proofs.YtflepnkpihfidaaGreatDoor
open Lib (hid)
open Go.RowKit
theorem splitC_mem (c:UInt8):∀(s:List UInt8),∀t∈splitC c s,t.length≤s.length
 | [],t,ht=>by
   have:t=[]:=by simpa [splitC] using ht
   rw [this];simp
 | b::r,t,ht=>by
   have ih:=splitC_mem c r
   by_cases hb:(b==c)=true
   ·rw [splitC_hit c b r hb] at ht
    rcases List.mem_cons.1 ht with rfl | h
    ·simp
    ·have:=ih t h;simp only [List.length_cons];omega
   ·cases hr:splitC c r with
    | nil=>exact absurd hr (splitC_ne c r)
    | cons y ys=>
      rw [splitC_miss c b r y ys hb hr] at ht
      rw [hr] at ih
      rcases List.mem_cons.1 ht with rfl | h
      ·have:=ih y (List.mem_cons_self ..);simp only [List.length_cons];omega
      ·have:=ih t (List.mem_cons_of_mem _ h);simp only [List.length_cons];omega
theorem runS_snoc {pre:List (List UInt8)} {L:List SpecT} (x:List UInt8) (h:specsP [] pre=some L):specsP [] (pre++[x])=addS x L:=by
 rw [specsP_snoc pre [] x [],h]
 simp only [Option.bind_some,specsP]
 cases addS x L <;> rfl
theorem runS_stop {a b:List (List UInt8)} (h:specsP [] a=none):specsP [] (a++b)=none:=by
 have:∀(a:List (List UInt8)) (l:List SpecT),specsP l (a++b)=(specsP l a).bind fun l'=>specsP l' b:=by
  intro a
  induction a with
  | nil=>intro l;rfl
  | cons y a ih=>
    intro l
    rw [List.cons_append,specsP,specsP]
    cases addS y l with
    | none=>rfl
    | some l1=>simp only [Option.bind_some];exact ih l1
 rw [this,h];rfl
structure SI (p b:Nat) (W1:World) (L:List SpecT) (A:World):Prop where
 kr:Kr [p,p+1,b,W1.heap.size-1] W1.heap.size W1 A
 row:∃v,Bk A p 22 #[v] (0,0)∧Own W1 A 96 2 v (L.take 64).length (specCs (L.take 64))
 many:Bk A (p+1) 4 #[.bool (decide (64 < L.length))] (0,0)
structure SX (g p b:Nat) (W1:World) (A:World):Prop where
 kr:Kr [g,g+1,p,p+1,b,W1.heap.size-1] W1.heap.size W1 A
 r0:Bk A g 22 #[.slice none 0 0] (0,0)
 r1:Bk A (g+1) 41 #[.int .i64 2] (0,0)
theorem sbk_by {A B:World} {g t cs fr} {r:Option Nat} (h:Bk A g t cs fr) (k:A.grownBy B r) (hr:r≠some g):Bk B g t cs fr:=(k.block g h.lt (Ne.symm hr)).trans h
theorem SI.by {p b:Nat} {W1:World} {L:List SpecT} {A B:World} (h:SI p b W1 L A) {r:Nat} (k:A.grownBy B (some r)) (hr:r=b∨r=W1.heap.size-1) (hb:p+1 < b) (hW:b+2 < W1.heap.size-1):SI p b W1 L B:=by
 have hne:∀j,j≤p+1→(some r:Option Nat)≠some j:=fun j hj e=>by cases e;omega
 obtain ⟨v,h1,h2⟩:=h.row
 exact ⟨h.kr.by k (fun j e=>by cases e;rcases hr with rfl | rfl <;> simp),⟨v,sbk_by h1 k (hne p (by omega)),own_kr h2 k (.inr (own_ne h2 (by omega)))⟩,sbk_by h.many k (hne (p+1) (by omega))⟩
theorem SX.by {g p b:Nat} {W1:World} {A B:World} (h:SX g p b W1 A) {r:Nat} (k:A.grownBy B (some r)) (hr:r=b∨r=W1.heap.size-1) (hg:g+1 < p) (hb:p+1 < b) (hW:b+2 < W1.heap.size-1):SX g p b W1 B:=by
 have hne:∀j,j≤p+1→(some r:Option Nat)≠some j:=fun j hj e=>by cases e;omega
 exact ⟨h.kr.by k (fun j e=>by cases e;rcases hr with rfl | rfl <;> simp),sbk_by h.r0 k (hne g (by omega)),sbk_by h.r1 k (hne (g+1) (by omega))⟩
theorem SI.gr {p b:Nat} {W1:World} {L:List SpecT} {A B:World} (h:SI p b W1 L A) (k:Gr A B):SI p b W1 L B:=by
 obtain ⟨v,h1,h2⟩:=h.row
 exact ⟨h.kr.gr k,⟨v,h1.gr k,h2.gr k⟩,h.many.gr k⟩
def SInv (p b:Nat) (W1:World) (pre:List (List UInt8)) (A:World):Prop:=∃L,specsP [] pre=some L∧SI p b W1 L A
def SInx (g p b:Nat) (W1:World) (c:Code) (pre:List (List UInt8)) (A:World):Prop:=c=.ret∧specsP [] pre=none∧SX g p b W1 A
theorem SI.next {p b:Nat} {W1:World} {L:List SpecT} {A B:World} {v v':Value} {x:SpecT} (h:SI p b W1 L A) (hb:p+1 < b) (hW:b+2 < W1.heap.size-1) (hl:L.length < 64) (hb2:Bk A p 22 #[v] (0,0))
  (hown:Own W1 A 96 2 v L.length (specCs L)) (hown':Own W1 B 96 2 v' (L.length+1) (specCs L++[.int .i64 x.1,.int .i64 x.2])) (happ:App v v' A B):SI p b W1 (L++[x]) (B.setCell ⟨p,0,none⟩ v'):=by
 have hne:∀j,j≤p+1→v.ownBlock≠some j:=fun j hj=>own_ne hown (by omega)
 have hst:=by_st ((Gr.refl B).by (some p)) 0 v'
 have e2:(L++[x]).take 64=L++[x]:=List.take_of_length_le (by simp;omega)
 refine ⟨(h.kr.by happ.grown (fun k hk=>.inr (World.ownsRow.lt hown k hk).1)).set (.inl (by simp)) _ _,⟨v',(sbk_by hb2 happ.grown (hne p (by omega))).set 0 _,?_⟩,?_⟩
 ·rw [e2,specCs_app,List.length_append]
  exact own_kr hown' hst (.inr (own_ne hown' (by omega)))
 ·have:=(sbk_by h.many happ.grown (hne (p+1) (by omega))).far (p:=⟨p,0,none⟩) (by simp) v'
  rw [decide_eq_false (by omega)] at this
  rw [decide_eq_false (by simp;omega)]
  exact this
theorem SI.more {p b:Nat} {W1:World} {L:List SpecT} {A:World} (x:SpecT) (h:SI p b W1 L A) (hb:p+1 < b) (hW:b+2 < W1.heap.size-1) (hl:64≤L.length):SI p b W1 (L++[x]) (A.setCell ⟨p+1,0,none⟩ (.bool true)):=by
 obtain ⟨v,h1,h2⟩:=h.row
 have e2:(L++[x]).take 64=L.take 64:=by rw [List.take_append_of_le_length hl]
 have k:=by_st ((Gr.refl A).by (some (p+1))) 0 (.bool true)
 refine ⟨h.kr.set (.inl (by simp)) _ _,⟨v,h1.far (p:=⟨p+1,0,none⟩) (by simp) _,?_⟩,?_⟩
 ·rw [e2];exact own_kr h2 k (.inr (own_ne h2 (by omega)))
 ·rw [decide_eq_true (show 64 < (L++[x]).length by simp;omega)];exact h.many.set 0 _
structure S0 (g:Nat) (A:World):Prop where
 r0:Bk A g 22 #[.slice none 0 0] (0,0)
 r1:Bk A (g+1) 41 #[.int .i64 0] (0,0)
theorem S0.gr {g:Nat} {A B:World} (h:S0 g A) (k:Gr A B):S0 g B:=⟨h.r0.gr k,h.r1.gr k⟩
theorem SI.res {g p b:Nat} {W1:World} {L:List SpecT} {A:World} (h:SI p b W1 L A) (r:S0 g W1) (hg:g+1 < p) (hb:p+1 < b) (hW:b+2 < W1.heap.size-1):S0 g A:=
 ⟨h.kr.bk r.r0 (by omega) (by simp;omega),h.kr.bk r.r1 (by omega) (by simp;omega)⟩
def stopS (A:World) (g:Nat) (e:Int):World:=(A.setCell ⟨g,0,none⟩ (.slice none 0 0)).setCell ⟨g+1,0,none⟩ (.int .i64 e)
theorem SX.of {g p b:Nat} {W1:World} {L:List SpecT} {A:World} (h:SI p b W1 L A) (r:S0 g A):SX g p b W1 (stopS A g 2):=by
 unfold stopS
 refine ⟨((h.kr.more (by simp)).set (.inl (by simp)) _ _).set (.inl (by simp)) _ _,?_,?_⟩
 ·exact (r.r0.set 0 _).far (p:=⟨g+1,0,none⟩) (by simp) _
 ·exact (r.r1.far (p:=⟨g,0,none⟩) (by simp) _).set 0 _
theorem skeep {S:List Nat} {b D N:Nat} {A B:World} (h:Kr S N A B) (hN:N=D+2) (hb:b < D) (hS:∀k∈S,k < b):∀k,(k=D∨k=D+1∨some b=some k)→B.heap[k]?=A.heap[k]?:=by
 rintro k (rfl | rfl | hk)
 ·exact h.block _ (by omega) (fun hm=>by have:=hS _ hm;omega)
 ·exact h.block _ (by omega) (fun hm=>by have:=hS _ hm;omega)
 ·cases hk;exact h.block _ (by omega) (fun hm=>by have:=hS _ hm;omega)
theorem sput_cell {A:World} {D g i:Nat} {o:Obj} (h:g≠D):(A.putObj D o).cell? ⟨g,i,none⟩=A.cell? ⟨g,i,none⟩:=World.cell?_of_block (World.putObj_heap_other h)
theorem sgr_put {w A:World} {D:Nat} (h:Gr w A) (hD:w.heap.size≤D) (o:Obj):Gr w (A.putObj D o):=
 have k:=grownBy_putObj' A D o
 ⟨k.os.trans h.os,k.tape.trans h.tape,k.output.trans h.output,Nat.le_trans h.size k.size,fun j hj=>(k.block j (Nat.lt_of_lt_of_le hj h.size) (by intro e;cases e;omega)).trans (h.block j hj)⟩
theorem stwo_heap {A:World} {g D:Nat} {v1 v2:Value} (h:g+1 < D):((A.setCell ⟨g,0,none⟩ v1).setCell ⟨g+1,0,none⟩ v2).heap[D]?=A.heap[D]?:=by
 rw [Below.heap_setCell _ ⟨g+1,0,none⟩ _ _ (by show D≠g+1;omega),Below.heap_setCell _ ⟨g,0,none⟩ _ _ (by show D≠g;omega)]
theorem six_form {s:List UInt8} (h:¬s.length < 6):∃a b c d e x r,s=a::b::c::d::e::x::r:=by
 match s,h with
 | a::b::c::d::e::x::r,_=>exact ⟨a,b,c,d,e,x,r,rfl⟩
 | [],h=>simp at h
 | [_],h=>simp at h
 | [_,_],h=>simp at h
 | [_,_,_],h=>simp at h
 | [_,_,_,_],h=>simp at h
 | [_,_,_,_,_],h=>simp at h
theorem lowN_eq {x:UInt8}:lowN x=61↔x=61:=by
 constructor
 ·intro h
  unfold lowN at h
  split at h
  ·rename_i hx
   have h2:=congrArg UInt8.toNat h
   rw [UInt8.toNat_add] at h2
   have:=hx.1;have:=hx.2
   rw [UInt8.le_iff_toNat_le] at *
   simp at *
   omega
  ·exact h
 ·rintro rfl;decide
theorem specP_six {a b c d e x:UInt8} {r:List UInt8}:(low ((a::b::c::d::e::x::r).take 6)≠bytesEq)↔((low [a,b,c,d,e]==[98,121,116,101,115])=false∨x≠61):=by
 have e1:(a::b::c::d::e::x::r).take 6=[a,b,c,d,e]++[x]:=rfl
 have e2:bytesEq=[98,121,116,101,115]++[61]:=rfl
 have e3:low ([a,b,c,d,e]++[x])=low [a,b,c,d,e]++[lowN x]:=rfl
 rw [e1,e2,e3,beq_eq_false_iff_ne]
 constructor
 ·intro h
  by_cases hx:x=61
  ·subst hx
   left
   intro h2;exact h (by rw [h2];rfl)
  ·exact .inr hx
 ·rintro (h | h) h2
  ·exact h (List.append_inj' h2 rfl).1
  ·have:=(List.append_inj' h2 rfl).2
   exact h (lowN_eq.1 (by simpa using this))
end Go.Proofs.YtflepnkpihfidaaGreatDoor
namespace Go.Proofs.YtflepnkpihfidaaGreatDoor
open Lib (hid)
open Go.RowKit
set_option maxHeartbeats 8000000 in
set_option maxRecDepth 100000 in
theorem specParse_any (s:List UInt8) (w:World) (hm:Ml w) (hs:s.length≤1000000):Calls Tryz.prog 69 #[str s] w (SpecsEnd (specP s) w):=by
 by_cases hl6:s.length < 6
 ·have d1:decide ((s.length:Int) < 6)=true:=decide_eq_true (by omega)
  have HN:=hid (specP_short (.inl hl6))
  clear hm
  (refine calls_of_wp_marks Tryz.func69 rfl ?_;simp only [Tryz.ntmps69,List.size_toArray,List.length_cons,List.length_nil,Nat.reduceAdd,Nat.reduceSub,Array.replicate_succ,Array.replicate_zero,List.push_toArray,List.append_toArray,List.nil_append,List.cons_append])
  go_wp2_with fail
  refine bodyM_ret (v:=.tuple #[.slice none 0 0,.int .i64 2]) (by simp [results,Tryz.results69,go_sem]) rfl ?_
  rw [HN.out]
  exact ⟨_,rfl,Specs.nil _,Gr.al (Gr.al (Gr.refl w) _) _,fresh_nil _⟩
 ·obtain ⟨a,b,c,d,e,x5,r,rfl⟩:=six_form hl6
  have hx5:x5.toNat≤255:=by have:=x5.toNat_lt;omega
  have d1:decide ((((a::b::c::d::e::x5::r):List UInt8).length:Int) < 6)=false:=decide_eq_false (by omega)
  have HW:=hid (fun (w:World)=>word_any a b c d e w)
  have hrl:r.length≤1000000:=by simp only [List.length_cons] at hs;omega
  by_cases hb:low ((a::b::c::d::e::x5::r).take 6)=bytesEq
  ·have HP0:=hid (show specP (a::b::c::d::e::x5::r)=match specsP [] (splitC 44 r) with | none=>([],2) | some l=>if l=[] then ([],2) else if 64 < l.length then ([],4) else (l,0) from by
    unfold specP;rw [if_neg (by rintro (h | h);exact hl6 h;exact h hb)];rfl)
   have hb':(low [a,b,c,d,e]==[98,121,116,101,115])=true∧x5=61:=by
    have:=not_or.1 (fun h=>(specP_six (r:=r)).2 h hb)
    exact ⟨by simpa using this.1,Classical.not_not.1 this.2⟩
   obtain ⟨hb1,rfl⟩:=hb'
   rw [hb1] at HW
   have HS:=hid (fun (w:World)=>SplitSeq_any r 44 w (by omega))
   have HM:=hid hm
   clear hb1 hb hl6 hm d1
   generalize hS:specP (a::b::c::d::e::61::r)=R at *
   clear hS
   (refine calls_of_wp_marks Tryz.func69 rfl ?_;simp only [Tryz.ntmps69,List.size_toArray,List.length_cons,List.length_nil,Nat.reduceAdd,Nat.reduceSub,Array.replicate_succ,Array.replicate_zero,List.push_toArray,List.append_toArray,List.nil_append,List.cons_append])
   go_wp2_with (first | (go_at_call 136;refine (HW.out _).mono ?_;rintro e w0 ⟨rfl,hG0⟩) | (go_at_call 137;refine (HS.out _).mono ?_;rintro e w1 ⟨bi,rfl,hG1,hb1,hb2,hit⟩))
   have hs1:S0 w.heap.size w1:=by
    have h0:S0 w.heap.size w0:=⟨((Bk.new w 22 #[.slice none 0 0] (0,0)).al _).gr hG0,by
     have:=(Bk.new (w.alloc (Obj.cells #[Value.slice none 0 0] 22)) 41 #[.int .i64 0] (0,0)).gr hG0
     simpa only [World.size_alloc] using this⟩
    exact h0.gr (Gr.tr (Gr.al (Gr.al (Gr.refl w0) _) _) hG1)
   have hp1:Bk w1 w0.heap.size 22 #[.slice none 0 0] (0,0):=((Bk.new w0 _ _ _).al _).gr hG1
   have hp2:Bk w1 (w0.heap.size+1) 4 #[.bool false] (0,0):=by
    have:=(Bk.new (w0.alloc (Obj.cells #[Value.slice none 0 0] 22)) 4 #[.bool false] (0,0)).gr hG1
    simpa only [World.size_alloc] using this
   have hGw1:Gr w w1:=Gr.tr (Gr.tr (Gr.al (Gr.al (Gr.refl w) _) _) hG0) (Gr.tr (Gr.al (Gr.al (Gr.refl w0) _) _) hG1)
   have HMA:=hid (fun (x:World) (g:Gr w x)=>HM.out.gr g)
   have hgp:w.heap.size+1 < w0.heap.size:=by have:=hG0.size;simp only [World.size_alloc] at this;omega
   simp only [World.size_alloc] at hb1
   have hpb:w0.heap.size+1 < bi:=by omega
   clear hG0 hG1 hb1 HS HW HM
   have HG1:=hid hGw1
   clear hGw1
   have hwg:w.heap.size≤w.heap.size:=Nat.le_refl _
   obtain ⟨g,hg⟩:∃g,g=w.heap.size:=⟨_,rfl⟩
   have HG:=hid (show w.heap.size≤g from Nat.le_of_eq hg.symm)
   rw [←hg] at hs1 hgp ⊢
   clear hg hwg
   generalize w0.heap.size=p at *
   have HS1:=hid hs1
   have HP1:=hid hp1
   have HP2:=hid hp2
   clear hs1 hp1 hp2
   refine wp_rangeFunc_it (gf:=254) rfl (enters_of Tryz.func254 (by kernel_rfl) rfl) hit (fun _=>rfl) ?hw0 (SInv p bi) (SInx g p bi) ?hI ?hIx ?hIL ?hIxL ?hI0 ?h0 ?a1 ?hassign ?hbody ?hdone ?hstop
   case hassign=>
    intro l x W K hK
    gi_wp2_with (first | (refine wpR_region (by kernel_rfl) (fun _ _ h=>h) ?_) | go_step)
    exact hK
   case hw0=>intro k hk;cases hk;exact ⟨by omega,rfl⟩
   case hI=>
    rintro W1 pre A B _ hsz ⟨L,h1,h2⟩ hgr
    exact ⟨L,h1,h2.by hgr (.inl rfl) hpb (by omega)⟩
   case hIx=>
    rintro W1 c pre A B _ hsz ⟨hc,h1,h2⟩ hgr
    exact ⟨hc,h1,h2.by hgr (.inl rfl) hgp hpb (by omega)⟩
   case hIL=>
    rintro W1 pre A k o _ hsz ⟨L,h1,h2⟩ rfl
    exact ⟨L,h1,h2.by (grownBy_putObj' A _ o) (.inr (by omega)) hpb (by omega)⟩
   case hIxL=>
    rintro W1 c pre A k o _ hsz ⟨hc,h1,h2⟩ rfl
    exact ⟨hc,h1,h2.by (grownBy_putObj' A _ o) (.inr (by omega)) hgp hpb (by omega)⟩
   case hI0=>
    rintro W1 pre A hgr hsz ⟨L,h1,h2⟩
    refine ⟨(h2.kr.block (bi+1) (by omega) (by simp;omega)).trans (hgr.block _ (by omega)),(h2.kr.block (bi+2) (by omega) (by simp;omega)).trans (hgr.block _ (by omega))⟩
   case h0=>
    intro W1 hgr hsz
    exact ⟨[],rfl,⟨Kr.refl (Nat.le_refl _),⟨_,HP1.out.gr hgr,Own.nil _ _ _ _⟩,HP2.out.gr hgr⟩⟩
   case hbody=>
    rintro W1 l pre x post A hgr hsz hxs ⟨L,hrun,hsi⟩ hAs
    have hxm:x∈splitC 44 r:=by rw [hxs];simp
    have hxl:=splitC_mem 44 r x hxm
    have HSI:=hid hsi
    have HXS:=hid hxs
    have HRUN:=hid hrun
    have HSN:=hid (runS_snoc x hrun)
    have hN:=hAs
    have htl:=trim_le x
    have hGA:Gr w A:=hsi.kr.old (Gr.tr HG1.out hgr) (by
     intro k hk
     have e:=HG.out
     have:=HG1.out.size
     simp only [List.mem_cons,List.not_mem_nil,or_false] at hk
     omega) (by have:=HG1.out.size;omega)
    have HGA:=hid hGA
    have hs0A:=hsi.res (HS1.out.gr hgr) hgp hpb (by omega)
    have HS0A:=hid hs0A
    clear hsi hxs hrun hs0A hGA
    gi_upto_region 8 with (first | (go_at_call 138;refine (trim_any x _ (by omega)).mono ?_;rintro e w2 ⟨rfl,hG2⟩) | (refine wpR_region (by kernel_rfl) (fun _ _ h=>h) ?_) | go_guarded | go_step | go_upon)
    have HS2:=hid (HSI.out.gr hG2)
    have HS02:=hid (HS0A.out.gr hG2)
    have HK2:=hid (Kr.gr (Kr.refl hN:Kr [p,p+1] W1.heap.size A A) hG2)
    have HG2:=hid (Gr.tr HGA.out hG2)
    clear hG2 HS0A HSI
    by_cases ht:trim x=[]
    ·have k1:(trim x).isEmpty=true:=by rw [ht];rfl
     have HSN:=hid (show specsP [] (pre++[x])=some L from by rw [HSN.out,addS_nil ht])
     clear ht
     gi_wp2_with (first | (refine wpR_region (by kernel_rfl) (fun _ _ h=>h) ?_) | go_guarded | go_step | go_upon)
     exact ⟨skeep HK2.out hsz (by omega) (by simp only [List.mem_cons,List.not_mem_nil,or_false];omega),L,HSN.out,HS2.out⟩
    ·have k1:(trim x).isEmpty=false:=trim_isEmpty_no' ht
     have HTP:=hid (specItem_any (trim x) w2 (HMA.out w2 HG2.out) (by omega))
     cases hp:itemL (trim x) with
     | none=>
       rw [hp] at HTP
       have HSN:=hid (show specsP [] (pre++[x])=none from by rw [HSN.out,addS_none ht hp])
       clear ht hp
       gi_upto_region 11 with (first | (go_at_call 139;refine HTP.out.mono ?_;rintro e w3 ⟨f,t,rfl,_,hG3⟩;simp only [Option.isSome_none]) | (refine wpR_region (by kernel_rfl) (fun _ _ h=>h) ?_) | go_guarded | go_step | go_upon)
       have hga:=Gr.tr hG3 (Gr.al (Gr.refl w3) (Obj.cells #[.int .i64 f,.int .i64 t] 96))
       have HS4:=hid (HS2.out.gr hga)
       have HS04:=hid (HS02.out.gr hga)
       have HK4:=hid (HK2.out.gr hga)
       generalize w3.alloc (Obj.cells #[.int .i64 f,.int .i64 t] 96)=w4 at *
       have z0:w4.cell? ⟨g,0,none⟩=some (.slice none 0 0):=HS04.out.r0.cell 0
       have z1:w4.cell? ⟨g+1,0,none⟩=some (.int .i64 0):=HS04.out.r1.cell 0
       have f0:=HS04.out.r0.free 0 (.inr (Nat.le_refl _))
       have f1:=HS04.out.r1.free 0 (.inr (Nat.le_refl _))
       clear hga hG3
       gi_wp2_with (first | (refine wpR_region (by kernel_rfl) (fun _ _ h=>h) ?_) | go_guarded | go_step | go_upon)
       have hk5:Kr [g,g+1,p,p+1] W1.heap.size A (stopS w4 g 2):=((HK4.out.more (by simp)).set (.inl (by simp)) _ _).set (.inl (by simp)) _ _
       exact ⟨skeep hk5 hsz (by omega) (by simp only [List.mem_cons,List.not_mem_nil,or_false];omega),rfl,HSN.out,SX.of HS4.out HS04.out⟩
     | some pr=>
       obtain ⟨pf,pt⟩:=pr
       rw [hp] at HTP
       have HSN:=hid (show specsP [] (pre++[x])=some (L++[(pf,pt)]) from by rw [HSN.out,addS_some ht hp])
       clear ht hp
       gi_upto_region 12 with (first | (go_at_call 139;refine HTP.out.mono ?_;rintro e w3 ⟨f,t,rfl,hft,hG3⟩;obtain ⟨rfl,rfl⟩:=Prod.mk.inj (hft _ rfl);clear hft;simp only [Option.isSome_some]) | (refine wpR_region (by kernel_rfl) (fun _ _ h=>h) ?_) | go_guarded | go_step | go_upon)
       have hga:=Gr.tr hG3 (Gr.al (Gr.refl w3) (Obj.cells #[.int .i64 pf,.int .i64 pt] 96))
       have hb7:=Bk.new w3 96 #[.int .i64 pf,.int .i64 pt] (0,0)
       have HS4:=hid (HS2.out.gr hga)
       have HK4:=hid (HK2.out.gr hga)
       generalize w3.alloc (Obj.cells #[.int .i64 pf,.int .i64 pt] 96)=w4 at *
       generalize w3.heap.size=g7 at *
       clear hga hG3
       obtain ⟨v,hb2',hown⟩:=HS4.out.row
       obtain ⟨Aa,ca,rfl⟩:=hown.form
       have q4:w4.cell? ⟨p,0,none⟩=some (.slice Aa (L.take 64).length ca):=hb2'.cell 0
       have y0:w4.cell? ⟨g7,0,none⟩=some (.int .i64 pf):=hb7.cell 0
       have y1:w4.cell? ⟨g7,1,none⟩=some (.int .i64 pt):=hb7.cell 1
       have HO:=hid hown
       have HB2:=hid hb2'
       have htk:(L.take 64).length=min 64 L.length:=List.length_take
       clear hown hb2' hb7
       by_cases h64:64≤L.length
       ·rw [show (L.take 64).length=64 from by omega] at q4
        have q5:w4.cell? ⟨p+1,0,none⟩=some (.bool (decide (64 < L.length))):=HS4.out.many.cell 0
        have f5:=HS4.out.many.free 0 (.inr (Nat.le_refl _))
        clear htk
        gi_wp2_with (first | (refine wpR_region (by kernel_rfl) (fun _ _ h=>h) ?_) | go_guarded | go_step | go_upon)
        have hk5:Kr [p,p+1] W1.heap.size A (w4.setCell ⟨p+1,0,none⟩ (.bool true)):=HK4.out.set (.inl (by simp)) _ _
        exact ⟨skeep hk5 hsz (by omega) (by simp only [List.mem_cons,List.not_mem_nil,or_false];omega),_,HSN.out,HS4.out.more (pf,pt) hpb (by omega) h64⟩
       ·have e1:L.take 64=L:=List.take_of_length_le (by omega)
        rw [e1] at q4 HO HB2
        have k2:((L.length:Int)==64)=false:=by simp;omega
        have hl64:L.length < 64:=by omega
        clear htk e1
        gi_wp2_with (first | (refine wpR_region (by kernel_rfl) (fun _ _ h=>h) ?_) | (at_builtin;refine wpList_app1x (W0:=W1) (n:=L.length) (xs:=specCs L) (v:=.slice Aa L.length ca) elemSpec rfl _ _ rfl rfl rfl (Nat.le_trans hN HK4.out.size) HO.out rfl (one_spec _ _) (by omega) (by omega) ?_;intro v' w6 hown' happ;obtain ⟨A',c',rfl⟩:=hown'.form;have hb6:=sbk_by HB2.out happ.grown (own_ne HO.out (by omega));have q6:w6.cell? ⟨p,0,none⟩=some (.slice Aa L.length ca):=hb6.cell 0;have f6:=hb6.free 0 (.inr (Nat.le_refl _));have HPA:=hid (HS4.out.next (x:=(pf,pt)) hpb (by omega) (by omega) HB2.out HO.out hown' happ);have HKA:=hid ((HK4.out.by happ.grown (fun k hk=>.inr (World.ownsRow.lt HO.out k hk).1)).set (g:=p) (.inl (by simp)) 0 (.slice A' (L.length+1) c'));clear hb6 hown' happ) | go_guarded | go_step | go_upon)
        exact ⟨skeep HKA.out hsz (by omega) (by simp only [List.mem_cons,List.not_mem_nil,or_false];omega),_,HSN.out,HPA.out⟩
   case hstop=>
    rintro W1 A c pre x post hgr hsz hxs ⟨rfl,hrun,hpx⟩ hD
    have HN:=hid (show R=([],2) from by
     rw [HP0.out,hxs,show pre++x::post=(pre++[x])++post from by simp,runS_stop hrun])
    have hGw:Gr w A:=by
     refine hpx.kr.old (Gr.tr HG1.out hgr) ?_ ?_
     ·intro k hk
      simp only [List.mem_cons,List.not_mem_nil,or_false] at hk
      have e:=HG.out
      have:=HG1.out.size
      omega
     ·have:=HG1.out.size;omega
    have hDw:w.heap.size≤w1.heap.size:=HG1.out.size
    have hgA:g+1 < w1.heap.size:=by omega
    have z0:(A.putObj w1.heap.size (.deferred none)).cell? ⟨g,0,none⟩=some (.slice none 0 0):=(sput_cell (by omega)).trans (hpx.r0.cell 0)
    have z1:(A.putObj w1.heap.size (.deferred none)).cell? ⟨g+1,0,none⟩=some (.int .i64 2):=(sput_cell (by omega)).trans (hpx.r1.cell 0)
    go_wp2_with fail
    refine bodyM_mark (v:=.tuple #[.slice none 0 0,.int .i64 2]) hD rfl (by simp [results,Tryz.results69,go_sem,z0,z1]) ?_
    rw [HN.out]
    exact ⟨_,rfl,Specs.nil _,sgr_put hGw hDw _,fresh_nil _⟩
   case hdone=>
    rintro W1 A hgr hsz ⟨L,hrun,hsi⟩ hD
    have HGw:=hid (show Gr w A from by
     refine hsi.kr.old (Gr.tr HG1.out hgr) ?_ ?_
     ·intro k hk
      simp only [List.mem_cons,List.not_mem_nil,or_false] at hk
      have e:=HG.out
      have:=HG1.out.size
      omega
     ·have:=HG1.out.size;omega)
    have HDw:=hid (show w.heap.size≤w1.heap.size from HG1.out.size)
    have hgA:g+1 < w1.heap.size:=by omega
    have HS0:=hid (hsi.res (HS1.out.gr hgr) hgp hpb (by omega))
    have HD:=hid hD
    have HR:=hid (show R=if L=[] then ([],2) else if 64 < L.length then ([],4) else (L,0) from by rw [HP0.out,hrun])
    obtain ⟨va,hb2',hown⟩:=hsi.row
    obtain ⟨Aa,ca,rfl⟩:=hown.form
    have q4:A.cell? ⟨p,0,none⟩=some (.slice Aa (L.take 64).length ca):=hb2'.cell 0
    have q5:A.cell? ⟨p+1,0,none⟩=some (.bool (decide (64 < L.length))):=hsi.many.cell 0
    have HO:=hid hown
    have z0:A.cell? ⟨g,0,none⟩=some (.slice none 0 0):=HS0.out.r0.cell 0
    have z1:A.cell? ⟨g+1,0,none⟩=some (.int .i64 0):=HS0.out.r1.cell 0
    have f0:=HS0.out.r0.free 0 (.inr (Nat.le_refl _))
    have f1:=HS0.out.r1.free 0 (.inr (Nat.le_refl _))
    have htk:(L.take 64).length=min 64 L.length:=List.length_take
    have HDA:=hid (show w1.heap.size < A.heap.size from (Array.getElem?_eq_some_iff.1 hD).1)
    have hW1:w1.heap.size < W1.heap.size:=by omega
    have HW1g:=hid (show g+1 < W1.heap.size from by omega)
    clear hsi hD hrun hown hb2' hit HP0
    have FIN:=hid (fun (e:Int)=>show (stopS A g e).heap[w1.heap.size]?=some (.deferred (some []))∧((stopS A g e).putObj w1.heap.size (.deferred none)).cell? ⟨g,0,none⟩=some (.slice none 0 0)∧((stopS A g e).putObj w1.heap.size (.deferred none)).cell? ⟨g+1,0,none⟩=some (.int .i64 e)∧Gr w ((stopS A g e).putObj w1.heap.size (.deferred none)) from by
     unfold stopS
     refine ⟨(stwo_heap hgA).trans HD.out,?_,?_,?_⟩
     ·exact (sput_cell (by omega)).trans (((HS0.out.r0.set 0 (.slice none 0 0)).far (p:=⟨g+1,0,none⟩) (by simp) (.int .i64 e)).cell 0)
     ·exact (sput_cell (by omega)).trans (((HS0.out.r1.far (p:=⟨g,0,none⟩) (by simp) (.slice none 0 0)).set 0 (.int .i64 e)).cell 0)
     ·have e:=HG.out
      exact sgr_put (Gr.st (Gr.st HGw.out (by show _≤g;omega) _) (by show _≤g+1;omega) _) HDw.out _)
    by_cases hl0:L=[]
    ·have HN:=hid (show R=([],2) from by rw [HR.out,if_pos hl0])
     rw [show (L.take 64).length=0 from by rw [hl0];rfl] at q4
     clear hl0 htk
     go_wp2_with fail
     obtain ⟨h1,h2,h3,h4⟩:=FIN.out 2
     refine bodyM_mark (v:=.tuple #[.slice none 0 0,.int .i64 2]) h1 rfl (by unfold stopS at h2 h3;simp [results,Tryz.results69,go_sem,h2,h3]) ?_
     rw [HN.out]
     exact ⟨_,rfl,Specs.nil _,h4,fresh_nil _⟩
    ·have hlp:=List.length_pos_iff.2 hl0
     by_cases h64:64 < L.length
     ·have HN:=hid (show R=([],4) from by rw [HR.out,if_neg hl0,if_pos h64])
      rw [decide_eq_true h64] at q5
      rw [show (L.take 64).length=64 from by omega] at q4
      clear hl0 h64 htk
      go_wp2_with fail
      obtain ⟨h1,h2,h3,h4⟩:=FIN.out 4
      refine bodyM_mark (v:=.tuple #[.slice none 0 0,.int .i64 4]) h1 rfl (by unfold stopS at h2 h3;simp [results,Tryz.results69,go_sem,h2,h3]) ?_
      rw [HN.out]
      exact ⟨_,rfl,Specs.nil _,h4,fresh_nil _⟩
     ·have HN:=hid (show R=(L,0) from by rw [HR.out,if_neg hl0,if_neg h64])
      have e1:L.take 64=L:=List.take_of_length_le (by omega)
      rw [e1] at q4 HO
      have k0:((L.length:Int)==0)=false:=by simp;omega
      rw [decide_eq_false h64] at q5
      clear hl0 h64 htk e1
      go_wp2_with fail
      have h1:((A.setCell ⟨g,0,none⟩ (.slice Aa L.length ca)).setCell ⟨g+1,0,none⟩ (.int .i64 0)).heap[w1.heap.size]?=some (.deferred (some [])):=(stwo_heap hgA).trans HD.out
      have h2:=(sput_cell (D:=w1.heap.size) (o:=.deferred none) (show g≠w1.heap.size by omega)).trans (((HS0.out.r0.set 0 (.slice Aa L.length ca)).far (p:=⟨g+1,0,none⟩) (by simp) (.int .i64 0)).cell 0)
      have h3:=(sput_cell (D:=w1.heap.size) (o:=.deferred none) (show g+1≠w1.heap.size by omega)).trans (((HS0.out.r1.far (p:=⟨g,0,none⟩) (by simp) (.slice Aa L.length ca)).set 0 (.int .i64 0)).cell 0)
      refine bodyM_mark (v:=.tuple #[.slice Aa L.length ca,.int .i64 0]) h1 rfl (by simp [results,Tryz.results69,go_sem,h2,h3]) ?_
      have e:=HG.out
      have hw1:=HW1g.out
      have o1:=own_kr HO.out (by_st ((Gr.refl A).by (some g)) 0 (.slice Aa L.length ca)) (.inr (own_ne HO.out (by omega)))
      have o2:=own_kr o1 (by_st ((Gr.refl _).by (some (g+1))) 0 (.int .i64 0)) (.inr (own_ne HO.out (by omega)))
      have o3:=own_kr o2 (grownBy_putObj' _ w1.heap.size (.deferred none)) (.inr (own_ne HO.out (by omega)))
      rw [HN.out]
      exact ⟨_,rfl,own_specs o3,sgr_put (Gr.st (Gr.st HGw.out (by show _≤g;omega) _) (by show _≤g+1;omega) _) HDw.out _,Fresh.tr (Gr.tr HG1.out hgr) (fresh_own HO.out)⟩
  ·have HN:=hid (specP_short (.inr hb))
   have hb':=specP_six.1 hb
   clear hb hl6 hm
   cases hw:(low [a,b,c,d,e]==[98,121,116,101,115]) with
   | false=>
     rw [hw] at HW
     clear hw hb'
     (refine calls_of_wp_marks Tryz.func69 rfl ?_;simp only [Tryz.ntmps69,List.size_toArray,List.length_cons,List.length_nil,Nat.reduceAdd,Nat.reduceSub,Array.replicate_succ,Array.replicate_zero,List.push_toArray,List.append_toArray,List.nil_append,List.cons_append])
     go_upto_region 2 with (go_at_call 136;refine (HW.out _).mono ?_;rintro e w0 ⟨rfl,hG0⟩)
     have hs0:S0 w.heap.size w0:=⟨((Bk.new w 22 #[.slice none 0 0] (0,0)).al _).gr hG0,by
      have:=(Bk.new (w.alloc (Obj.cells #[Value.slice none 0 0] 22)) 41 #[.int .i64 0] (0,0)).gr hG0
      simpa only [World.size_alloc] using this⟩
     have hGw:Gr w w0:=Gr.tr (Gr.al (Gr.al (Gr.refl w) _) _) hG0
     have hgw:w.heap.size+1 < w0.heap.size:=by have:=hG0.size;simp only [World.size_alloc] at this;omega
     clear hG0
     obtain ⟨g,hg⟩:∃g,g=w.heap.size:=⟨_,rfl⟩
     have HG:=hid (show w.heap.size≤g from Nat.le_of_eq hg.symm)
     rw [←hg] at hs0 hgw ⊢
     clear hg
     have z0:w0.cell? ⟨g,0,none⟩=some (.slice none 0 0):=hs0.r0.cell 0
     have z1:w0.cell? ⟨g+1,0,none⟩=some (.int .i64 0):=hs0.r1.cell 0
     have f0:=hs0.r0.free 0 (.inr (Nat.le_refl _))
     have f1:=hs0.r1.free 0 (.inr (Nat.le_refl _))
     have HS0:=hid hs0
     clear hs0
     go_wp2_with fail
     have h2:=((HS0.out.r0.set 0 (.slice none 0 0)).far (p:=⟨g+1,0,none⟩) (by simp) (.int .i64 2)).cell 0
     have h3:=((HS0.out.r1.far (p:=⟨g,0,none⟩) (by simp) (.slice none 0 0)).set 0 (.int .i64 2)).cell 0
     refine bodyM_ret (v:=.tuple #[.slice none 0 0,.int .i64 2]) (by simp [results,Tryz.results69,go_sem,h2,h3]) rfl ?_
     rw [HN.out]
     have e:=HG.out
     exact ⟨_,rfl,Specs.nil _,Gr.st (Gr.st hGw (by show _≤g;omega) _) (by show _≤g+1;omega) _,fresh_nil _⟩
   | true=>
     rw [hw] at HW
     have hx:((x5.toNat:Int) != 61)=true:=by
      rcases hb' with h | h
      ·rw [hw] at h;cases h
      ·have:x5.toNat≠61:=fun hh=>h (UInt8.toNat_inj.1 hh)
       simp;omega
     clear hw hb'
     (refine calls_of_wp_marks Tryz.func69 rfl ?_;simp only [Tryz.ntmps69,List.size_toArray,List.length_cons,List.length_nil,Nat.reduceAdd,Nat.reduceSub,Array.replicate_succ,Array.replicate_zero,List.push_toArray,List.append_toArray,List.nil_append,List.cons_append])
     go_upto_region 2 with (go_at_call 136;refine (HW.out _).mono ?_;rintro e w0 ⟨rfl,hG0⟩)
     have hs0:S0 w.heap.size w0:=⟨((Bk.new w 22 #[.slice none 0 0] (0,0)).al _).gr hG0,by
      have:=(Bk.new (w.alloc (Obj.cells #[Value.slice none 0 0] 22)) 41 #[.int .i64 0] (0,0)).gr hG0
      simpa only [World.size_alloc] using this⟩
     have hGw:Gr w w0:=Gr.tr (Gr.al (Gr.al (Gr.refl w) _) _) hG0
     have hgw:w.heap.size+1 < w0.heap.size:=by have:=hG0.size;simp only [World.size_alloc] at this;omega
     clear hG0
     obtain ⟨g,hg⟩:∃g,g=w.heap.size:=⟨_,rfl⟩
     have HG:=hid (show w.heap.size≤g from Nat.le_of_eq hg.symm)
     rw [←hg] at hs0 hgw ⊢
     clear hg
     have z0:w0.cell? ⟨g,0,none⟩=some (.slice none 0 0):=hs0.r0.cell 0
     have z1:w0.cell? ⟨g+1,0,none⟩=some (.int .i64 0):=hs0.r1.cell 0
     have f0:=hs0.r0.free 0 (.inr (Nat.le_refl _))
     have f1:=hs0.r1.free 0 (.inr (Nat.le_refl _))
     have HS0:=hid hs0
     clear hs0
     go_wp2_with fail
     have h2:=((HS0.out.r0.set 0 (.slice none 0 0)).far (p:=⟨g+1,0,none⟩) (by simp) (.int .i64 2)).cell 0
     have h3:=((HS0.out.r1.far (p:=⟨g,0,none⟩) (by simp) (.slice none 0 0)).set 0 (.int .i64 2)).cell 0
     refine bodyM_ret (v:=.tuple #[.slice none 0 0,.int .i64 2]) (by simp [results,Tryz.results69,go_sem,h2,h3]) rfl ?_
     rw [HN.out]
     have e:=HG.out
     exact ⟨_,rfl,Specs.nil _,Gr.st (Gr.st hGw (by show _≤g;omega) _) (by show _≤g+1;omega) _,fresh_nil _⟩
end Go.Proofs.YtflepnkpihfidaaGreatDoor
