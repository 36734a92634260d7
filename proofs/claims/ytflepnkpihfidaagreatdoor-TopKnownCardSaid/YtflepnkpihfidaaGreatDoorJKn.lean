/- Parts. No conditions but those that each theorem names. -/
import Derived.Test.YtflepnkpihfidaaGreatDoorJGateO
import Derived.Test.YtflepnkpihfidaaGreatDoorJClientL
import Derived.Test.YtflepnkpihfidaaGreatDoorJTopL
import Derived.Test.YtflepnkpihfidaaGreatDoorJMulti
import Derived.Test.YtflepnkpihfidaaGreatDoorJChunk
import Derived.Test.YtflepnkpihfidaaGreatDoorJTopA
import Derived.Test.YtflepnkpihfidaaGreatDoorJField2
import Derived.Test.YtflepnkpihfidaaGreatDoorJTopC
set_option linter.unusedVariables false
set_option linter.unusedSimpArgs false
namespace Go.Proofs.YtflepnkpihfidaaGreatDoor
open Lib (hid)
structure Fit (v:List UInt8):Prop where
 vis:∀c∈v,visC c=true
 hd:∃c t,v=c::t∧blk c=false
 ls:∃t d,v=t++[d]∧blk d=false
theorem fit_all {v:List UInt8} (h:v≠[]) (hv:∀c∈v,visC c=true∧blk c=false):Fit v:=by
 refine ⟨fun c hc=>(hv c hc).1,?_,?_⟩
 ·cases v with
  | nil=>exact absurd rfl h
  | cons c t=>exact ⟨c,t,rfl,(hv c (by simp)).2⟩
 ·rcases List.eq_nil_or_concat v with e | ⟨t,d,e⟩
  ·exact absurd e h
  ·rw [List.concat_eq_append] at e
   exact ⟨t,d,e,(hv d (by rw [e];simp)).2⟩
theorem Fit.app {a b:List UInt8} (ha:Fit a) (hb:Fit b) (m:List UInt8) (hm:∀c∈m,visC c=true):Fit (a++(m++b)):=by
 obtain ⟨c,t,e,h1⟩:=ha.hd
 obtain ⟨t2,d,e2,h2⟩:=hb.ls
 refine ⟨fun x hx=>?_,⟨c,t++(m++b),by rw [e];rfl,h1⟩,⟨a++(m++t2),d,by rw [e2];simp,h2⟩⟩
 rcases List.mem_append.1 hx with hx | hx
 ·exact ha.vis x hx
 ·rcases List.mem_append.1 hx with hx | hx
  ·exact hm x hx
  ·exact hb.vis x hx
theorem Fit.trim {v:List UInt8} (h:Fit v):Go.Proofs.YtflepnkpihfidaaGreatDoor.trim v=v:=by
 obtain ⟨c,t,e,h1⟩:=h.hd
 obtain ⟨t2,d,e2,h2⟩:=h.ls
 have hr:trimR v=v:=by
  show (trimL v.reverse).reverse=v
  rw [e2,List.reverse_append]
  show (trimL (d::t2.reverse)).reverse=_
  rw [trimL_no h2];simp
 show trimL (trimR v)=v
 rw [hr,e,trimL_no h1]
theorem Fit.right {n v:List UInt8} (h:Fit v) (hn:token n=true) (hl:n.length≤200) (h2:v.length≤8192):Go.Proofs.YtflepnkpihfidaaGreatDoor.right (n,v)=true:=by
 rw [right_rest hn hl h2 (by rw [h.trim];exact beq_self_eq_true _)]
 exact List.all_eq_true.2 h.vis
theorem tag_vis {c:UInt8} (h:tagC c=true):visC c=true∧blk c=false:=by
 have h:=tagC_iff.1 h
 constructor
 ·unfold visC
  rw [decide_eq_true (show 32≤c.toNat by omega),decide_eq_true (show c.toNat≤126 by omega)];rfl
 ·unfold blk
  have e1:(32:UInt8).toNat=32:=rfl
  have e2:(9:UInt8).toNat=9:=rfl
  simp only [List.contains_cons,List.contains_nil,Bool.or_false,Bool.or_eq_false_iff,beq_eq_false_iff_ne,ne_eq,←UInt8.toNat_inj]
  omega
theorem tagTxt_fit {t:TagT} (h:tagB t.1=true):Fit (tagTxt t):=by
 unfold tagTxt
 rw [if_pos h]
 have hc:=(tagB_iff.1 h).2.2
 refine fit_all (by simp) fun c hm=>?_
 simp only [List.mem_append,List.mem_cons] at hm
 rcases hm with hm | rfl | hm | rfl | hm
 ·split at hm
  ·simp only [List.mem_cons,List.not_mem_nil,or_false] at hm
   rcases hm with rfl | rfl <;> decide
  ·cases hm
 ·decide
 ·exact tag_vis (hc c hm)
 ·decide
 ·cases hm
theorem joinT_fit:∀(l:List TagT),l≠[]→(∀t∈l,tagB t.1=true)→Fit (joinT l)
 | [],h,_=>absurd rfl h
 | [t],_,h=>tagTxt_fit (h t (by simp))
 | t::u::r,_,h=>by
   have ih:=joinT_fit (u::r) (by simp) (fun x hx=>h x (List.mem_cons_of_mem _ hx))
   exact (tagTxt_fit (h t (by simp))).app ih [44,32] (by decide)
theorem textsT_fit {l:List TagT} {any:Bool} (h:listB l any=true) (hn:any=true∨l≠[]):Fit (textsT l any):=by
 unfold listB at h
 simp only [Bool.and_eq_true,decide_eq_true_eq] at h
 unfold textsT
 cases any with
 | true=>rw [if_pos rfl];exact fit_all (by simp) (by decide)
 | false=>
   rw [if_neg (by simp),if_pos h.2]
   exact joinT_fit l (by rcases hn with h | h;cases h;exact h) (fun t ht=>List.all_eq_true.1 h.2 t ht)
theorem dig1_vis (n:Nat):visC (dig1 n)=true:=by
 have h:=dig1_val n
 unfold visC
 rw [decide_eq_true (show 32≤(dig1 n).toNat by omega),decide_eq_true (show (dig1 n).toNat≤126 by omega)];rfl
theorem dateT_fit (t:Nat):Fit (dateT t):=by
 have h:=day_is (t / 86400)
 rw [dateT_eq]
 have hw:(t / 86400+4) % 7 < 7:=Nat.mod_lt _ (by omega)
 have h1:=h.m1;have h2:=h.m12
 generalize (t / 86400+4) % 7=w at *
 generalize mnN (t / 86400)=m at *
 generalize yrN (t / 86400)=y at *
 generalize dyN (t / 86400)=d at *
 generalize t % 86400=s at *
 have k1:∀i:Fin 7,(wkN i.1).all (fun c=>visC c&&!blk c)=true:=by decide
 have k2:∀i:Fin 12,(moN (i.1+1)).all visC=true:=by decide
 have k1:=List.all_eq_true.1 (k1 ⟨w,hw⟩)
 have k2:=List.all_eq_true.1 (k2 ⟨m-1,by omega⟩)
 simp only [show m-1+1=m from by omega] at k2
 simp only [Bool.and_eq_true,Bool.not_eq_true'] at k1
 obtain ⟨a,b,c,e⟩:=wk_form w hw
 refine ⟨fun x hx=>?_,?_,?_⟩
 ·unfold dayT two four at hx
  simp only [List.mem_append,List.mem_cons,List.not_mem_nil,or_false] at hx
  have dv:=dig1_vis
  rcases hx with (((((((((((((hx | hx) | hx) | hx) | hx) | hx) | hx) | hx) | hx) | hx) | hx) | hx) | hx) | hx)
  ·exact (k1 x hx).1
  ·rcases hx with rfl | rfl <;> decide
  ·rcases hx with rfl | rfl <;> exact dv _
  ·subst hx;decide
  ·exact k2 x hx
  ·subst hx;decide
  ·rcases hx with rfl | rfl | rfl | rfl <;> exact dv _
  ·subst hx;decide
  ·rcases hx with rfl | rfl <;> exact dv _
  ·subst hx;decide
  ·rcases hx with rfl | rfl <;> exact dv _
  ·subst hx;decide
  ·rcases hx with rfl | rfl <;> exact dv _
  ·rcases hx with rfl | rfl | rfl | rfl <;> decide
 ·exact ⟨a,(dayT w y m d s).tail,by unfold dayT;rw [e];rfl,(k1 a (by rw [e];simp)).2⟩
 ·refine ⟨wkN w++[44,32]++two d++[32]++moN m++[32]++four y++[32]++two (s / 3600)++[58]++two (s / 60 % 60)++[58]++two (s % 60)++[32,71,77],84,?_,by decide⟩
  unfold dayT
  simp only [List.append_assoc,List.cons_append,List.nil_append]
theorem oneS_vis {s:SpecT} (h:specB s=true):∀c∈oneS s,visC c=true:=by
 have hl:=specB_lo h
 obtain ⟨a1,_⟩:=endTx_form s.1 hl.1.2 hl.1.1
 obtain ⟨b1,_⟩:=endTx_form s.2 hl.2.2 hl.2.1
 intro c hc
 unfold oneS at hc
 rcases List.mem_append.1 hc with hc | hc
 ·exact dig_vis (a1 c hc)
 ·rcases List.mem_cons.1 hc with rfl | hc
  ·decide
  ·exact dig_vis (b1 c hc)
theorem joinS_all:∀(l:List SpecT),(∀t∈l,specB t=true)→∀c∈joinS l,visC c=true∧blk c=false
 | [],_,c,hc=>by cases hc
 | [t],h,c,hc=>⟨oneS_vis (h t (by simp)) c hc,(oneS_com (h t (by simp)) c hc).2⟩
 | t::u::r,h,c,hc=>by
   have ht:=h t (by simp)
   rw [joinS] at hc
   rcases List.mem_append.1 hc with hc | hc
   ·exact ⟨oneS_vis ht c hc,(oneS_com ht c hc).2⟩
   ·rcases List.mem_cons.1 hc with rfl | hc
    ·decide
    ·exact joinS_all (u::r) (fun x hx=>h x (List.mem_cons_of_mem _ hx)) c hc
theorem specTx_fit {l:List SpecT} (h:l.all specB=true):Fit (specTx l):=by
 refine fit_all (by unfold specTx bytesEq;simp) fun c hc=>?_
 unfold specTx at hc
 rcases List.mem_append.1 hc with hc | hc
 ·exact (show ∀c∈bytesEq,visC c=true∧blk c=false from by decide) c hc
 ·exact joinS_all l (fun t ht=>List.all_eq_true.1 h t ht) c hc
theorem reqF_right {q:ReqT} (h:reqB q=true):(reqF q).all right=true:=by
 obtain ⟨h1,h2,h3,h4⟩:=reqB_iff.1 h
 have hs:=specTx_len h4 h2
 unfold condB at h3
 simp only [Bool.and_eq_true] at h3
 obtain ⟨b1,b2,b3,b4,b5⟩:=h3
 have t1:=textsT_len (any:=q.2.2.2.am) (listB_len b1)
 have t2:=textsT_len (any:=q.2.2.2.an) (listB_len b2)
 have t3:=tagTxt_len q.2.2.2.rg
 have d1:=dateT_len q.2.2.2.un.toNat
 have d2:=dateT_len q.2.2.2.si.toNat
 have one:∀{c:Prop} [Decidable c] (n v:List UInt8),(c→right (n,v)=true)→(if c then [(n,v)] else []).all right=true:=fun n v hh=>by
  split
  ·rename_i hc;simp [hh hc]
  ·rfl
 unfold reqF condF
 simp only [List.all_append,Bool.and_eq_true]
 refine ⟨?_,?_,?_,?_,?_,?_⟩
 ·unfold fldsS
  split
  ·rfl
  ·simp only [List.all_cons,List.all_nil,Bool.and_true]
   exact (specTx_fit h4).right (by decide) (by decide) (by omega)
 ·exact one _ _ fun hc=>(textsT_fit b1 hc).right (by decide) (by decide) (by omega)
 ·exact one _ _ fun _=>(dateT_fit _).right (by decide) (by decide) (by omega)
 ·exact one _ _ fun hc=>(textsT_fit b2 hc).right (by decide) (by decide) (by omega)
 ·exact one _ _ fun _=>(dateT_fit _).right (by decide) (by decide) (by omega)
 ·unfold fldsR
  split
  ·rfl
  ·simp only [List.all_cons,List.all_nil,Bool.and_true]
   by_cases hb:tagB q.2.2.2.rg.1=true
   ·exact (tagTxt_fit hb).right (by decide) (by decide) (by omega)
   ·unfold tagTxt;rw [if_neg hb];decide
theorem putQ_good {q:ReqT} (h:reqB q=true):(putQ q).2=0:=by
 obtain ⟨h1,h2,h3,h4⟩:=reqB_iff.1 h
 obtain ⟨z1,z2⟩:=reqF_size h
 have hput:(put (reqF q)).2=0:=by
  unfold put
  rw [reqF_right h,if_pos rfl,if_neg]
  have hbl:(block (reqF q)).length≤65536:=by rw [block_len,lines_len];omega
  rintro (h | h) <;> omega
 have hte:(tellsB (reqH q).1 (reqH q).2.1 (reqH q).2.2.1||asksB (reqH q).1 (reqH q).2.1 (reqH q).2.2.1)=true:=by
  have:asksB (reqH q).1 (reqH q).2.1 (reqH q).2.2.1=true:=by
   unfold asksB reqH
   simp only [h1,Bool.and_true]
   cases q.1 <;> decide
  rw [this,Bool.or_true]
 unfold putQ
 rw [h,if_pos rfl,putH_good (T:=reqH q) hte hput]
end Go.Proofs.YtflepnkpihfidaaGreatDoor
namespace Go.Proofs.YtflepnkpihfidaaGreatDoor
open Lib (hid)
open Go.RowKit
def optI:Option Int→Value
 | none=>.tuple #[.int .i64 0,.bool false]
 | some n=>.tuple #[.int .i64 n,.bool true]
def stpCt (n:Int) (c:UInt8):Int:=min (n*10+((c.toNat:Int)-48)) 1099511627776
theorem numG_all:∀(l:List UInt8) (n:Int),l.all digC=true→numG n l=some (l.foldl stpCt n)
 | [],n,_=>rfl
 | c::l,n,h=>by
   simp only [List.all_cons,Bool.and_eq_true] at h
   rw [numG,if_pos h.1]
   exact numG_all l _ h.2
theorem numG_bad:∀(l:List UInt8) (n:Int) (k:Nat) (h:k < l.length),digC l[k]=false→numG n l=none
 | [],_,k,h,_=>by simp at h
 | c::l,n,k,h,hd=>by
   rw [numG]
   cases k with
   | zero=>rw [if_neg (by simpa using hd)]
   | succ k=>
     split
     ·exact numG_bad l _ k (by simpa using h) (by simpa using hd)
     ·rfl
theorem stpCt_in:∀(l:List UInt8) (n:Int),l.all digC=true→0≤n∧n≤1099511627776→0≤l.foldl stpCt n∧l.foldl stpCt n≤1099511627776
 | [],n,_,h=>h
 | c::l,n,hd,h=>by
   simp only [List.all_cons,Bool.and_eq_true] at hd
   have h2:=dig_lo hd.1
   rw [List.foldl_cons]
   refine stpCt_in l _ hd.2 ?_
   unfold stpCt;omega
theorem stpCt_snoc (s:List UInt8) (k:Nat) (h:k < s.length):(s.take (k+1)).foldl stpCt 0=min ((s.take k).foldl stpCt 0*10+((s[k].toNat:Int)-48)) 1099511627776:=by
 rw [take_snoc s k h,List.foldl_append];rfl
set_option maxHeartbeats 4000000 in
theorem ctNum_any (s:List UInt8) (w:World) (hl:s.length≤1000000000):Calls Tryz.prog 155 #[str s] w fun e w'=>e=.returned (optI (numC s))∧w=w':=by
 go_enter Tryz.func155,Tryz.ntmps155
 go_upto_region 3 with fail
 go_loop [2,3,4,5,8] (fun x2 x3 n x5 i=>∃k:Nat,k≤s.length∧i=.int .i64 k∧n=.int .i64 ((s.take k).foldl stpCt 0)∧(s.take k).all digC=true) (fun _ _ _ _ i=>s.length-(intOf i).toNat)
 case atStart=>exact ⟨0,Nat.zero_le _,rfl,rfl,rfl⟩
 case round=>
  obtain ⟨k,hk,rfl,rfl,hE⟩:=hrel
  have HE:=hid hE
  have hb:=stpCt_in (s.take k) 0 hE (by omega)
  by_cases hlt:k < s.length
  ·have HS:=hid (stpCt_snoc s k hlt)
   have HNE:=hid (show s≠[] from by rintro rfl;simp at hlt)
   clear hE
   have hx:s[k].toNat≤255:=by have:=s[k].toNat_lt;omega
   by_cases c1:s[k].toNat < 48
   ·have HN:=hid (show numC s=none from by unfold numC;rw [if_neg HNE.out];exact numG_bad s 0 k hlt (digC_no s[k] (by omega)))
    have ddlt48:decide (((s[k].toNat:Nat):Int) < 48)=true:=decide_eq_true (by omega)
    have ddgt57:decide (57 < ((s[k].toNat:Nat):Int))=false:=decide_eq_false (by omega)
    go_wp2_with fail
    go_ret2
    exact ⟨by rw [HN.out];rfl,rfl⟩
   ·by_cases c2:57 < s[k].toNat
    ·have HN:=hid (show numC s=none from by unfold numC;rw [if_neg HNE.out];exact numG_bad s 0 k hlt (digC_no s[k] (by omega)))
     have ddlt48:decide (((s[k].toNat:Nat):Int) < 48)=false:=decide_eq_false (by omega)
     have ddgt57:decide (57 < ((s[k].toNat:Nat):Int))=true:=decide_eq_true (by omega)
     go_wp2_with fail
     go_ret2
     exact ⟨by rw [HN.out];rfl,rfl⟩
    ·have HD:=hid (digC_yes s[k] (by omega))
     have ddlt48:decide (((s[k].toNat:Nat):Int) < 48)=false:=decide_eq_false (by omega)
     have ddgt57:decide (57 < ((s[k].toNat:Nat):Int))=false:=decide_eq_false (by omega)
     generalize (s.take k).foldl stpCt 0=N at *
     have e1:IntKind.i64.wrap (N*10)=N*10:=IntWalk.i64_in _ (by omega)
     have e2:IntKind.u8.wrap ((s[k].toNat:Int)-48)=(s[k].toNat:Int)-48:=by rw [IntKind.wrap_u8];omega
     have e3:IntKind.i64.wrap (N*10+((s[k].toNat:Int)-48))=N*10+((s[k].toNat:Int)-48):=IntWalk.i64_in _ (by omega)
     go_wp2_with fail
     exact ⟨⟨k+1,by omega,by go_num,by rw [HS.out],all_take_succ _ s k hlt HE.out HD.out⟩,by simp [intOf];omega⟩
  ·obtain rfl:k=s.length:=by omega
   rw [List.take_length] at hE HE hb ⊢
   cases ks:s.isEmpty with
   | true=>
     obtain rfl:s=[]:=List.isEmpty_iff.1 ks
     clear hE ks hb
     go_wp2_with fail
     go_ret2
     exact ⟨rfl,rfl⟩
   | false=>
     have HN:=hid (show numC s=some (s.foldl stpCt 0) from by unfold numC;rw [if_neg (by rintro rfl;cases ks)];exact numG_all s 0 HE.out)
     clear hE
     generalize s.foldl stpCt 0=N at *
     go_wp2_with fail
     go_ret2
     exact ⟨by rw [HN.out];rfl,rfl⟩
set_option maxHeartbeats 4000000 in
theorem ctLess_any (g i:Nat) (t:TypeId) (cs:Array Value) (v:Int) (s:List UInt8) (x:World) (hb:Bk x g t cs (0,0)) (hi:cs[i]?=some (.int .i64 v)) (hl:s.length≤1000000000):Calls Tryz.prog 221 #[.pointer (some ⟨g,i,none⟩),str s] x fun e x'=>e=.returned (.tuple #[])∧Bk x' g t (cs.setIfInBounds i (.int .i64 (lessR v s))) (0,0)∧x.grownBy x' (some g):=by
 have HN:=hid (ctNum_any s x hl)
 have HL:=hid (show lessR v s=match numC s with | some n=>if v < 0∨n < v then n else v | none=>v from rfl)
 generalize lessR v s=LR at *
 have y0:x.cell? ⟨g,i,none⟩=some (.int .i64 v):=by rw [hb.cell];exact hi
 have f0:=hb.free i (.inr (Nat.zero_le _))
 have HSAME:=hid (show Bk x g t (cs.setIfInBounds i (.int .i64 v)) (0,0) from by
  have e:cs.setIfInBounds i (.int .i64 v)=cs:=by
   apply Array.ext_getElem?
   intro j
   by_cases hj:j=i
   ·subst hj
    obtain ⟨hlt,hv⟩:=Array.getElem?_eq_some_iff.1 hi
    rw [Array.getElem?_setIfInBounds_self_of_lt hlt,hi]
   ·rw [Array.getElem?_setIfInBounds_ne (Ne.symm hj)]
  rw [e];exact hb)
 have HB:=hid hb
 clear hb hi
 cases hn:numC s with
 | none=>
   have HL2:=hid (show LR=v from by have:=HL.out;rw [hn] at this;exact this)
   have HN2:=hid (show Calls Tryz.prog 155 #[str s] x (fun e w'=>e=.returned (.tuple #[.int .i64 0,.bool false])∧x=w') from by have:=HN.out;rw [hn] at this;exact this)
   clear HL HN hn
   go_enter Tryz.func221,Tryz.ntmps221
   go_wp2_with (go_at_call 155;refine HN2.out.mono ?_;rintro e w1 ⟨rfl,rfl⟩)
   go_end0
   exact ⟨rfl,by rw [HL2.out];exact HSAME.out,(Gr.refl _).by _⟩
 | some n=>
   have HN2:=hid (show Calls Tryz.prog 155 #[str s] x (fun e w'=>e=.returned (.tuple #[.int .i64 n,.bool true])∧x=w') from by have:=HN.out;rw [hn] at this;exact this)
   have hL:=HL.out
   rw [hn] at hL
   simp only at hL
   by_cases hv:v < 0
   ·rw [if_pos (.inl hv)] at hL
    have HL2:=hid hL
    have dv:decide (v < 0)=true:=decide_eq_true hv
    clear HL HN hn hL
    go_enter Tryz.func221,Tryz.ntmps221
    go_wp2_with (go_at_call 155;refine HN2.out.mono ?_;rintro e w1 ⟨rfl,rfl⟩)
    go_end0
    exact ⟨rfl,by rw [HL2.out];exact HB.out.set i _,by_st ((Gr.refl _).by _) _ _⟩
   ·have dv:decide (v < 0)=false:=decide_eq_false hv
    by_cases hnv:n < v
    ·rw [if_pos (.inr hnv)] at hL
     have HL2:=hid hL
     have dn:decide (n < v)=true:=decide_eq_true hnv
     clear HL HN hn hL
     go_enter Tryz.func221,Tryz.ntmps221
     go_wp2_with (go_at_call 155;refine HN2.out.mono ?_;rintro e w1 ⟨rfl,rfl⟩)
     go_end0
     exact ⟨rfl,by rw [HL2.out];exact HB.out.set i _,by_st ((Gr.refl _).by _) _ _⟩
    ·rw [if_neg (by omega)] at hL
     have HL2:=hid hL
     have dn:decide (n < v)=false:=decide_eq_false hnv
     clear HL HN hn hL
     go_enter Tryz.func221,Tryz.ntmps221
     go_wp2_with (go_at_call 155;refine HN2.out.mono ?_;rintro e w1 ⟨rfl,rfl⟩)
     go_end0
     exact ⟨rfl,by rw [HL2.out];exact HSAME.out,(Gr.refl _).by _⟩
theorem ownM_cell {W0 w:World} {b n c:Nat} {l:List UInt8} (h:OwnM W0 w (.slice (some ⟨b,0,none⟩) n c) l) {k:Nat} (hk:k < l.length):w.cell? ⟨b,k,none⟩=some (byt l[k])∧w.frozen? ⟨b,k,none⟩=false∧W0.heap.size≤b:=by
 obtain ⟨g,cap,cur,fz,hv,h0,hg,hf,hc,hm,hs,ht⟩:=h
 simp only [Value.slice.injEq,Option.some.injEq,Addr.mk.injEq,and_true] at hv
 obtain ⟨rfl,-,rfl⟩:=hv
 refine ⟨?_,?_,h0⟩
 ·rw [cell_of_row w b k cur _ fz hg,←Array.getElem?_toList]
  have h2:(cur.toList.take l.length)[k]?=some (byt l[k]):=by rw [ht,List.getElem?_map,List.getElem?_eq_getElem hk];rfl
  rw [List.getElem?_take,if_pos hk] at h2
  exact h2
 ·obtain ⟨lo,hi⟩:=fz
  simp only [World.frozen?,hg,Bool.and_eq_false_iff,decide_eq_false_iff_not]
  simp only at hf
  omega
theorem ownM_put {W0 w:World} {b n c:Nat} {l:List UInt8} (h:OwnM W0 w (.slice (some ⟨b,0,none⟩) n c) l) (k:Nat) (x:UInt8):OwnM W0 (w.setCell ⟨b,k,none⟩ (byt x)) (.slice (some ⟨b,0,none⟩) n c) (l.set k x):=by
 obtain ⟨g,cap,cur,fz,hv,h0,hg,hf,hc,hm,hs,ht⟩:=h
 simp only [Value.slice.injEq,Option.some.injEq,Addr.mk.injEq,and_true] at hv
 obtain ⟨rfl,rfl,rfl⟩:=hv
 refine ⟨b,c,cur.setIfInBounds k (byt x),fz,by rw [List.length_set],h0,(show Bk w b 5 cur fz from hg).set k (byt x),?_,by rw [List.length_set];exact hc,hm,by simpa using hs,?_⟩
 ·simpa using hf
 ·rw [List.length_set,Array.toList_setIfInBounds,List.take_set,ht,List.map_set]
theorem low_step (s:List UInt8) (k:Nat) (h:k < s.length):(low (s.take k)++s.drop k).set k (lowN s[k])=low (s.take (k+1))++s.drop (k+1):=by
 have hl:(low (s.take k)).length=k:=by rw [low_len,List.length_take];omega
 rw [List.drop_eq_getElem_cons h,List.set_append_right _ _ (by omega),hl,Nat.sub_self]
 show low (s.take k)++(lowN s[k]::s.drop (k+1))=_
 rw [take_snoc s k h]
 unfold low
 rw [List.map_append];simp
theorem low_keep (s:List UInt8) (k:Nat) (h:k < s.length) (he:lowN s[k]=s[k]):low (s.take k)++s.drop k=low (s.take (k+1))++s.drop (k+1):=by
 rw [List.drop_eq_getElem_cons h,take_snoc s k h]
 unfold low
 rw [List.map_append];simp [he]
theorem low_at (s:List UInt8) (k:Nat) (h:k < s.length) (h2:k < (low (s.take k)++s.drop k).length):(low (s.take k)++s.drop k)[k]=s[k]:=by
 have hl:(low (s.take k)).length=k:=by rw [low_len,List.length_take];omega
 rw [List.getElem_append_right (by omega)]
 simp [hl]
set_option maxHeartbeats 8000000 in
theorem ctSmall_any (s:List UInt8) (w:World) (hl:s.length≤1000000):Calls Tryz.prog 220 #[str s] w fun e w'=>e=.returned (str (low s))∧Gr w w':=by
 go_enter Tryz.func220,Tryz.ntmps220
 go_upto_region 2 with (refine wpList_toBytsM _ rfl rfl rfl (by omega) ?_;intro A c n w1 hn hM hG1)
 subst hn
 obtain ⟨b,rfl⟩:∃b,A=some ⟨b,0,none⟩:=by
  obtain ⟨g,cap,cur,fz,hv,_⟩:=hM
  simp only [Value.slice.injEq] at hv
  exact ⟨g,hv.1⟩
 have HM:=hid hM
 have HG1:=hid hG1
 clear hM hG1
 go_wp2_with fail
 go_loopw [4,5,10] (fun x4 x5 i wr=>∃k:Nat,k≤s.length∧i=.int .i64 k∧OwnM w wr (.slice (some ⟨b,0,none⟩) s.length c) (low (s.take k)++s.drop k)∧Gr w wr) (fun _ _ i _=>s.length-(intOf i).toNat)
 case atStart=>exact ⟨0,Nat.zero_le _,rfl,by simpa [low] using HM.out,HG1.out⟩
 case round=>
  obtain ⟨k,hk,rfl,hM,hG⟩:=hrel
  have HMr:=hid hM
  have HGr:=hid hG
  by_cases hlt:k < s.length
  ·have hlen:k < (low (s.take k)++s.drop k).length:=by rw [List.length_append,low_len,List.length_take,List.length_drop];omega
   obtain ⟨p0,f0,hlo⟩:=ownM_cell hM hlen
   rw [low_at s k hlt hlen] at p0
   have HLO:=hid hlo
   have HST:=hid (low_step s k hlt)
   have HKP:=hid (low_keep s k hlt)
   have hx:s[k].toNat≤255:=by have:=s[k].toNat_lt;omega
   have p0:wr.cell? ⟨b,k,none⟩=some (.int .u8 (s[k].toNat:Int)):=p0
   clear hM hG hlo hlen
   by_cases c1:65≤s[k].toNat∧s[k].toNat≤90
   ·obtain ⟨c1,c2⟩:=c1
    have hup:=lowN_up s[k] (by omega) (by omega)
    have e1:IntKind.u8.wrap ((s[k].toNat:Int)+97)=(s[k].toNat:Int)+97:=by rw [IntKind.wrap_u8];omega
    have e2:IntKind.u8.wrap ((s[k].toNat:Int)+97-65)=((lowN s[k]).toNat:Int):=by rw [IntKind.wrap_u8,←hup];omega
    have HPM:=hid (show OwnM w (wr.setCell ⟨b,k,none⟩ (.int .u8 ((lowN s[k]).toNat:Int))) (.slice (some ⟨b,0,none⟩) s.length c) (low (s.take (k+1))++s.drop (k+1)) from by rw [←HST.out];exact ownM_put HMr.out k (lowN s[k]))
    clear hup
    have ddge65:decide (65≤((s[k].toNat:Nat):Int))=true:=decide_eq_true (by omega)
    have ddle90:decide (((s[k].toNat:Nat):Int)≤90)=true:=decide_eq_true (by omega)
    go_wp2_with fail
    exact ⟨⟨k+1,by omega,by go_num,HPM.out,Gr.st (p:=⟨b,k,none⟩) HGr.out HLO.out _⟩,by simp [intOf];omega⟩
   ·have HE:=hid (HKP.out (by
     have h:=lowN_no s[k] (by omega)
     exact (UInt8.toNat_inj.1 (by omega)).symm))
    by_cases c3:s[k].toNat < 65
    ·have ddge65:decide (65≤((s[k].toNat:Nat):Int))=false:=decide_eq_false (by omega)
     go_wp2_with fail
     exact ⟨⟨k+1,by omega,by go_num,by rw [←HE.out];exact HMr.out,HGr.out⟩,by simp [intOf];omega⟩
    ·have ddge65:decide (65≤((s[k].toNat:Nat):Int))=true:=decide_eq_true (by omega)
     have ddle90:decide (((s[k].toNat:Nat):Int)≤90)=false:=decide_eq_false (by omega)
     go_wp2_with fail
     exact ⟨⟨k+1,by omega,by go_num,by rw [←HE.out];exact HMr.out,HGr.out⟩,by simp [intOf];omega⟩
  ·obtain rfl:k=s.length:=by omega
   rw [List.take_length,List.drop_length,List.append_nil] at HMr
   have HB:=hid HMr.out.byts
   clear hM hG
   go_wp2_with (refine wpList_toStr _ rfl rfl rfl HB.out ?_)
   go_ret
   exact ⟨rfl,HGr.out⟩
end Go.Proofs.YtflepnkpihfidaaGreatDoor
namespace Go.Proofs.YtflepnkpihfidaaGreatDoor
open Lib (hid)
open Go.RowKit
def ruleAs (r:RuleT):Array Value:=#[.int .i64 r.mx,.int .i64 r.sh,.int .i64 r.wh,.int .i64 r.er,.bool r.ns,.bool r.nc,.bool r.pv]
theorem gr_of_byK {W x y:World} {b:Nat} (h:Gr W x) (k:x.grownBy y (some b)) (hb:W.heap.size≤b):Gr W y:=
 ⟨k.os.trans h.os,k.tape.trans h.tape,k.output.trans h.output,Nat.le_trans h.size k.size,fun i hi=>(k.block i (Nat.lt_of_lt_of_le hi h.size) (fun e=>by cases e;omega)).trans (h.block i hi)⟩
theorem dirA_lib (d:List UInt8):(Lib.cut d [61]).1=(dirA d).1∧(Lib.cut d [61]).2.1=(dirA d).2:=by
 rw [cutG_lib]
 unfold dirA
 cases cutG 61 d <;> exact ⟨rfl,rfl⟩
theorem dirA_le (d:List UInt8):(dirA d).1.length≤d.length∧(dirA d).2.length≤d.length:=by
 unfold dirA
 cases h:cutG 61 d with
 | none=>simp
 | some p=>exact ⟨by have:=cutG_len h;simp only;omega,by have:=cutG_len h;simp only;omega⟩
theorem heedD_eq (r:RuleT) (d:List UInt8):heedD r d=heedN r (low (dirA d).1) (unqL (dirA d).2):=rfl
set_option maxHeartbeats 16000000 in
set_option maxRecDepth 100000 in
theorem ctHeed_any (g:Nat) (r:RuleT) (d:List UInt8) (x:World) (hb:Bk x g 147 (ruleAs r) (0,0)) (hm:Ml x) (hl:d.length≤1000000) :
  Calls Tryz.prog 152 #[.pointer (some ⟨g,0,none⟩),str d] x fun e x'=>e=.returned (.tuple #[])∧Bk x' g 147 (ruleAs (heedD r d)) (0,0)∧x.grownBy x' (some g):=by
 obtain ⟨q1,q2⟩:=dirA_lib d
 obtain ⟨n1,n2⟩:=dirA_le d
 have hcut:=m_cut d [61] x hm (by omega)
 rw [q1,q2] at hcut
 have HC:=hid hcut
 have HH:=hid (heedD_eq r d)
 generalize heedD r d=R at *
 generalize (Lib.cut d [61]).2.2=bb at *
 generalize (dirA d).1=N at *
 generalize (dirA d).2=A at *
 have HB:=hid hb
 have hul:(unqL A).length≤A.length:=by
  unfold unqL innT
  split
  ·rw [List.length_take,List.length_drop];omega
  ·exact Nat.le_refl _
 have HUL:=hid (show (unqL A).length≤1000000 from by omega)
 have hA:A.length≤1000000:=by omega
 have hN:N.length≤1000000:=by omega
 have HSM:=hid (fun (y:World)=>ctSmall_any N y hN)
 clear q1 q2 n1 n2 hcut hb hm hul
 go_enter Tryz.func152,Tryz.ntmps152
 go_upto_region 1 with (go_at_call 130;refine HC.out.mono ?_;rintro e w1 ⟨rfl,hg1⟩)
 have HG1:=hid hg1
 clear hg1
 go_upto_region 2 with fail
 go_cut [29] (fun s29 wx=>s29=.bool (quoB A)∧w1=wx)
 case first=>
  by_cases h2:2≤A.length
  ·have k1:decide (2≤(A.length:Int))=true:=decide_eq_true (by omega)
   have hn:((A.length:Int)-1).toNat=A.length-1:=by omega
   have HBX:=hid (show quoB A=(A[0]==34&&A[A.length-1]==34) from by unfold quoB;rw [dif_pos h2])
   by_cases a1:A[0].toNat=34
   ·have e1:((A[0].toNat:Int)==34)=true:=by simp;omega
    have A1:=hid (show (A[0]==34)=true from by rw [show A[0]=34 from UInt8.toNat_inj.1 a1];rfl)
    by_cases a2:A[A.length-1].toNat=34
    ·have e2:((A[A.length-1].toNat:Int)==34)=true:=by simp;omega
     have A2:=hid (show (A[A.length-1]==34)=true from by rw [show A[A.length-1]=34 from UInt8.toNat_inj.1 a2];rfl)
     try clear a2
     try clear a1
     go_wp2_with fail
     go_meet
     exact ⟨by rw [HBX.out,A1.out,A2.out];rfl,rfl⟩
    ·have e2:((A[A.length-1].toNat:Int)==34)=false:=by simp;omega
     have A2:=hid (show (A[A.length-1]==34)=false from by rw [beq_eq_false_iff_ne];intro h;rw [h] at a2;exact a2 rfl)
     try clear a2
     try clear a1
     go_wp2_with fail
     go_meet
     exact ⟨by rw [HBX.out,A1.out,A2.out];rfl,rfl⟩
   ·have e1:((A[0].toNat:Int)==34)=false:=by simp;omega
    have A1:=hid (show (A[0]==34)=false from by rw [beq_eq_false_iff_ne];intro h;rw [h] at a1;exact a1 rfl)
    try clear a1
    go_wp2_with fail
    go_meet
    exact ⟨by rw [HBX.out,A1.out];rfl,rfl⟩
  ·have k1:decide (2≤(A.length:Int))=false:=decide_eq_false (by omega)
   have HBX:=hid (show quoB A=false from by unfold quoB;rw [dif_neg h2])
   go_wp2_with fail
   go_meet
   exact ⟨by rw [HBX.out],rfl⟩
 case rest=>
 obtain ⟨rfl,rfl⟩:=hcut
 go_upto_if 29 with fail
 go_cut [5] (fun s5 wx=>s5=str (unqL A)∧w1=wx)
 case first=>
  cases hq:quoB A with
  | true=>
    have hl2:=quoB_len hq
    have hn:((A.length:Int)-1).toNat=A.length-1:=by omega
    have HU:=hid (show unqL A=List.take (A.length-1-1) A.tail from by unfold unqL;rw [hq];unfold innT;rw [Nat.sub_sub,List.drop_one];rfl)
    clear hq
    go_wp2_with fail
    go_meet
    exact ⟨by rw [HU.out],rfl⟩
  | false=>
    have HU:=hid (show unqL A=A from by unfold unqL;rw [hq];rfl)
    clear hq
    go_wp2_with fail
    go_meet
    exact ⟨by rw [HU.out],rfl⟩
 case rest=>
 obtain ⟨rfl,rfl⟩:=hcut
 generalize unqL A=U at *
 have HLN:=hid (low_len N)
 generalize low N=LN at *
 go_upto_region 5 with (go_at_call 220;refine (HSM.out _).mono ?_;rintro e w2 ⟨rfl,hg2⟩)
 have HG2:=hid (Gr.tr HG1.out hg2)
 have HB2:=hid (HB.out.gr HG2.out)
 clear hg2 HG1 HSM HC hA hN
 by_cases h0:LN=maxAN
 case pos=>
  have HH2:=hid (show R=⟨lessR r.mx U,r.sh,r.wh,r.er,r.ns,r.nc,r.pv⟩ from by rw [HH.out];unfold heedN;rw [if_pos h0])
  have k0:(LN==[109,97,120,45,97,103,101])=true:=by rw [h0];rfl
  clear HH h0
  have HL:=hid (fun (y:World) (gy:Gr w2 y)=>ctLess_any g 0 _ _ r.mx U y (HB2.out.gr gy) rfl (by have:=HUL.out;omega))
  have h22:=Gr.refl w2
  go_wp2_with (go_at_call 221;refine (HL.out _ h22).mono ?_;rintro e w3 ⟨rfl,hb3,hby3⟩)
  go_end0
  exact ⟨rfl,by rw [HH2.out];exact hb3,by_trans (HG2.out.by _) hby3⟩
 by_cases h1:LN=shAN
 case pos=>
  have HH2:=hid (show R=⟨r.mx,lessR r.sh U,r.wh,r.er,r.ns,r.nc,r.pv⟩ from by rw [HH.out];unfold heedN;rw [if_neg h0,if_pos h1])
  have k0:(LN==[109,97,120,45,97,103,101])=false:=by rw [beq_eq_false_iff_ne];exact h0
  have k1:(LN==[115,45,109,97,120,97,103,101])=true:=by rw [h1];rfl
  clear HH h0 h1
  have HL:=hid (fun (y:World) (gy:Gr w2 y)=>ctLess_any g 1 _ _ r.sh U y (HB2.out.gr gy) rfl (by have:=HUL.out;omega))
  have h22:=Gr.refl w2
  go_wp2_with (go_at_call 221;refine (HL.out _ h22).mono ?_;rintro e w3 ⟨rfl,hb3,hby3⟩)
  go_end0
  exact ⟨rfl,by rw [HH2.out];exact hb3,by_trans (HG2.out.by _) hby3⟩
 by_cases h2:LN=whAN
 case pos=>
  have HH2:=hid (show R=⟨r.mx,r.sh,lessR r.wh U,r.er,r.ns,r.nc,r.pv⟩ from by rw [HH.out];unfold heedN;rw [if_neg h0,if_neg h1,if_pos h2])
  have k0:(LN==[109,97,120,45,97,103,101])=false:=by rw [beq_eq_false_iff_ne];exact h0
  have k1:(LN==[115,45,109,97,120,97,103,101])=false:=by rw [beq_eq_false_iff_ne];exact h1
  have k2:(LN==[115,116,97,108,101,45,119,104,105,108,101,45,114,101,118,97,108,105,100,97,116,101])=true:=by rw [h2];rfl
  clear HH h0 h1 h2
  have HL:=hid (fun (y:World) (gy:Gr w2 y)=>ctLess_any g 2 _ _ r.wh U y (HB2.out.gr gy) rfl (by have:=HUL.out;omega))
  have h22:=Gr.refl w2
  go_wp2_with (go_at_call 221;refine (HL.out _ h22).mono ?_;rintro e w3 ⟨rfl,hb3,hby3⟩)
  go_end0
  exact ⟨rfl,by rw [HH2.out];exact hb3,by_trans (HG2.out.by _) hby3⟩
 by_cases h3:LN=erAN
 case pos=>
  have HH2:=hid (show R=⟨r.mx,r.sh,r.wh,lessR r.er U,r.ns,r.nc,r.pv⟩ from by rw [HH.out];unfold heedN;rw [if_neg h0,if_neg h1,if_neg h2,if_pos h3])
  have k0:(LN==[109,97,120,45,97,103,101])=false:=by rw [beq_eq_false_iff_ne];exact h0
  have k1:(LN==[115,45,109,97,120,97,103,101])=false:=by rw [beq_eq_false_iff_ne];exact h1
  have k2:(LN==[115,116,97,108,101,45,119,104,105,108,101,45,114,101,118,97,108,105,100,97,116,101])=false:=by rw [beq_eq_false_iff_ne];exact h2
  have k3:(LN==[115,116,97,108,101,45,105,102,45,101,114,114,111,114])=true:=by rw [h3];rfl
  clear HH h0 h1 h2 h3
  have HL:=hid (fun (y:World) (gy:Gr w2 y)=>ctLess_any g 3 _ _ r.er U y (HB2.out.gr gy) rfl (by have:=HUL.out;omega))
  have h22:=Gr.refl w2
  go_wp2_with (go_at_call 221;refine (HL.out _ h22).mono ?_;rintro e w3 ⟨rfl,hb3,hby3⟩)
  go_end0
  exact ⟨rfl,by rw [HH2.out];exact hb3,by_trans (HG2.out.by _) hby3⟩
 by_cases h4:LN=noStN
 case pos=>
  have HH2:=hid (show R=⟨r.mx,r.sh,r.wh,r.er,true,r.nc,r.pv⟩ from by rw [HH.out];unfold heedN;rw [if_neg h0,if_neg h1,if_neg h2,if_neg h3,if_pos h4])
  have k0:(LN==[109,97,120,45,97,103,101])=false:=by rw [beq_eq_false_iff_ne];exact h0
  have k1:(LN==[115,45,109,97,120,97,103,101])=false:=by rw [beq_eq_false_iff_ne];exact h1
  have k2:(LN==[115,116,97,108,101,45,119,104,105,108,101,45,114,101,118,97,108,105,100,97,116,101])=false:=by rw [beq_eq_false_iff_ne];exact h2
  have k3:(LN==[115,116,97,108,101,45,105,102,45,101,114,114,111,114])=false:=by rw [beq_eq_false_iff_ne];exact h3
  have k4:(LN==[110,111,45,115,116,111,114,101])=true:=by rw [h4];rfl
  clear HH h0 h1 h2 h3 h4
  have y0:w2.cell? ⟨g,4,none⟩=some (.bool r.ns):=HB2.out.cell 4
  have f0:=HB2.out.free 4 (.inr (Nat.zero_le _))
  go_wp2_with fail
  go_end0
  exact ⟨rfl,by rw [HH2.out];exact HB2.out.set 4 (.bool true),by_st (HG2.out.by _) _ _⟩
 by_cases h5:LN=noCN
 case pos=>
  have HH2:=hid (show R=⟨r.mx,r.sh,r.wh,r.er,r.ns,true,r.pv⟩ from by rw [HH.out];unfold heedN;rw [if_neg h0,if_neg h1,if_neg h2,if_neg h3,if_neg h4,if_pos h5])
  have k0:(LN==[109,97,120,45,97,103,101])=false:=by rw [beq_eq_false_iff_ne];exact h0
  have k1:(LN==[115,45,109,97,120,97,103,101])=false:=by rw [beq_eq_false_iff_ne];exact h1
  have k2:(LN==[115,116,97,108,101,45,119,104,105,108,101,45,114,101,118,97,108,105,100,97,116,101])=false:=by rw [beq_eq_false_iff_ne];exact h2
  have k3:(LN==[115,116,97,108,101,45,105,102,45,101,114,114,111,114])=false:=by rw [beq_eq_false_iff_ne];exact h3
  have k4:(LN==[110,111,45,115,116,111,114,101])=false:=by rw [beq_eq_false_iff_ne];exact h4
  have k5:(LN==[110,111,45,99,97,99,104,101])=true:=by rw [h5];rfl
  clear HH h0 h1 h2 h3 h4 h5
  have y0:w2.cell? ⟨g,5,none⟩=some (.bool r.nc):=HB2.out.cell 5
  have f0:=HB2.out.free 5 (.inr (Nat.zero_le _))
  go_wp2_with fail
  go_end0
  exact ⟨rfl,by rw [HH2.out];exact HB2.out.set 5 (.bool true),by_st (HG2.out.by _) _ _⟩
 by_cases h6:LN=privN
 case pos=>
  have HH2:=hid (show R=⟨r.mx,r.sh,r.wh,r.er,r.ns,r.nc,true⟩ from by rw [HH.out];unfold heedN;rw [if_neg h0,if_neg h1,if_neg h2,if_neg h3,if_neg h4,if_neg h5,if_pos h6])
  have k0:(LN==[109,97,120,45,97,103,101])=false:=by rw [beq_eq_false_iff_ne];exact h0
  have k1:(LN==[115,45,109,97,120,97,103,101])=false:=by rw [beq_eq_false_iff_ne];exact h1
  have k2:(LN==[115,116,97,108,101,45,119,104,105,108,101,45,114,101,118,97,108,105,100,97,116,101])=false:=by rw [beq_eq_false_iff_ne];exact h2
  have k3:(LN==[115,116,97,108,101,45,105,102,45,101,114,114,111,114])=false:=by rw [beq_eq_false_iff_ne];exact h3
  have k4:(LN==[110,111,45,115,116,111,114,101])=false:=by rw [beq_eq_false_iff_ne];exact h4
  have k5:(LN==[110,111,45,99,97,99,104,101])=false:=by rw [beq_eq_false_iff_ne];exact h5
  have k6:(LN==[112,114,105,118,97,116,101])=true:=by rw [h6];rfl
  clear HH h0 h1 h2 h3 h4 h5 h6
  have y0:w2.cell? ⟨g,6,none⟩=some (.bool r.pv):=HB2.out.cell 6
  have f0:=HB2.out.free 6 (.inr (Nat.zero_le _))
  go_wp2_with fail
  go_end0
  exact ⟨rfl,by rw [HH2.out];exact HB2.out.set 6 (.bool true),by_st (HG2.out.by _) _ _⟩
 have HH2:=hid (show R=r from by rw [HH.out];unfold heedN;rw [if_neg h0,if_neg h1,if_neg h2,if_neg h3,if_neg h4,if_neg h5,if_neg h6])
 have k0:(LN==[109,97,120,45,97,103,101])=false:=by rw [beq_eq_false_iff_ne];exact h0
 have k1:(LN==[115,45,109,97,120,97,103,101])=false:=by rw [beq_eq_false_iff_ne];exact h1
 have k2:(LN==[115,116,97,108,101,45,119,104,105,108,101,45,114,101,118,97,108,105,100,97,116,101])=false:=by rw [beq_eq_false_iff_ne];exact h2
 have k3:(LN==[115,116,97,108,101,45,105,102,45,101,114,114,111,114])=false:=by rw [beq_eq_false_iff_ne];exact h3
 have k4:(LN==[110,111,45,115,116,111,114,101])=false:=by rw [beq_eq_false_iff_ne];exact h4
 have k5:(LN==[110,111,45,99,97,99,104,101])=false:=by rw [beq_eq_false_iff_ne];exact h5
 have k6:(LN==[112,114,105,118,97,116,101])=false:=by rw [beq_eq_false_iff_ne];exact h6
 clear HH h0 h1 h2 h3 h4 h5 h6
 go_wp2_with fail
 go_end0
 exact ⟨rfl,by rw [HH2.out];exact HB2.out,HG2.out.by _⟩
def ruleVal (r:RuleT):Value:=.agg (ruleAs r)
theorem goK_end {q:Bool} {cur:List UInt8} {r:RuleT} {v:List UInt8} {i:Nat} (h:¬i < v.length):goK q cur r (v.drop i)=heedD r (trim cur):=by rw [List.drop_eq_nil_of_le (by omega),goK]
theorem goK_at {q:Bool} {cur:List UInt8} {r:RuleT} {v:List UInt8} {i:Nat} (h:i < v.length):goK q cur r (v.drop i)=if (v[i]==44&&!q)=true then goK q [] (heedD r (trim cur)) (v.drop (i+1)) else goK (if v[i]==34 then !q else q) (cur++[v[i]]) r (v.drop (i+1)):=by
 rw [List.drop_eq_getElem_cons h,goK]
theorem cur_snoc (v:List UInt8) (b i:Nat) (hb:b≤i) (h:i < v.length):(v.drop b).take (i-b)++[v[i]]=(v.drop b).take (i+1-b):=by
 have h1:i-b < (v.drop b).length:=by rw [List.length_drop];omega
 have h2:=take_snoc (v.drop b) (i-b) h1
 rw [show i-b+1=i+1-b from by omega] at h2
 rw [h2]
 congr 2
 rw [List.getElem_drop]
 congr 1
 omega
def ParI (v:List UInt8) (F:RuleT) (i b:Nat) (q:Bool) (r:RuleT):Prop:=(i≤v.length∧b≤i∧goK q ((v.drop b).take (i-b)) r (v.drop i)=F)∨(i=v.length+1∧b=i∧r=F)
set_option maxHeartbeats 16000000 in
set_option maxRecDepth 100000 in
theorem ctParse_any (u:Value) (vs:List (List UInt8)) (w:World) (hu:Strs w u vs) (hs:∀v∈vs,v.length≤100000) (hn:vs.length≤1000000) (hm:Ml w):Calls Tryz.prog 76 #[u] w fun e w'=>e=.returned (ruleVal (ruleV vs))∧Gr w w':=by
 obtain ⟨A,c,rfl,hc,hmx,hA⟩:=hu.open
 have HA:=hid hA
 have HS:=hid (fun (k:Nat) (h:k < vs.length)=>hs _ (List.getElem_mem h))
 have HMM:=hid hm
 have HSN:=hid (fun (k:Nat) (h:k < vs.length)=>show (vs.take (k+1)).foldl (fun r v=>goK false [] r v) RuleT.start=goK false [] ((vs.take k).foldl (fun r v=>goK false [] r v) RuleT.start) vs[k] from by rw [take_snoc vs k h,List.foldl_append];rfl)
 have HRV:=hid (show ruleV vs=vs.foldl (fun r v=>goK false [] r v) RuleT.start from rfl)
 generalize ruleV vs=RV at *
 obtain ⟨b0,b1,hg0⟩:=two_box w #[.int .i64 0,.int .i64 0,.int .i64 0,.int .i64 0,.bool false,.bool false,.bool false] #[.int .i64 (-1),.int .i64 (-1),.int .i64 (-1),.int .i64 (-1),.bool false,.bool false,.bool false] 147 147
 clear hA hu hs hm
 go_enter Tryz.func76,Tryz.ntmps76
 go_upto_region 2 with fail
 refine at_world (P:=Code.wp _ _ _ _) (w0:=(w.alloc (Obj.cells #[.int .i64 0,.int .i64 0,.int .i64 0,.int .i64 0,.bool false,.bool false,.bool false] 147)).alloc (Obj.cells #[.int .i64 (-1),.int .i64 (-1),.int .i64 (-1),.int .i64 (-1),.bool false,.bool false,.bool false] 147)) ?_
 intro w0 hw0
 rw [←hw0] at b0 b1 hg0
 clear hw0
 generalize hgq:w.heap.size=g at *
 have HLO:=hid (show w.heap.size≤g∧w.heap.size≤g+1 from by omega)
 have HB0:=hid b0
 have HB1:=hid (show Bk w0 (g+1) 147 (ruleAs RuleT.start) (0,0) from b1)
 have HG0:=hid hg0
 clear b0 b1 hg0 hgq
 go_wp2_with fail
 go_loopw [5,6,7,8,12] (fun x5 x6 x7 x8 iv wr=>∃k:Nat,k≤vs.length∧iv=.int .i64 k∧Gr w wr∧Bk wr g 147 #[.int .i64 0,.int .i64 0,.int .i64 0,.int .i64 0,.bool false,.bool false,.bool false] (0,0)∧Bk wr (g+1) 147 (ruleAs ((vs.take k).foldl (fun r v=>goK false [] r v) RuleT.start)) (0,0)) (fun _ _ _ _ iv _=>vs.length-(intOf iv).toNat)
 case atStart=>exact ⟨0,Nat.zero_le _,rfl,HG0.out,HB0.out,HB1.out⟩
 case round=>
  obtain ⟨k,hk,rfl,hG,hz,hr⟩:=hrel
  have HGr:=hid hG
  have HZr:=hid hz
  have HRr:=hid hr
  clear hG hz hr
  by_cases hlt:k < vs.length
  case neg=>
   have hvk:vs.take k=vs:=List.take_of_length_le (by omega)
   have HRE:=hid (show Bk wr (g+1) 147 (ruleAs RV) (0,0) from by have h:=HRr.out;rw [hvk] at h;rw [HRV.out];exact h)
   clear hvk HRr HRV HSN
   obtain ⟨mx,sh,wh,er,ns,nc,pv⟩:=RV
   have hb:=HRE.out
   unfold ruleAs at hb
   simp only at hb
   have y0:=hb.cell 0;have y1:=hb.cell 1;have y2:=hb.cell 2;have y3:=hb.cell 3;have y4:=hb.cell 4;have y5:=hb.cell 5;have y6:=hb.cell 6
   have hz:=HZr.out
   have z0:=hz.cell 0;have z1:=hz.cell 1;have z2:=hz.cell 2;have z3:=hz.cell 3;have z4:=hz.cell 4;have z5:=hz.cell 5;have z6:=hz.cell 6
   have f0:=hz.free 0 (.inr (Nat.zero_le _));have f1:=hz.free 1 (.inr (Nat.zero_le _));have f2:=hz.free 2 (.inr (Nat.zero_le _));have f3:=hz.free 3 (.inr (Nat.zero_le _));have f4:=hz.free 4 (.inr (Nat.zero_le _));have f5:=hz.free 5 (.inr (Nat.zero_le _));have f6:=hz.free 6 (.inr (Nat.zero_le _))
   simp only [List.getElem?_toArray,List.getElem?_cons_zero,List.getElem?_cons_succ] at y0 y1 y2 y3 y4 y5 y6 z0 z1 z2 z3 z4 z5 z6
   clear hb hz
   go_wp2_with fail
   refine at_world (P:=bodyPost _ _ _ _ _) (w0:=putCs wr g [.int .i64 mx,.int .i64 sh,.int .i64 wh,.int .i64 er,.bool ns,.bool nc,.bool pv] 0) ?_
   intro wy hwy
   have hy:Bk wy g 147 #[.int .i64 mx,.int .i64 sh,.int .i64 wh,.int .i64 er,.bool ns,.bool nc,.bool pv] (0,0):=by rw [hwy];exact putCs_bk HZr.out rfl
   have u0:=hy.cell 0;have u1:=hy.cell 1;have u2:=hy.cell 2;have u3:=hy.cell 3;have u4:=hy.cell 4;have u5:=hy.cell 5;have u6:=hy.cell 6
   simp only [List.getElem?_toArray,List.getElem?_cons_zero,List.getElem?_cons_succ] at u0 u1 u2 u3 u4 u5 u6
   refine bodyPost_ret (v:=.agg #[.int .i64 mx,.int .i64 sh,.int .i64 wh,.int .i64 er,.bool ns,.bool nc,.bool pv]) (by simp [results,Tryz.results76,go_sem,u0,u1,u2,u3,u4,u5,u6]) rfl ⟨rfl,?_⟩
   rw [hwy];exact putCs_gr HLO.out.1 _ _ _ HGr.out
  obtain ⟨b1,o1,rfl,hb1,p0⟩:=HA.out k hlt
  have p0:=Gr.cell HGr.out p0
  have hvl:=HS.out k hlt
  have HSNk:=hid (HSN.out k hlt)
  generalize (vs.take k).foldl (fun r v=>goK false [] r v) RuleT.start=R0 at *
  generalize vs[k]=v at *
  obtain ⟨F,hF⟩:∃F,F=goK false [] R0 v:=⟨_,rfl⟩
  rw [←hF] at HSNk
  have HF:=hid (show ParI v F 0 0 false R0 from .inl ⟨Nat.zero_le _,Nat.le_refl _,by rw [hF];rfl⟩)
  clear hF
  go_upto_region 7 with fail
  clear p0
  go_wp2_with fail
  go_loopw [6,7,8] (fun bv qv iv wr2=>∃(i b:Nat) (q:Bool) (r:RuleT),ParI v F i b q r∧bv=.int .i64 b∧qv=.bool q∧iv=.int .i64 i∧Gr w wr2∧Bk wr2 g 147 #[.int .i64 0,.int .i64 0,.int .i64 0,.int .i64 0,.bool false,.bool false,.bool false] (0,0)∧Bk wr2 (g+1) 147 (ruleAs r) (0,0)) (fun _ _ iv _=>v.length+1-(intOf iv).toNat)
  case atStart=>exact ⟨0,0,false,R0,HF.out,rfl,rfl,rfl,HGr.out,HZr.out,HRr.out⟩
  case round=>
   obtain ⟨i,b,q,r,hP,rfl,rfl,rfl,hG2,hz2,hr2⟩:=hrel
   have HG2:=hid hG2
   have HZ2:=hid hz2
   have HR2:=hid hr2
   clear hG2 hz2 hr2 HF
   rcases hP with ⟨hil,hbi,hK⟩ | ⟨hil,hbi,hrF⟩
   case inr=>
    subst hrF
    have HIL:=hid hil
    have hnle:¬i≤v.length:=by omega
    have dle:decide ((i:Int)≤(v.length:Int))=false:=decide_eq_false (by omega)
    clear hil hbi
    go_wp2_with fail
    exact ⟨⟨k+1,by omega,by go_num,HG2.out,HZ2.out,by rw [HSNk.out];exact HR2.out⟩,by simp [intOf];omega⟩
   have dle:decide ((i:Int)≤(v.length:Int))=true:=decide_eq_true (by omega)
   have HK:=hid hK
   clear hK
   by_cases hend:i < v.length
   case neg=>
    have hie:i=v.length:=by omega
    have HX:=hid (show heedD r (trim ((v.drop b).take (i-b)))=F from by rw [←goK_end (q:=q) hend];exact HK.out)
    obtain ⟨cu,hcu⟩:∃cu,cu=(v.drop b).take (i-b):=⟨_,rfl⟩
    have hcl:cu.length≤100000:=by rw [hcu,List.length_take,List.length_drop];omega
    rw [←hcu] at HX
    have HCU:=hid hcu.symm
    have dlt:decide ((i:Int) < (v.length:Int))=false:=decide_eq_false (by omega)
    have deq:((i:Int)==(v.length:Int))=true:=by rw [beq_iff_eq];omega
    have hib:(b:Int)≤(i:Int):=by omega
    have hiv:(i:Int)≤(v.length:Int):=by omega
    have hcu2:List.take (i-b) (List.drop b v)=cu:=HCU.out
    have HTR:=hid (fun (y:World)=>trim_any cu y (by omega))
    have htl:=trim_le cu
    clear hcu hie
    go_wp2_with (first
     | (go_at_call 138;refine (HTR.out _).mono ?_;rintro e w3 ⟨rfl,h3⟩;have HHD:=hid (ctHeed_any (g+1) r (trim cu) w3 (HR2.out.gr h3) (HMM.out.gr (Gr.tr HG2.out h3)) (by omega)))
     | (go_at_call 152;refine HHD.out.mono ?_;rintro e w4 ⟨rfl,hb4,hby4⟩;have HB4:=hid hb4;have HG4:=hid (gr_of_byK (Gr.tr HG2.out h3) hby4 HLO.out.2);have HZ4:=hid (show Bk w4 g 147 #[.int .i64 0,.int .i64 0,.int .i64 0,.int .i64 0,.bool false,.bool false,.bool false] (0,0) from (hby4.block g (HZ2.out.gr h3).lt (by simp)).trans (HZ2.out.gr h3));clear hb4 hby4))
    exact ⟨⟨i+1,i+1,q,F,.inr ⟨by omega,rfl,rfl⟩,by go_num,rfl,by go_num,HG4.out,HZ4.out,by rw [←HX.out];exact HB4.out⟩,by simp [intOf];omega⟩
   have dlt:decide ((i:Int) < (v.length:Int))=true:=decide_eq_true (by omega)
   have deq:((i:Int)==(v.length:Int))=false:=by rw [beq_eq_false_iff_ne];omega
   have hAt:=HK.out
   rw [goK_at hend] at hAt
   have HSC:=hid (cur_snoc v b i hbi hend)
   have hx:v[i].toNat≤255:=by have:=v[i].toNat_lt;omega
   by_cases c34:v[i].toNat=34
   ·have hc:v[i]=34:=UInt8.toNat_inj.1 c34
    rw [hc] at hAt
    rw [if_neg (by simp),if_pos (by rfl)] at hAt
    have HN:=hid (show ParI v F (i+1) b (!q) r from .inl ⟨by omega,by omega,by rw [←HSC.out,hc];exact hAt⟩)
    clear hAt HK hc
    have ddeq34:(((v[i].toNat:Nat):Int)==34)=true:=by simp;omega
    have ddeq44:(((v[i].toNat:Nat):Int)==44)=false:=by simp;omega
    go_wp2_with fail
    exact ⟨⟨i+1,b,!q,r,HN.out,rfl,rfl,by go_num,HG2.out,HZ2.out,HR2.out⟩,by simp [intOf];omega⟩
   have e34:((v[i].toNat:Int)==34)=false:=by rw [beq_eq_false_iff_ne];omega
   have hc34:(v[i]==34)=false:=by rw [beq_eq_false_iff_ne];intro h;rw [h] at c34;exact c34 rfl
   by_cases c44:v[i].toNat=44
   ·have hc:v[i]=44:=UInt8.toNat_inj.1 c44
    have e44:((v[i].toNat:Int)==44)=true:=by rw [beq_iff_eq];omega
    cases q with
    | false=>
      rw [hc,if_pos (by rfl)] at hAt
      obtain ⟨cu,hcu⟩:∃cu,cu=(v.drop b).take (i-b):=⟨_,rfl⟩
      have hcl:cu.length≤100000:=by rw [hcu,List.length_take,List.length_drop];omega
      rw [←hcu] at hAt
      have HN:=hid (show ParI v F (i+1) (i+1) false (heedD r (trim cu)) from .inl ⟨by omega,Nat.le_refl _,by rw [Nat.sub_self,List.take_zero];exact hAt⟩)
      have hcu2:List.take (i-b) (List.drop b v)=cu:=hcu.symm
      have hib:(b:Int)≤(i:Int):=by omega
      have hiv:(i:Int)≤(v.length:Int):=by omega
      have HTR:=hid (fun (y:World)=>trim_any cu y (by omega))
      have htl:=trim_le cu
      clear hAt HK hc hcu c34 c44 hc34
      go_wp2_with (first
       | (go_at_call 138;refine (HTR.out _).mono ?_;rintro e w3 ⟨rfl,h3⟩;have HHD:=hid (ctHeed_any (g+1) r (trim cu) w3 (HR2.out.gr h3) (HMM.out.gr (Gr.tr HG2.out h3)) (by omega)))
       | (go_at_call 152;refine HHD.out.mono ?_;rintro e w4 ⟨rfl,hb4,hby4⟩;have HB4:=hid hb4;have HG4:=hid (gr_of_byK (Gr.tr HG2.out h3) hby4 HLO.out.2);have HZ4:=hid (show Bk w4 g 147 #[.int .i64 0,.int .i64 0,.int .i64 0,.int .i64 0,.bool false,.bool false,.bool false] (0,0) from (hby4.block g (HZ2.out.gr h3).lt (by simp)).trans (HZ2.out.gr h3));clear hb4 hby4))
      exact ⟨⟨i+1,i+1,false,_,HN.out,by go_num,rfl,by go_num,HG4.out,HZ4.out,HB4.out⟩,by simp [intOf];omega⟩
    | true=>
      rw [if_neg (by simp),hc34,if_neg (by simp)] at hAt
      have HN:=hid (show ParI v F (i+1) b true r from .inl ⟨by omega,by omega,by rw [←HSC.out];exact hAt⟩)
      clear hAt HK hc c34 c44 hc34
      go_wp2_with fail
      exact ⟨⟨i+1,b,true,r,HN.out,rfl,rfl,by go_num,HG2.out,HZ2.out,HR2.out⟩,by simp [intOf];omega⟩
   ·have e44:((v[i].toNat:Int)==44)=false:=by rw [beq_eq_false_iff_ne];omega
    have hc44:(v[i]==44)=false:=by rw [beq_eq_false_iff_ne];intro h;rw [h] at c44;exact c44 rfl
    rw [hc44,hc34,if_neg (by simp),if_neg (by simp)] at hAt
    have HN:=hid (show ParI v F (i+1) b q r from .inl ⟨by omega,by omega,by rw [←HSC.out];exact hAt⟩)
    clear hAt HK c34 c44 hc34 hc44
    go_wp2_with fail
    exact ⟨⟨i+1,b,q,r,HN.out,rfl,rfl,by go_num,HG2.out,HZ2.out,HR2.out⟩,by simp [intOf];omega⟩
set_option maxHeartbeats 4000000 in
theorem ctAge_any (s:List UInt8) (n:Int) (w:World) (hl:s.length≤1000000) (h:numC (trim s)=some n):Calls Tryz.prog 79 #[str s] w fun e w'=>e=.returned (.tuple #[.int .i64 n,.int .i64 0])∧Gr w w':=by
 have htl:=trim_le s
 have HTR:=hid (fun (y:World)=>trim_any s y (by omega))
 have HNM:=hid (fun (y:World)=>show Calls Tryz.prog 155 #[str (trim s)] y (fun e w'=>e=.returned (.tuple #[.int .i64 n,.bool true])∧y=w') from by have h2:=ctNum_any (trim s) y (by omega);rw [h] at h2;exact h2)
 clear h
 go_enter Tryz.func79,Tryz.ntmps79
 go_wp2_with (first
  | (go_at_call 138;refine (HTR.out _).mono ?_;rintro e w3 ⟨rfl,h3⟩)
  | (go_at_call 155;refine (HNM.out _).mono ?_;rintro e w4 ⟨rfl,rfl⟩))
 go_ret2
 exact ⟨rfl,h3⟩
end Go.Proofs.YtflepnkpihfidaaGreatDoor
namespace Go.Proofs.YtflepnkpihfidaaGreatDoor
open Lib (hid)
open Go.RowKit
theorem box3k (w:World) (c1 c2 c3:Array Value) (t1 t2 t3:TypeId):let w3:=((w.alloc (Obj.cells c1 t1)).alloc (Obj.cells c2 t2)).alloc (Obj.cells c3 t3)
  Bk w3 w.heap.size t1 c1 (0,0)∧Bk w3 (w.heap.size+1) t2 c2 (0,0)∧Bk w3 (w.heap.size+1+1) t3 c3 (0,0)∧Gr w w3:=by
 obtain ⟨b0,b1,hg⟩:=two_box w c1 c2 t1 t2
 have hgx:=Gr.al (Gr.refl ((w.alloc (Obj.cells c1 t1)).alloc (Obj.cells c2 t2))) (Obj.cells c3 t3)
 refine ⟨b0.gr hgx,b1.gr hgx,?_,Gr.tr hg hgx⟩
 have hs:((w.alloc (Obj.cells c1 t1)).alloc (Obj.cells c2 t2)).heap.size=w.heap.size+1+1:=by
  show ((w.heap.push _).push _).size=_
  simp
 have:=Bk.new ((w.alloc (Obj.cells c1 t1)).alloc (Obj.cells c2 t2)) t3 c3 (0,0)
 rw [hs] at this
 exact this
theorem own_bzk {W0 W1 w:World} {e:TypeId} {size n:Nat} {v:Value} {xs:List Value} (h:Own W1 w e size v n xs) (hb:W0.heap.size≤W1.heap.size):Own W0 w e size v n xs:=by
 refine ⟨h.1,?_⟩
 rcases h.2 with h0 | ⟨b,cap,cur,hv,hl,r⟩
 ·exact .inl h0
 ·exact .inr ⟨b,cap,cur,hv,Nat.le_trans hb hl,r⟩
theorem within_neg (w:World):Calls Tryz.prog 151 #[.int .i64 (-1)] w fun e w'=>e=.returned (.int .i64 0)∧Gr w w':=by
 go_enter Tryz.func151,Tryz.ntmps151
 go_wp2_with fail
 go_ret
 exact ⟨rfl,Gr.refl _⟩
theorem within_tick (n:Int) (w:World) (h:0≤n∧n≤1099511627776):Calls Tryz.prog 151 #[.int .i64 (if n=0 then -1 else n)] w fun e w'=>e=.returned (.int .i64 n)∧Gr w w':=by
 by_cases h0:n=0
 ·rw [if_pos h0,h0];exact within_neg w
 ·rw [if_neg h0];exact within_any n w h.1 h.2
def tickM (m:MetaT):MetaT:=⟨([],false),0,0,0,m.fr,m.wh,m.er,[],[],m.keep⟩
def zeroM:MetaT:=⟨([],false),0,0,0,0,0,0,[],[],false⟩
set_option maxHeartbeats 16000000 in
set_option maxRecDepth 100000 in
theorem ctApply_rule (m:MetaT) (w:World) (hm:MetaOk m):Calls Tryz.prog 75 #[metaV zeroM (.slice none 0 0),ruleVal (ruleM m)] w fun e w'=>∃vk,e=.returned (metaV (tickM m) vk)∧Own w w' 9 1 vk 0 []∧Gr w w':=by
 have hfr:=hm.fr
 have HW:=hid (fun (y:World)=>within_tick m.wh y hm.wh)
 have HE:=hid (fun (y:World)=>within_tick m.er y hm.er)
 have HF:=hid (fun (y:World)=>within_any m.fr y hfr.1 hfr.2)
 unfold metaV metaCs ruleVal ruleAs ruleM tickM zeroM
 simp only
 generalize (if m.wh=0 then (-1:Int) else m.wh)=wh0 at *
 generalize (if m.er=0 then (-1:Int) else m.er)=er0 at *
 generalize m.keep=kp at *
 obtain ⟨b0,b1,b2,hg3⟩:=box3k w #[str [],.bool false,.int .i64 0,.int .i64 0,.int .i64 0,.int .i64 0,.int .i64 0,.int .i64 0,.slice none 0 0,str [],.bool false] #[.int .i64 (-1),.int .i64 m.fr,.int .i64 wh0,.int .i64 er0,.bool (!kp),.bool false,.bool false] #[str [],.bool false,.int .i64 0,.int .i64 0,.int .i64 0,.int .i64 0,.int .i64 0,.int .i64 0,.slice none 0 0,str [],.bool false] 66 147 66
 go_enter Tryz.func75,Tryz.ntmps75
 go_upto_region 1 with fail
 refine at_world (P:=Code.wp _ _ _ _) (w0:=((w.alloc (Obj.cells #[str [],.bool false,.int .i64 0,.int .i64 0,.int .i64 0,.int .i64 0,.int .i64 0,.int .i64 0,.slice none 0 0,str [],.bool false] 66)).alloc (Obj.cells #[.int .i64 (-1),.int .i64 m.fr,.int .i64 wh0,.int .i64 er0,.bool (!kp),.bool false,.bool false] 147)).alloc (Obj.cells #[str [],.bool false,.int .i64 0,.int .i64 0,.int .i64 0,.int .i64 0,.int .i64 0,.int .i64 0,.slice none 0 0,str [],.bool false] 66)) ?_
 intro w3 hw3
 rw [←hw3] at b0 b1 b2 hg3
 clear hw3
 generalize hgq:w.heap.size=g at *
 have HLO:=hid (show w.heap.size≤g∧w.heap.size≤g+1+1 from by omega)
 have HG3:=hid hg3
 have HM3:=hid b0
 have HR3:=hid b1
 have HZ3:=hid b2
 have y8:w3.cell? ⟨g,8,none⟩=some (.slice none 0 0):=b0.cell 8
 have e8:=b0.free 8 (.inr (Nat.zero_le _))
 clear b0 b1 b2 hg3 hgq
 go_upto_region 2 with (at_builtin;refine wpList_appS (W0:=w3) (n:=0) (m:=0) (xs:=[]) (news:=[]) (u:=.slice none 0 0) elemStr rfl _ _ rfl rfl rfl (Nat.le_refl _) (Own.nil _ _ _ _) ⟨none,0,rfl,Nat.le_refl _,by omega,.inl rfl⟩ rfl (by simp) (by omega) (by decide) ?_;intro v4 w4 hown4x happ4;have hown4:Own w3 w4 9 1 v4 0 []:=hown4x;obtain ⟨Ak,ck,rfl⟩:=hown4.form;have h4:=gr_none happ4.grown;have y8:=h4.cell y8;have e8:=(HM3.out.gr h4).free 8 (.inr (Nat.zero_le _)))
 refine at_world (P:=Code.wp _ _ _ _) (w0:=w4.setCell ⟨g,8,none⟩ (.slice Ak 0 ck)) ?_
 intro w5 hw5
 have HM5:=hid (show Bk w5 g 66 #[str [],.bool false,.int .i64 0,.int .i64 0,.int .i64 0,.int .i64 0,.int .i64 0,.int .i64 0,(.slice Ak 0 ck),str [],.bool false] (0,0) from by rw [hw5];simpa using (HM3.out.gr h4).set 8 (.slice Ak 0 ck))
 have hby5:w4.grownBy w5 (some g):=by rw [hw5];exact by_st ((Gr.refl _).by _) _ _
 have HO5:=hid (show Own w3 w5 9 1 (.slice Ak 0 ck) 0 [] from by rw [hw5];exact Own.set hown4 (own_ne_ty hown4 (HM3.out.gr h4) (by decide)) 8 _)
 have HR5:=hid (show Bk w5 (g+1) 147 #[.int .i64 (-1),.int .i64 m.fr,.int .i64 wh0,.int .i64 er0,.bool (!kp),.bool false,.bool false] (0,0) from (hby5.block (g+1) (HR3.out.gr h4).lt (by simp)).trans (HR3.out.gr h4))
 have HZ5:=hid (show Bk w5 (g+1+1) 66 #[str [],.bool false,.int .i64 0,.int .i64 0,.int .i64 0,.int .i64 0,.int .i64 0,.int .i64 0,.slice none 0 0,str [],.bool false] (0,0) from (hby5.block (g+1+1) (HZ3.out.gr h4).lt (by simp;omega)).trans (HZ3.out.gr h4))
 have HG5:=hid (gr_of_byK (Gr.tr HG3.out h4) hby5 HLO.out.1)
 clear hw5 hby5 hown4 hown4x happ4 h4 y8 e8 HM3 HR3 HZ3
 go_cut [] (fun wx=>wx=w5.setCell ⟨g,10,none⟩ (.bool kp))
 case first=>
  have m10:=HM5.out.cell 10
  have f10:=HM5.out.free 10 (.inr (Nat.zero_le _))
  have r4:=HR5.out.cell 4
  have r6:=HR5.out.cell 6
  simp only [List.getElem?_toArray,List.getElem?_cons_zero,List.getElem?_cons_succ] at m10 r4 r6
  cases kp
  all_goals
   simp only [Bool.not_true,Bool.not_false] at r4
   go_wp2_with fail
   go_meet
   rfl
 case rest=>
 have HM6:=hid (show Bk wc g 66 #[str [],.bool false,.int .i64 0,.int .i64 0,.int .i64 0,.int .i64 0,.int .i64 0,.int .i64 0,(.slice Ak 0 ck),str [],.bool kp] (0,0) from by rw [hcut];simpa using HM5.out.set 10 (.bool kp))
 have hby6:w5.grownBy wc (some g):=by rw [hcut];exact by_st ((Gr.refl _).by _) _ _
 have HO6:=hid (show Own w3 wc 9 1 (.slice Ak 0 ck) 0 [] from by rw [hcut];exact Own.set HO5.out (own_ne_ty HO5.out HM5.out (by decide)) 10 _)
 have HR6:=hid (show Bk wc (g+1) 147 #[.int .i64 (-1),.int .i64 m.fr,.int .i64 wh0,.int .i64 er0,.bool (!kp),.bool false,.bool false] (0,0) from (hby6.block (g+1) HR5.out.lt (by simp)).trans HR5.out)
 have HZ6:=hid (show Bk wc (g+1+1) 66 #[str [],.bool false,.int .i64 0,.int .i64 0,.int .i64 0,.int .i64 0,.int .i64 0,.int .i64 0,.slice none 0 0,str [],.bool false] (0,0) from (hby6.block (g+1+1) HZ5.out.lt (by simp;omega)).trans HZ5.out)
 have HG6:=hid (gr_of_byK HG5.out hby6 HLO.out.1)
 clear hcut hby6 HM5 HO5 HR5 HZ5 HG5
 generalize wc=w6 at *
 have m5:=HM6.out.cell 5;have m6:=HM6.out.cell 6;have m7:=HM6.out.cell 7
 have f5:=HM6.out.free 5 (.inr (Nat.zero_le _));have f6:=HM6.out.free 6 (.inr (Nat.zero_le _));have f7:=HM6.out.free 7 (.inr (Nat.zero_le _))
 have r1:=HR6.out.cell 1;have r5:=HR6.out.cell 5
 simp only [List.getElem?_toArray,List.getElem?_cons_zero,List.getElem?_cons_succ] at m5 m6 m7 r1 r5
 have dge:decide (0≤m.fr)=true:=decide_eq_true hfr.1
 have hge:=hfr.1
 go_upto_region 7 with fail
 clear m5 m6 m7 f5 f6 f7 r1 r5 dge hge
 refine at_world (P:=Code.wp _ _ _ _) (w0:=((w6.setCell ⟨g,5,none⟩ (.int .i64 0)).setCell ⟨g,6,none⟩ (.int .i64 0)).setCell ⟨g,7,none⟩ (.int .i64 0)) ?_
 intro w7 hw7
 have HM7:=hid (show Bk w7 g 66 #[str [],.bool false,.int .i64 0,.int .i64 0,.int .i64 0,.int .i64 0,.int .i64 0,.int .i64 0,(.slice Ak 0 ck),str [],.bool kp] (0,0) from by rw [hw7];simpa using ((HM6.out.set 5 (.int .i64 0)).set 6 (.int .i64 0)).set 7 (.int .i64 0))
 have hby7:w6.grownBy w7 (some g):=by rw [hw7];exact by_st (by_st (by_st ((Gr.refl _).by _) _ _) _ _) _ _
 have HO7:=hid (show Own w3 w7 9 1 (.slice Ak 0 ck) 0 [] from own_kr HO6.out hby7 (.inr (own_ne_ty HO6.out HM6.out (by decide))))
 have HR7:=hid (show Bk w7 (g+1) 147 #[.int .i64 (-1),.int .i64 m.fr,.int .i64 wh0,.int .i64 er0,.bool (!kp),.bool false,.bool false] (0,0) from (hby7.block (g+1) HR6.out.lt (by simp)).trans HR6.out)
 have HZ7:=hid (show Bk w7 (g+1+1) 66 #[str [],.bool false,.int .i64 0,.int .i64 0,.int .i64 0,.int .i64 0,.int .i64 0,.int .i64 0,.slice none 0 0,str [],.bool false] (0,0) from (hby7.block (g+1+1) HZ6.out.lt (by simp;omega)).trans HZ6.out)
 have HG7:=hid (gr_of_byK HG6.out hby7 HLO.out.1)
 clear hw7 hby7 HM6 HO6 HR6 HZ6 HG6
 have r1:=HR7.out.cell 1
 simp only [List.getElem?_toArray,List.getElem?_cons_zero,List.getElem?_cons_succ] at r1
 go_upto_region 9 with (go_at_call 151;refine (HF.out _).mono ?_;rintro e w8 ⟨rfl,h8⟩;have m5:=(HM7.out.gr h8).cell 5;have f5:=(HM7.out.gr h8).free 5 (.inr (Nat.zero_le _));simp only [List.getElem?_toArray,List.getElem?_cons_zero,List.getElem?_cons_succ] at m5)
 refine at_world (P:=Code.wp _ _ _ _) (w0:=w8.setCell ⟨g,5,none⟩ (.int .i64 m.fr)) ?_
 intro w9 hw9
 have HM9:=hid (show Bk w9 g 66 #[str [],.bool false,.int .i64 0,.int .i64 0,.int .i64 0,.int .i64 m.fr,.int .i64 0,.int .i64 0,(.slice Ak 0 ck),str [],.bool kp] (0,0) from by rw [hw9];simpa using (HM7.out.gr h8).set 5 (.int .i64 m.fr))
 have hby9:w8.grownBy w9 (some g):=by rw [hw9];exact by_st ((Gr.refl _).by _) _ _
 have HO9:=hid (show Own w3 w9 9 1 (.slice Ak 0 ck) 0 [] from own_kr (HO7.out.gr h8) hby9 (.inr (own_ne_ty (HO7.out.gr h8) (HM7.out.gr h8) (by decide))))
 have HR9:=hid (show Bk w9 (g+1) 147 #[.int .i64 (-1),.int .i64 m.fr,.int .i64 wh0,.int .i64 er0,.bool (!kp),.bool false,.bool false] (0,0) from (hby9.block (g+1) (HR7.out.gr h8).lt (by simp)).trans (HR7.out.gr h8))
 have HZ9:=hid (show Bk w9 (g+1+1) 66 #[str [],.bool false,.int .i64 0,.int .i64 0,.int .i64 0,.int .i64 0,.int .i64 0,.int .i64 0,.slice none 0 0,str [],.bool false] (0,0) from (hby9.block (g+1+1) (HZ7.out.gr h8).lt (by simp;omega)).trans (HZ7.out.gr h8))
 have HG9:=hid (gr_of_byK (Gr.tr HG7.out h8) hby9 HLO.out.1)
 clear hw9 hby9 h8 m5 f5 r1 HM7 HO7 HR7 HZ7 HG7
 have r2:=HR9.out.cell 2
 have r3:=HR9.out.cell 3
 simp only [List.getElem?_toArray,List.getElem?_cons_zero,List.getElem?_cons_succ] at r2 r3
 have x2:=gx_cell (r:=some g) r2 (by simp)
 have x3:=gx_cell (r:=some g) r3 (by simp)
 refine wp_region_mix [0,1,2,3,4,5,6] (some g) 3 (by kernel_rfl) rfl (by kernel_rfl) (fun o _ _ _ _ h=>by cases o <;> exact h) ?_
 simp only [pickOps,List.filterMap_cons,List.filterMap_nil,List.getElem?_cons_zero,List.getElem?_cons_succ]
 repeat (first | (refine wpGq_step (fun K hK=>?_);go_simp;refine hK _ ?_;clear hK K) | (refine wpGq_step (fun K hK=>?_);go_simp;simp only [↓IntWalk.iteOmega];go_simp;refine hK _ ?_;clear hK K) | (refine wpGq_step (fun K hK=>?_);go_simp;apply Exists.intro;refine ⟨fun _=>?_,hK _ ?_⟩;(go_at_call 151;first | exact HW.out _ | exact HE.out _);clear hK K))
 refine wpGq_nil ?_
 clear x2 x3 r2 r3
 refine wpG_one 7 (by kernel_rfl) rfl rfl (fun K hK wa hga=>?_)
 have m6:=(HM9.out.gr hga).cell 6
 have f6:=(HM9.out.gr hga).free 6 (.inr (Nat.zero_le _))
 simp only [List.getElem?_toArray,List.getElem?_cons_zero,List.getElem?_cons_succ] at m6
 go_simp
 refine hK _ _ (by_st (hga.by _) _ _) ?_
 clear hK K m6 f6
 have hbA:Bk (wa.setCell ⟨g,6,none⟩ (.int .i64 m.wh)) g 66 #[str [],.bool false,.int .i64 0,.int .i64 0,.int .i64 0,.int .i64 m.fr,.int .i64 m.wh,.int .i64 0,(.slice Ak 0 ck),str [],.bool kp] (0,0):=by simpa using (HM9.out.gr hga).set 6 (.int .i64 m.wh)
 have hyA:w9.grownBy (wa.setCell ⟨g,6,none⟩ (.int .i64 m.wh)) (some g):=by_st (hga.by _) _ _
 generalize wa.setCell ⟨g,6,none⟩ (.int .i64 m.wh)=wb at *
 refine wpG_one 8 (by kernel_rfl) rfl rfl (fun K hK wx hgx=>?_)
 go_simp
 refine hK _ _ (by_tr hyA hgx) ?_
 clear hK K
 refine wpG_one 9 (by kernel_rfl) rfl rfl (fun K hK wc hgc'=>?_)
 have hgc:=Gr.tr hgx hgc'
 have m7:=(hbA.gr hgc).cell 7
 have f7:=(hbA.gr hgc).free 7 (.inr (Nat.zero_le _))
 simp only [List.getElem?_toArray,List.getElem?_cons_zero,List.getElem?_cons_succ] at m7
 go_simp
 refine hK _ _ (by_st (by_tr hyA hgc) _ _) ?_
 clear hK K m7 f7
 have hbB:Bk (wc.setCell ⟨g,7,none⟩ (.int .i64 m.er)) g 66 #[str [],.bool false,.int .i64 0,.int .i64 0,.int .i64 0,.int .i64 m.fr,.int .i64 m.wh,.int .i64 m.er,(.slice Ak 0 ck),str [],.bool kp] (0,0):=by simpa using (hbA.gr hgc).set 7 (.int .i64 m.er)
 have hyB:w9.grownBy (wc.setCell ⟨g,7,none⟩ (.int .i64 m.er)) (some g):=by_st (by_tr hyA hgc) _ _
 generalize wc.setCell ⟨g,7,none⟩ (.int .i64 m.er)=wd at *
 refine wpG_done (by kernel_rfl) (fun wz hgz=>?_)
 have hbZ:=hbB.gr hgz
 have hyZ:=by_tr hyB hgz
 have HMZ:=hid hbZ
 have HOZ:=hid (show Own w3 wz 9 1 (.slice Ak 0 ck) 0 [] from own_kr HO9.out hyZ (.inr (own_ne_ty HO9.out HM9.out (by decide))))
 have HZZ:=hid (show Bk wz (g+1+1) 66 #[str [],.bool false,.int .i64 0,.int .i64 0,.int .i64 0,.int .i64 0,.int .i64 0,.int .i64 0,.slice none 0 0,str [],.bool false] (0,0) from (hyZ.block (g+1+1) HZ9.out.lt (by simp;omega)).trans HZ9.out)
 have HGZ:=hid (gr_of_byK HG9.out hyZ HLO.out.1)
 clear hbZ hyZ hbB hyB hbA hyA hga hgc hgz HM9 HO9 HR9 HZ9 HG9
 have m0:=HMZ.out.cell 0;have m1:=HMZ.out.cell 1;have m2:=HMZ.out.cell 2;have m3:=HMZ.out.cell 3;have m4:=HMZ.out.cell 4;have m5:=HMZ.out.cell 5;have m6:=HMZ.out.cell 6;have m7:=HMZ.out.cell 7;have m8:=HMZ.out.cell 8;have m9:=HMZ.out.cell 9;have m10:=HMZ.out.cell 10
 have z0:=HZZ.out.cell 0;have z1:=HZZ.out.cell 1;have z2:=HZZ.out.cell 2;have z3:=HZZ.out.cell 3;have z4:=HZZ.out.cell 4;have z5:=HZZ.out.cell 5;have z6:=HZZ.out.cell 6;have z7:=HZZ.out.cell 7;have z8:=HZZ.out.cell 8;have z9:=HZZ.out.cell 9;have z10:=HZZ.out.cell 10
 have f0:=HZZ.out.free 0 (.inr (Nat.zero_le _));have f1:=HZZ.out.free 1 (.inr (Nat.zero_le _));have f2:=HZZ.out.free 2 (.inr (Nat.zero_le _));have f3:=HZZ.out.free 3 (.inr (Nat.zero_le _));have f4:=HZZ.out.free 4 (.inr (Nat.zero_le _));have f5:=HZZ.out.free 5 (.inr (Nat.zero_le _));have f6:=HZZ.out.free 6 (.inr (Nat.zero_le _));have f7:=HZZ.out.free 7 (.inr (Nat.zero_le _));have f8:=HZZ.out.free 8 (.inr (Nat.zero_le _));have f9:=HZZ.out.free 9 (.inr (Nat.zero_le _));have f10:=HZZ.out.free 10 (.inr (Nat.zero_le _))
 simp only [List.getElem?_toArray,List.getElem?_cons_zero,List.getElem?_cons_succ] at m0 m1 m2 m3 m4 m5 m6 m7 m8 m9 m10 z0 z1 z2 z3 z4 z5 z6 z7 z8 z9 z10
 go_wp2_with fail
 refine at_world (P:=bodyPost _ _ _ _ _) (w0:=putCs wz (g+1+1) [str [],.bool false,.int .i64 0,.int .i64 0,.int .i64 0,.int .i64 m.fr,.int .i64 m.wh,.int .i64 m.er,(.slice Ak 0 ck),str [],.bool kp] 0) ?_
 intro wy hwy
 have hy:Bk wy (g+1+1) 66 #[str [],.bool false,.int .i64 0,.int .i64 0,.int .i64 0,.int .i64 m.fr,.int .i64 m.wh,.int .i64 m.er,(.slice Ak 0 ck),str [],.bool kp] (0,0):=by rw [hwy];exact putCs_bk HZZ.out rfl
 have hyy:wz.grownBy wy (some (g+1+1)):=by rw [hwy];exact putCs_by _ _ _ _ ((Gr.refl _).by _)
 have u0:=hy.cell 0;have u1:=hy.cell 1;have u2:=hy.cell 2;have u3:=hy.cell 3;have u4:=hy.cell 4;have u5:=hy.cell 5;have u6:=hy.cell 6;have u7:=hy.cell 7;have u8:=hy.cell 8;have u9:=hy.cell 9;have u10:=hy.cell 10
 simp only [List.getElem?_toArray,List.getElem?_cons_zero,List.getElem?_cons_succ] at u0 u1 u2 u3 u4 u5 u6 u7 u8 u9 u10
 refine bodyPost_ret (v:=.agg #[str [],.bool false,.int .i64 0,.int .i64 0,.int .i64 0,.int .i64 m.fr,.int .i64 m.wh,.int .i64 m.er,(.slice Ak 0 ck),str [],.bool kp]) (by simp [results,Tryz.results75,go_sem,u0,u1,u2,u3,u4,u5,u6,u7,u8,u9,u10]) rfl ?_
 exact ⟨.slice Ak 0 ck,rfl,own_bzk (own_kr HOZ.out hyy (.inr (own_ne_ty HOZ.out HZZ.out (by decide)))) HG3.out.size,by rw [hwy];exact putCs_gr HLO.out.2 _ _ _ HGZ.out⟩
end Go.Proofs.YtflepnkpihfidaaGreatDoor
namespace Go.Proofs.YtflepnkpihfidaaGreatDoor
open Lib (hid)
open Go.RowKit
theorem numB_itoa {x:Int} (h:0≤x) (h2:x < 1000000000000000000):((numB (Lib.itoa x):Nat):Int)=x∧1≤(Lib.itoa x).length∧(Lib.itoa x).length≤18:=by
 obtain ⟨m,rfl⟩:∃m:Nat,x=m:=⟨x.toNat,by omega⟩
 rw [itoa_nat]
 have hn:=number_dec m
 rw [if_pos (by omega)] at hn
 unfold numberL at hn
 split at hn
 ·rename_i hh
  injection hn with hn
  exact ⟨by rw [hn],hh.1,hh.2.1⟩
 ·cases hn
theorem dec_head:∀(n:Nat),10≤n→∀(h:0 < (Lib.decDigits n).length),(Lib.decDigits n)[0]≠48:=by
 intro n
 induction n using Nat.strongRecOn with
 | ind n ih=>
   intro hn h
   have e:Lib.decDigits n=Lib.decDigits (n / 10)++[UInt8.ofNat (48+n % 10)]:=by rw [Lib.decDigits,dif_neg (by omega)]
   have hl:0 < (Lib.decDigits (n / 10)).length:=by
    rw [Lib.decDigits];split <;> simp
   have e2:(Lib.decDigits n)[0]=(Lib.decDigits (n / 10))[0]:=by
    simp only [e]
    rw [List.getElem_append_left hl]
   rw [e2]
   by_cases h10:10≤n / 10
   ·exact ih (n / 10) (by omega) h10 hl
   ·have e3:Lib.decDigits (n / 10)=[UInt8.ofNat (48+n / 10)]:=by rw [Lib.decDigits,dif_pos (by omega)]
    have e4:(Lib.decDigits (n / 10))[0]=UInt8.ofNat (48+n / 10):=by simp only [e3];rfl
    rw [e4]
    intro hh
    have:=congrArg UInt8.toNat hh
    rw [UInt8.toNat_ofNat'] at this
    have e5:(48:UInt8).toNat=48:=rfl
    omega
theorem itoa_head {x:Int} (h0:0≤x):(Lib.itoa x).length=1∨∃h:0 < (Lib.itoa x).length,(Lib.itoa x)[0]≠48:=by
 obtain ⟨m,rfl⟩:∃m:Nat,x=m:=⟨x.toNat,by omega⟩
 rw [itoa_nat]
 by_cases h:m < 10
 ·left;rw [Lib.decDigits,dif_pos h];rfl
 ·right
  have hl:0 < (Lib.decDigits m).length:=by rw [Lib.decDigits];split <;> simp
  exact ⟨hl,dec_head m (by omega) hl⟩
set_option maxHeartbeats 4000000 in
theorem metaNum_any (s:List UInt8) (w:World) (h1:1≤s.length) (h2:s.length≤18) (hd:s.all digC=true) (h0:s.length=1∨∃h:0 < s.length,s[0]≠48):Calls Tryz.prog 156 #[str s] w fun e w'=>e=.returned (.tuple #[.int .i64 (numB s:Nat),.bool true])∧w=w':=by
 have HD:=hid hd
 have hx0:s[0].toNat≤255:=by have:=s[0].toNat_lt;omega
 have k1:decide ((s.length:Int) < 1)=false:=decide_eq_false (by omega)
 have k2:decide (18 < (s.length:Int))=false:=decide_eq_false (by omega)
 have HKEY:=hid (show ((s[0].toNat:Int)==48)=false∨(((s[0].toNat:Int)==48)=true∧decide (1 < (s.length:Int))=false) from by
  by_cases h:s[0].toNat=48
  ·right
   refine ⟨by rw [beq_iff_eq];omega,decide_eq_false ?_⟩
   rcases h0 with h0 | ⟨_,h0⟩
   ·omega
   ·exact absurd (UInt8.toNat_inj.1 h) h0
  ·left;rw [beq_eq_false_iff_ne];omega)
 clear hd h0
 go_enter Tryz.func156,Tryz.ntmps156
 rcases HKEY.out with k3 | ⟨k3,k4⟩
 all_goals
  clear HKEY
  go_upto_region 5 with fail
  go_loop [2,3,4,5,26] (fun x2 x3 n x5 i=>∃k:Nat,k≤s.length∧i=.int .i64 k∧n=.int .i64 (numB (s.take k):Nat)∧(s.take k).all digC=true) (fun _ _ _ _ i=>s.length-(intOf i).toNat)
  case atStart=>exact ⟨0,Nat.zero_le _,rfl,rfl,rfl⟩
  case round=>
   obtain ⟨k,hk,rfl,rfl,hE⟩:=hrel
   have HE:=hid hE
   by_cases hlt:k < s.length
   ·have hb:=numB_lt (s.take k) hE
    rw [List.length_take,Nat.min_eq_left hk] at hb
    have hp:=pow18n k (by omega)
    have HS:=hid (numB_succ s k hlt)
    have hdk:=List.all_eq_true.1 HD.out s[k] (List.getElem_mem hlt)
    have HDK:=hid hdk
    have hdr:=dig_lo hdk
    clear hE hdk
    have hx:s[k].toNat≤255:=by have:=s[k].toNat_lt;omega
    have ddlt48:decide (((s[k].toNat:Nat):Int) < 48)=false:=decide_eq_false (by omega)
    have ddgt57:decide (57 < ((s[k].toNat:Nat):Int))=false:=decide_eq_false (by omega)
    generalize numB (s.take k)=N at *
    have e1:IntKind.i64.wrap ((N:Int)*10)=(N:Int)*10:=IntWalk.i64_in _ (by omega)
    have e2:IntKind.u8.wrap ((s[k].toNat:Int)-48)=(s[k].toNat:Int)-48:=by rw [IntKind.wrap_u8];omega
    have e3:IntKind.i64.wrap ((N:Int)*10+((s[k].toNat:Int)-48))=(N:Int)*10+((s[k].toNat:Int)-48):=IntWalk.i64_in _ (by omega)
    go_wp2_with fail
    exact ⟨⟨k+1,by omega,by go_num,by rw [HS.out];go_num,all_take_succ _ s k hlt HE.out HDK.out⟩,by simp [intOf];omega⟩
   ·obtain rfl:k=s.length:=by omega
    rw [List.take_length] at hE HE ⊢
    clear hE
    go_wp2_with fail
    go_ret2
    exact ⟨rfl,rfl⟩
theorem metaNum_itoa (x:Int) (h:0≤x) (h2:x < 1000000000000000000) (w:World):Calls Tryz.prog 156 #[str (Lib.itoa x)] w fun e w'=>e=.returned (.tuple #[.int .i64 x,.bool true])∧w=w':=by
 obtain ⟨n1,n2,n3⟩:=numB_itoa h h2
 have:=metaNum_any (Lib.itoa x) w n2 n3 (List.all_eq_true.2 (itoa_all h)) (itoa_head h)
 rw [n1] at this
 exact this
set_option maxHeartbeats 8000000 in
set_option maxRecDepth 100000 in
theorem metaLens_any (g:Nat) (cs:Array Value) (u:Value) (X:List Fld) (len hv h0:Int) (x:World) (hu:Flds x u X) (hs:Short2 X) (hne:u.ownBlock≠some g) (hb:Bk x g 66 cs (0,0)) (h3:cs[3]?=some (.int .i64 (-1))) (h4:cs[4]?=some (.int .i64 h0))
  (hl:-1≤len∧len≤1099511627776) (hh:0≤hv∧hv≤1099511627776) (hlv:len= -1∨hv=len) (k1:ofN X xlenN=[if len= -1 then [42] else Lib.itoa len]) (k2:ofN X xhavN=if len= -1 then [Lib.itoa hv] else []) :
  Calls Tryz.prog 82 #[u,.pointer (some ⟨g,0,none⟩)] x fun e x'=>e=.returned (.bool true)∧Bk x' g 66 ((cs.setIfInBounds 3 (.int .i64 len)).setIfInBounds 4 (.int .i64 hv)) (0,0)∧x.grownBy x' (some g):=by
 have hg1:getN X xlenN=(if len= -1 then [42] else Lib.itoa len,true):=by unfold getN;rw [k1]
 have hg2:getN X xhavN=if len= -1 then (Lib.itoa hv,true) else ([],false):=by
  unfold getN;rw [k2]
  by_cases h:len= -1
  ·rw [if_pos h,if_pos h]
  ·rw [if_neg h,if_neg h]
 have HB:=hid hb
 have H3:=hid h3
 have H4:=hid h4
 have y3:x.cell? ⟨g,3,none⟩=some (.int .i64 (-1)):=by rw [hb.cell];exact h3
 have y4:x.cell? ⟨g,4,none⟩=some (.int .i64 h0):=by rw [hb.cell];exact h4
 by_cases hlen:len= -1
 ·subst hlen
  rw [if_pos rfl] at hg1 hg2
  have HX1:=hid (fun (y:World) (gy:Gr x y)=>show Calls Tryz.prog 66 #[u,str xlenN] y (fun e w'=>e=.returned (.tuple #[str [42],.bool true])∧Gr y w') from by have h:=get_any u X xlenN y (hu.gr gy) hs (by decide);rw [hg1] at h;exact h)
  have HX2:=hid (fun (y:World) (gy:Flds y u X)=>show Calls Tryz.prog 66 #[u,str xhavN] y (fun e w'=>e=.returned (.tuple #[str (Lib.itoa hv),.bool true])∧Gr y w') from by have h:=get_any u X xhavN y gy hs (by decide);rw [hg2] at h;exact h)
  have HN:=hid (fun (y:World)=>metaNum_itoa hv hh.1 (by omega) y)
  have HU:=hid hu
  clear hu hb h3 h4 k1 k2 hg1 hg2 hlv hl hs
  go_enter Tryz.func82,Tryz.ntmps82
  go_upto_region 7 with (go_at_call 66;refine (HX1.out _ (Gr.refl x)).mono ?_;rintro e x1 ⟨rfl,hx1⟩)
  have HB1:=hid (HB.out.gr hx1)
  have y3a:=hx1.cell y3
  have y4a:=hx1.cell y4
  have e4:=HB1.out.free 4 (.inr (Nat.zero_le _))
  clear y3 y4
  go_upto_region 8 with fail
  refine at_world (P:=Code.wp _ _ _ _) (w0:=x1.setCell ⟨g,4,none⟩ (.int .i64 0)) ?_
  intro x2 hx2
  have hby2:x1.grownBy x2 (some g):=by rw [hx2];exact by_st ((Gr.refl _).by _) _ _
  have HB2:=hid (show Bk x2 g 66 (cs.setIfInBounds 4 (.int .i64 0)) (0,0) from by rw [hx2];exact HB1.out.set 4 _)
  have HU2:=hid (show Flds x2 u X from Sl.kept (HU.out.gr hx1) hby2 (.inr hne))
  have HBY2:=hid (by_trans (hx1.by (some g)) hby2)
  clear hx2 hby2 y3a y4a e4 hx1
  have y3:x2.cell? ⟨g,3,none⟩=some (.int .i64 (-1)):=by rw [HB2.out.cell,Array.getElem?_setIfInBounds_ne (by decide)];exact H3.out
  have y4:x2.cell? ⟨g,4,none⟩=some (.int .i64 0):=by
   have hlt:=(Array.getElem?_eq_some_iff.1 H4.out).1
   rw [HB2.out.cell,Array.getElem?_setIfInBounds_self_of_lt hlt]
  go_upto_region 10 with (go_at_call 66;refine (HX2.out _ HU2.out).mono ?_;rintro e x3 ⟨rfl,hx3⟩)
  have y3b:=hx3.cell y3
  have y4b:=hx3.cell y4
  have e4:=(HB2.out.gr hx3).free 4 (.inr (Nat.zero_le _))
  clear y3 y4
  go_wp2_with (go_at_call 156;refine (HN.out _).mono ?_;rintro e x4 ⟨rfl,rfl⟩)
  go_ret
  refine ⟨rfl,?_,by_st (by_tr HBY2.out hx3) _ _⟩
  have h:=(HB2.out.gr hx3).set 4 (.int .i64 hv)
  have e:(cs.setIfInBounds 4 (.int .i64 0)).setIfInBounds 4 (.int .i64 hv)=(cs.setIfInBounds 3 (.int .i64 (-1))).setIfInBounds 4 (.int .i64 hv):=by
   apply Array.ext_getElem?
   intro j
   by_cases hj:j=4
   ·subst hj
    have hlt:=(Array.getElem?_eq_some_iff.1 H4.out).1
    rw [Array.getElem?_setIfInBounds_self_of_lt (by simpa using hlt),Array.getElem?_setIfInBounds_self_of_lt (by simpa using hlt)]
   ·rw [Array.getElem?_setIfInBounds_ne (Ne.symm hj),Array.getElem?_setIfInBounds_ne (Ne.symm hj),Array.getElem?_setIfInBounds_ne (Ne.symm hj)]
    by_cases hj3:j=3
    ·subst hj3
     have hlt:=(Array.getElem?_eq_some_iff.1 H3.out).1
     rw [Array.getElem?_setIfInBounds_self_of_lt hlt,H3.out]
    ·rw [Array.getElem?_setIfInBounds_ne (Ne.symm hj3)]
  rw [←e];exact h
 ·obtain rfl:hv=len:=by rcases hlv with h | h;exact absurd h hlen;exact h
  rw [if_neg hlen] at hg1 hg2
  have HX1:=hid (fun (y:World) (gy:Gr x y)=>show Calls Tryz.prog 66 #[u,str xlenN] y (fun e w'=>e=.returned (.tuple #[str (Lib.itoa hv),.bool true])∧Gr y w') from by have h:=get_any u X xlenN y (hu.gr gy) hs (by decide);rw [hg1] at h;exact h)
  have HX2:=hid (fun (y:World) (gy:Flds y u X)=>show Calls Tryz.prog 66 #[u,str xhavN] y (fun e w'=>e=.returned (.tuple #[str [],.bool false])∧Gr y w') from by have h:=get_any u X xhavN y gy hs (by decide);rw [hg2] at h;exact h)
  have HN:=hid (fun (y:World)=>metaNum_itoa hv hh.1 (by omega) y)
  have HU:=hid hu
  have kst:(Lib.itoa hv==[42])=false:=by
   rw [beq_eq_false_iff_ne]
   intro h
   have:=itoa_all hh.1 42 (by rw [h];simp)
   revert this;decide
  have emx:max hv 0=hv:=by have:=hh.1;omega
  clear hu hb h3 h4 k1 k2 hg1 hg2 hlv hl hs
  generalize Lib.itoa hv=IT at *
  go_enter Tryz.func82,Tryz.ntmps82
  go_upto_region 3 with (go_at_call 66;refine (HX1.out _ (Gr.refl x)).mono ?_;rintro e x1 ⟨rfl,hx1⟩)
  clear kst
  have HB1:=hid (HB.out.gr hx1)
  have y3a:=hx1.cell y3
  have e3:=HB1.out.free 3 (.inr (Nat.zero_le _))
  clear y3 y4
  go_upto_region 7 with (go_at_call 156;refine (HN.out _).mono ?_;rintro e x4 ⟨rfl,rfl⟩)
  refine at_world (P:=Code.wp _ _ _ _) (w0:=x1.setCell ⟨g,3,none⟩ (.int .i64 hv)) ?_
  intro x2 hx2
  have hby2:x1.grownBy x2 (some g):=by rw [hx2];exact by_st ((Gr.refl _).by _) _ _
  have HB2:=hid (show Bk x2 g 66 (cs.setIfInBounds 3 (.int .i64 hv)) (0,0) from by rw [hx2];exact HB1.out.set 3 _)
  have HU2:=hid (show Flds x2 u X from Sl.kept (HU.out.gr hx1) hby2 (.inr hne))
  have HBY2:=hid (by_trans (hx1.by (some g)) hby2)
  clear hx2 hby2 y3a e3 hx1
  have y3:x2.cell? ⟨g,3,none⟩=some (.int .i64 hv):=by
   have hlt:=(Array.getElem?_eq_some_iff.1 H3.out).1
   rw [HB2.out.cell,Array.getElem?_setIfInBounds_self_of_lt hlt]
  have y4:x2.cell? ⟨g,4,none⟩=some (.int .i64 h0):=by rw [HB2.out.cell,Array.getElem?_setIfInBounds_ne (by decide)];exact H4.out
  have e4:=HB2.out.free 4 (.inr (Nat.zero_le _))
  go_upto_region 8 with fail
  refine at_world (P:=Code.wp _ _ _ _) (w0:=x2.setCell ⟨g,4,none⟩ (.int .i64 hv)) ?_
  intro x5 hx5
  have hby5:x2.grownBy x5 (some g):=by rw [hx5];exact by_st ((Gr.refl _).by _) _ _
  have HB5:=hid (show Bk x5 g 66 ((cs.setIfInBounds 3 (.int .i64 hv)).setIfInBounds 4 (.int .i64 hv)) (0,0) from by rw [hx5];exact HB2.out.set 4 _)
  have HU5:=hid (show Flds x5 u X from Sl.kept HU2.out hby5 (.inr hne))
  have HBY5:=hid (by_trans HBY2.out hby5)
  clear hx5 hby5 y3 y4 e4 emx
  go_wp2_with (go_at_call 66;refine (HX2.out _ HU5.out).mono ?_;rintro e x6 ⟨rfl,hx6⟩)
  go_ret
  exact ⟨rfl,HB5.out.gr hx6,by_tr HBY5.out hx6⟩
end Go.Proofs.YtflepnkpihfidaaGreatDoor
namespace Go.Proofs.YtflepnkpihfidaaGreatDoor
open Lib (hid)
open Go.RowKit
def blkN (x:Nat):Bool:=x==32||x==9
theorem blkN_byte (c:UInt8):blkN c.toNat=blk c:=by
 rw [Bool.eq_iff_iff,blk_iff]
 unfold blkN
 simp only [Bool.or_eq_true,beq_iff_eq]
 omega
theorem goFP_go (l:List UInt8) (ha:∀c∈l,c.toNat < 128):∀(f pos:Nat) (st:Option Nat) (acc:List (Nat×Nat)),l.length≤pos+f→pos≤l.length→(∀a,st=some a→a < pos)→
  (Lib.closeSpans ⟨l.toArray⟩ (Lib.spansFromP blkN ⟨l.toArray⟩ f pos st acc)).map (fun p=>(⟨l.toArray⟩:ByteArray).extract p.1 p.2) =
   acc.map (fun p=>(⟨l.toArray⟩:ByteArray).extract p.1 p.2)++(goF (match st with | none=>[] | some a=>(l.drop a).take (pos-a)) (l.drop pos)).map (fun k=>(⟨k.toArray⟩:ByteArray)):=by
 intro f
 have hsz:(⟨l.toArray⟩:ByteArray).size=l.length:=rfl
 induction f with
 | zero=>
   intro pos st acc h hp hst
   obtain rfl:pos=l.length:=by omega
   rw [Lib.spansFromP_end _ _ _ _ _ _ (by rw [hsz];omega),List.drop_length]
   cases st with
   | none=>simp [Lib.closeSpans,goF]
   | some a=>
     have hne:(l.drop a).take (l.length-a)≠[]:=fun h0=>by
      have:=congrArg List.length h0
      have:=hst a rfl
      simp at *;omega
     simp only [Lib.closeSpans,goF,if_neg hne,List.map_append,List.map_cons,List.map_nil,hsz,ba_extract]
 | succ f ih=>
   intro pos st acc h hp hst
   by_cases hlt:pos < l.length
   ·have hd:Utf8.decode ⟨l.toArray⟩ pos=(l[pos].toNat,1):=decode_ascii ⟨l.toArray⟩ pos hlt (ha _ (List.getElem_mem hlt))
    have hdr:l.drop pos=l[pos]::l.drop (pos+1):=List.drop_eq_getElem_cons hlt
    unfold Lib.spansFromP
    rw [if_pos (by rw [hsz];exact hlt),hd,hdr,goF]
    simp only [blkN_byte]
    by_cases hb:blk l[pos]=true
    ·rw [if_pos hb,if_pos hb]
     cases st with
     | none=>
       simp only [if_true]
       rw [ih (pos+1) none acc (by omega) (by omega) (fun a h=>by cases h)]
     | some a=>
       have hne:(l.drop a).take (pos-a)≠[]:=fun h0=>by
        have:=congrArg List.length h0
        have:=hst a rfl
        simp at *;omega
       simp only [if_neg hne]
       rw [ih (pos+1) none (acc++[(a,pos)]) (by omega) (by omega) (fun a h=>by cases h)]
       simp only [List.map_append,List.map_cons,List.map_nil,ba_extract,List.append_assoc,List.cons_append,List.nil_append]
    ·rw [if_neg hb,if_neg hb]
     cases st with
     | none=>
       simp only
       rw [ih (pos+1) (some pos) acc (by omega) (by omega) (fun a h=>by cases h;omega)]
       have e:(l.drop pos).take (pos+1-pos)=[]++[l[pos]]:=by
        rw [hdr,show pos+1-pos=1 from by omega];rfl
       simp only [e]
     | some a=>
       have hal:=hst a rfl
       simp only
       rw [ih (pos+1) (some a) acc (by omega) (by omega) (fun b h=>by cases h;omega)]
       simp only [cur_snoc l a pos (by omega) hlt]
   ·obtain rfl:pos=l.length:=by omega
    rw [Lib.spansFromP_end _ _ _ _ _ _ (by rw [hsz];omega),List.drop_length]
    cases st with
    | none=>simp [Lib.closeSpans,goF]
    | some a=>
      have hne:(l.drop a).take (l.length-a)≠[]:=fun h0=>by
       have:=congrArg List.length h0
       have:=hst a rfl
       simp at *;omega
      simp only [Lib.closeSpans,goF,if_neg hne,List.map_append,List.map_cons,List.map_nil,hsz,ba_extract]
theorem goFP_eq (l:List UInt8) (ha:∀c∈l,c.toNat < 128):(Lib.goFieldsP blkN ⟨l.toArray⟩).map Value.string=(goF [] l).map str:=by
 have:=goFP_go l ha l.length 0 none [] (by omega) (by omega) (fun a h=>by cases h)
 unfold Lib.goFieldsP Lib.spansOfP
 rw [show (⟨l.toArray⟩:ByteArray).size=l.length from rfl,this]
 simp only [List.map_nil,List.nil_append,List.drop_zero,List.map_map]
 rfl
theorem joinB_all {p:UInt8→Prop} (h32:p 32):∀(ks:List (List UInt8)),(∀k∈ks,∀c∈k,p c)→∀c∈joinB ks,p c
 | [],_,c,hc=>by cases hc
 | [k],h,c,hc=>h k (by simp) c hc
 | k::u::t,h,c,hc=>by
   rw [joinB] at hc
   rcases List.mem_append.1 hc with hc | hc
   ·exact h k (by simp) c hc
   ·rcases List.mem_cons.1 hc with rfl | hc
    ·exact h32
    ·exact joinB_all h32 (u::t) (fun x hx=>h x (List.mem_cons_of_mem _ hx)) c hc
theorem keyB_in {k:List UInt8} (h:keyB k=true):k≠[]∧∀c∈k,blk c=false∧c.toNat < 128:=by
 unfold keyB at h
 simp only [Bool.and_eq_true,decide_eq_true_eq] at h
 refine ⟨by rintro rfl;simp at h,fun c hc=>?_⟩
 have h2:=List.all_eq_true.1 h.2.2 c hc
 unfold keyC at h2
 simp only [Bool.and_eq_true,decide_eq_true_eq] at h2
 refine ⟨?_,by omega⟩
 rw [Bool.eq_false_iff]
 intro hb
 rw [blk_iff] at hb
 omega
theorem goFP_keys (ks:List (List UInt8)) (h:∀k∈ks,keyB k=true):(Lib.goFieldsP blkN ⟨(joinB ks).toArray⟩).map Value.string=ks.map str∧(Lib.goFieldsP blkN ⟨(joinB ks).toArray⟩).length=ks.length:=by
 have e:(Lib.goFieldsP blkN ⟨(joinB ks).toArray⟩).map Value.string=ks.map str:=by
  rw [goFP_eq _ (joinB_all (p:=fun c=>c.toNat < 128) (by decide) ks (fun k hk c hc=>((keyB_in (h k hk)).2 c hc).2)),goF_join ks (fun k hk=>⟨(keyB_in (h k hk)).1,fun c hc=>((keyB_in (h k hk)).2 c hc).1⟩)]
 refine ⟨e,?_⟩
 have:=congrArg List.length e
 rw [List.length_map,List.length_map] at this
 exact this
set_option maxRecDepth 100000 in
theorem isBlank_any (x:Nat) (w:World):Calls Tryz.prog 81 #[.int .i32 (x:Int)] w fun e w'=>e=.returned (.bool (blkN x))∧∃q,w'=w.drewN q:=by
 by_cases h1:x=32
 ·subst h1
  have k1:(((32:Nat):Int)==32)=true:=rfl
  go_enter Tryz.func81,Tryz.ntmps81
  go_wp2_with fail
  go_ret
  exact ⟨rfl,0,rfl⟩
 ·have k1:((x:Int)==32)=false:=by rw [beq_eq_false_iff_ne];omega
  have HB:=hid (show blkN x=((x:Int)==9) from by
   unfold blkN
   rw [show (x==32)=false from by rw [beq_eq_false_iff_ne];exact h1,Bool.false_or,Bool.eq_iff_iff,beq_iff_eq,beq_iff_eq]
   omega)
  cases k2:((x:Int)==9)
  all_goals
   go_enter Tryz.func81,Tryz.ntmps81
   go_wp2_with fail
   go_ret
   exact ⟨by rw [HB.out,k2];rfl,0,rfl⟩
theorem ff_keys (ks:List (List UInt8)) (w:World) (h:∀k∈ks,keyB k=true) (hl:(joinB ks).length≤4294967296) :
  Calls Tryz.prog 80 #[str (joinB ks),.func (.func 81) #[] #[]] w fun e w'=>∃v,e=.returned v∧Own w w' 9 1 v ks.length (ks.map str)∧Gr w w':=by
 obtain ⟨h1,h2⟩:=goFP_keys ks h
 have:=Tryz.strings_FieldsFunc_runes 81 #[] (enters_of Tryz.func81 (by kernel_rfl) rfl) blkN ⟨(joinB ks).toArray⟩ w hl (fun W x hx _=>isBlank_any x W)
 rw [h1,h2] at this
 refine this.mono ?_
 rintro e w' ⟨A,rfl,_,ho,hb⟩
 exact ⟨_,rfl,ho,hb⟩
end Go.Proofs.YtflepnkpihfidaaGreatDoor
namespace Go.Proofs.YtflepnkpihfidaaGreatDoor
open Lib (hid)
open Go.RowKit
def zeroCs:Array Value:=#[str [],.bool false,.int .i64 0,.int .i64 0,.int .i64 0,.int .i64 0,.int .i64 0,.int .i64 0,.slice none 0 0,str [],.bool false]
def fromCs (m:MetaT) (tg:TagT) (mo ln hv:Int) (vk:Value) (ten:List UInt8):Array Value:=#[str tg.1,.bool tg.2,.int .i64 mo,.int .i64 ln,.int .i64 hv,.int .i64 m.fr,.int .i64 m.wh,.int .i64 m.er,vk,str ten,.bool m.keep]
structure FrSt (w x:World) (g:Nat) (cs:Array Value) (vk:Value) (ks:List (List UInt8)):Prop where
 res:Bk x w.heap.size 66 zeroCs (0,0)
 bk:Bk x g 66 cs (0,0)
 own:Own w x 9 1 vk ks.length (ks.map str)
 gr:Gr w x
 hi:w.heap.size < g
theorem FrSt.grow {w x y:World} {g:Nat} {cs:Array Value} {vk:Value} {ks:List (List UInt8)} (h:FrSt w x g cs vk ks) (k:Gr x y):FrSt w y g cs vk ks:=⟨h.res.gr k,h.bk.gr k,h.own.gr k,Gr.tr h.gr k,h.hi⟩
theorem FrSt.by {w x y:World} {g:Nat} {cs cs':Array Value} {vk:Value} {ks:List (List UInt8)} (h:FrSt w x g cs vk ks) (k:x.grownBy y (some g)) (hb:Bk y g 66 cs' (0,0)):FrSt w y g cs' vk ks:=
 ⟨(k.block w.heap.size h.res.lt (by have:=h.hi;simp only [ne_eq,Option.some.injEq];omega)).trans h.res,hb,own_kr h.own k (.inr (own_ne_ty h.own h.bk (by decide))),gr_of_byK h.gr k (Nat.le_of_lt h.hi),h.hi⟩
theorem FrSt.put {w x:World} {g:Nat} {cs:Array Value} {vk:Value} {ks:List (List UInt8)} (h:FrSt w x g cs vk ks) (i:Nat) (v:Value):FrSt w (x.setCell ⟨g,i,none⟩ v) g (cs.setIfInBounds i v) vk ks:=h.by (by_st ((Gr.refl _).by _) _ _) (h.bk.set i v)
theorem ofN_mem {l:List Fld} {n v:List UInt8} {B:Nat} (h:∀f∈l,f.2.length≤B) (hv:v∈ofN l n):v.length≤B:=by
 unfold ofN at hv
 obtain ⟨f,hf,rfl⟩:=List.mem_map.1 hv
 exact h f (List.mem_filter.1 hf).1
theorem flds_own {w:World} {u:Value} {X:List Fld} (h:Flds w u X) (hX:X≠[]):∀g,w.heap.size≤g→u.ownBlock≠some g:=by
 obtain ⟨A,c,rfl,hc,hm,h⟩:=h
 intro g hg
 rcases h with h | ⟨b,o,rfl,hb,_⟩
 ·cases X with
  | nil=>exact absurd rfl hX
  | cons f r=>cases h
 ·intro he
  simp only [Value.ownBlock,Option.some.injEq,Option.map_some] at he
  omega
set_option maxHeartbeats 16000000 in
set_option maxRecDepth 100000 in
theorem metaFrom_any (m:MetaT) (u:Value) (X:List Fld) (w:World) (hu:Flds w u X) (hs:Short2 X) (hX:X.length≤1000000) (hlen:∀f∈X,f.2.length≤100000) (hm:MetaOk m) (hlo:MetaLow m) (hk:KnownF m X) (hM:Ml w) :
  Calls Tryz.prog 27 #[u] w fun e w'=>∃vk,e=.returned (.tuple #[metaV m vk,.int .i64 0,.int .i64 0])∧Strs w' vk m.keys∧Gr w w':=by
 have hmem:=fun (n v:List UInt8) (h:v∈ofN X n)=>ofN_mem (B:=100000) hlen h
 have hXn:X≠[]:=by
  rintro rfl
  have:=hk.cc
  cases this
 have HUN:=hid (flds_own hu hXn)
 have HOF:=hid (fun (y:World) (gy:Gr w y)=>show Calls Tryz.prog 67 #[u,str ccN] y (fun e w'=>∃v,e=.returned v∧Strs w' v [joinV (ctlP m)]∧Gr y w') from by have h:=of_any u X ccN y (hu.gr gy) hs (by decide) hX;rw [hk.cc] at h;exact h)
 obtain ⟨KV,hKV⟩:∃KV,KV=if m.keys=[] then [] else [joinB m.keys]:=⟨_,rfl⟩
 have HOK:=hid (fun (y:World) (gy:Gr w y)=>show Calls Tryz.prog 67 #[u,str skeyN] y (fun e w'=>∃v,e=.returned v∧Strs w' v KV∧Gr y w') from by have h:=of_any u X skeyN y (hu.gr gy) hs (by decide) hX;rw [hk.sk,←hKV] at h;exact h)
 have HPA:=hid (fun (y:World) (v:Value) (hv:Strs y v [joinV (ctlP m)]) (hy:Ml y)=>show Calls Tryz.prog 76 #[v] y (fun e w'=>e=.returned (ruleVal (ruleM m))∧Gr y w') from by
  have h:=ctParse_any v [joinV (ctlP m)] y hv (by intro x hx;rw [List.mem_singleton] at hx;subst hx;exact hmem ccN _ (by rw [hk.cc];simp)) (by simp) hy
  rw [rule_back hm] at h;exact h)
 have HAP:=hid (fun (y:World)=>show Calls Tryz.prog 75 #[.agg #[str [],.bool false,.int .i64 0,.int .i64 0,.int .i64 0,.int .i64 0,.int .i64 0,.int .i64 0,.slice none 0 0,str [],.bool false],ruleVal (ruleM m)] y (fun e w'=>∃vk,e=.returned (.agg #[str [],.bool false,.int .i64 0,.int .i64 0,.int .i64 0,.int .i64 m.fr,.int .i64 m.wh,.int .i64 m.er,vk,str [],.bool m.keep])∧Own y w' 9 1 vk 0 []∧Gr y w') from ctApply_rule m y hm)
 generalize ruleVal (ruleM m)=RV at *
 generalize joinV (ctlP m)=CV at *
 obtain ⟨GT,ft,hgt⟩:∃GT ft,getN X etagN=(GT,ft):=⟨_,_,rfl⟩
 have HGT:=hid (fun (y:World) (gy:Gr w y)=>show Calls Tryz.prog 66 #[u,str etagN] y (fun e w'=>e=.returned (.tuple #[str GT,.bool ft])∧Gr y w') from by have h:=get_any u X etagN y (hu.gr gy) hs (by decide);rw [hgt] at h;exact h)
 have hT0:ft=false→m.tag=([],false):=by
  intro h;subst h
  unfold getN at hgt
  rw [hk.et] at hgt
  by_cases h:m.tag=([],false)
  ·exact h
  ·rw [if_neg h] at hgt;cases hgt
 have hT1:ft=true→tagP GT=some m.tag∧GT.length≤100000:=by
  intro h;subst h
  unfold getN at hgt
  have hmt:=hmem etagN
  rw [hk.et] at hgt hmt
  by_cases h:m.tag=([],false)
  ·rw [if_pos h] at hgt;cases hgt
  ·rw [if_neg h] at hgt hmt
   simp only [Prod.mk.injEq,and_true] at hgt
   subst hgt
   exact ⟨tagP_back m.tag (hm.tag.resolve_left h),hmt _ (by simp)⟩
 have HT0:=hid hT0
 have HTP:=hid (fun (h:ft=true) (y:World)=>show Calls Tryz.prog 77 #[str GT] y (fun e w'=>e=.returned (.tuple #[.agg #[str m.tag.1,.bool m.tag.2],.int .i64 0])∧Gr y w') from by have h2:=tagParse_any GT y (by have:=(hT1 h).2;omega);rw [(hT1 h).1] at h2;exact h2)
 obtain ⟨GM,fm,hgm⟩:∃GM fm,getN X lmodN=(GM,fm):=⟨_,_,rfl⟩
 have HGM:=hid (fun (y:World) (gy:Gr w y)=>show Calls Tryz.prog 66 #[u,str lmodN] y (fun e w'=>e=.returned (.tuple #[str GM,.bool fm])∧Gr y w') from by have h:=get_any u X lmodN y (hu.gr gy) hs (by decide);rw [hgm] at h;exact h)
 have hM0:fm=false→m.mod= -1:=by
  intro h;subst h
  unfold getN at hgm
  rw [hk.lm] at hgm
  by_cases h:m.mod= -1
  ·exact h
  ·rw [if_neg h] at hgm;cases hgm
 have hM1:fm=true→dateP GM=some m.mod.toNat∧((m.mod.toNat:Nat):Int)=m.mod∧GM.length≤100000:=by
  intro h;subst h
  unfold getN at hgm
  have hmt:=hmem lmodN
  rw [hk.lm] at hgm hmt
  by_cases h:m.mod= -1
  ·rw [if_pos h] at hgm;cases hgm
  ·rw [if_neg h] at hgm hmt
   simp only [Prod.mk.injEq,and_true] at hgm
   subst hgm
   have:=hm.mod
   exact ⟨dateP_back (by omega),by omega,hmt _ (by simp)⟩
 have HM0:=hid hM0
 have HMP:=hid (fun (h:fm=true) (y:World)=>show Calls Tryz.prog 78 #[str GM] y (fun e w'=>e=.returned (.tuple #[.int .i64 m.mod,.int .i64 0])∧Gr y w') from by
  have h2:=parseD_any GM y (by have:=(hM1 h).2.2;omega)
  rw [(hM1 h).1] at h2
  unfold prsV at h2
  simp only [(hM1 h).2.1] at h2
  exact h2)
 have HGA:=hid (fun (y:World) (gy:Gr w y)=>show Calls Tryz.prog 66 #[u,str ageN] y (fun e w'=>e=.returned (.tuple #[str [48],.bool true])∧Gr y w') from by have h:=get_any u X ageN y (hu.gr gy) hs (by decide);unfold getN at h;rw [hk.ag] at h;exact h)
 have HAG:=hid (fun (y:World)=>ctAge_any [48] 0 y (by decide) (by decide))
 have HGN:=hid (fun (y:World) (gy:Gr w y)=>show Calls Tryz.prog 66 #[u,str xtenN] y (fun e w'=>∃b,e=.returned (.tuple #[str m.ten,.bool b])∧Gr y w') from by
  have h:=get_any u X xtenN y (hu.gr gy) hs (by decide)
  unfold getN at h;rw [hk.tn] at h
  by_cases ht:m.ten=[]
  ·rw [if_pos ht] at h;rw [ht];exact h.mono fun e w' hh=>⟨false,hh⟩
  ·rw [if_neg ht] at h;exact h.mono fun e w' hh=>⟨true,hh⟩)
 have hkb:∀k∈m.keys,keyB k=true:=keysB_all m.keys [] hm.keys
 have HFF:=hid (fun (h:m.keys≠[]) (y:World)=>ff_keys m.keys y hkb (by
  have:=hmem skeyN (joinB m.keys) (by rw [hk.sk,if_neg h];simp)
  omega))
 have HLN:=hid (fun (y:World) (g:Nat) (cs:Array Value) (h0:Int) (gy:Gr w y) (hg:w.heap.size≤g) (hb:Bk y g 66 cs (0,0)) (h3:cs[3]?=some (.int .i64 (-1))) (h4:cs[4]?=some (.int .i64 h0))=>metaLens_any g cs u X m.len m.hv h0 y (hu.gr gy) hs (HUN.out g hg) hb h3 h4 hm.len hm.hv hm.hl hk.xl hk.xh)
 have HRT:=hid (fun (y:World) (vk:Value) (hy:Strs y vk m.keys)=>show Calls Tryz.prog 21 #[.agg #[str m.tag.1,.bool m.tag.2,.int .i64 m.mod,.int .i64 m.len,.int .i64 m.hv,.int .i64 m.fr,.int .i64 m.wh,.int .i64 m.er,vk,str m.ten,.bool m.keep]] y (fun e w'=>e=.returned (.bool true)∧Gr y w') from by have h:=metaRight_any m vk y hy hlo (by have:=hm.few;omega);rw [metaB_iff.2 hm] at h;exact h)
 have HMM:=hid hM
 have HFEW:=hid hm.few
 have HKV:=hid hKV
 clear hu hs hX hlen hlo hk hM hmem hXn HUN hKV hgt hgm hT0 hT1 hM0 hM1 hkb hm
 go_enter Tryz.func27,Tryz.ntmps27
 go_upto_region 1 with fail
 refine at_world (P:=Code.wp _ _ _ _) (w0:=w.alloc (Obj.cells #[str [],.bool false,.int .i64 0,.int .i64 0,.int .i64 0,.int .i64 0,.int .i64 0,.int .i64 0,.slice none 0 0,str [],.bool false] 66)) ?_
 intro w0 hw0
 have HR0:=hid (show Bk w0 w.heap.size 66 zeroCs (0,0) from by rw [hw0];exact Bk.new w _ _ _)
 have HG0:=hid (show Gr w w0 from by rw [hw0];exact Gr.al (Gr.refl w) _)
 clear hw0
 go_upto_region 2 with (first
  | (go_at_call 67;refine (HOF.out _ HG0.out).mono ?_;rintro e w1 ⟨v1,rfl,hv1,hg1⟩)
  | (go_at_call 76;refine (HPA.out _ _ hv1 (HMM.out.gr (Gr.tr HG0.out hg1))).mono ?_;rintro e w2 ⟨rfl,hg2⟩)
  | (go_at_call 75;refine (HAP.out _).mono ?_;rintro e w3 ⟨vk0,rfl,ho3,hg3⟩;obtain ⟨Ak,ck,rfl⟩:=ho3.form))
 refine at_world (P:=Code.wp _ _ _ _) (w0:=w3.alloc (Obj.cells #[str [],.bool false,.int .i64 0,.int .i64 0,.int .i64 0,.int .i64 m.fr,.int .i64 m.wh,.int .i64 m.er,.slice Ak 0 ck,str [],.bool m.keep] 66)) ?_
 intro w4 hw4
 have HS4:=hid (show FrSt w w4 w3.heap.size (fromCs m ([],false) 0 0 0 (.slice Ak 0 ck) []) (.slice Ak 0 ck) [] from by
  have hg13:=Gr.tr hg1 (Gr.tr hg2 hg3)
  have hr3:=HR0.out.gr hg13
  have hal:Gr w3 w4:=by rw [hw4];exact Gr.al (Gr.refl w3) _
  have hnew:Bk w4 w3.heap.size 66 #[str [],.bool false,.int .i64 0,.int .i64 0,.int .i64 0,.int .i64 m.fr,.int .i64 m.wh,.int .i64 m.er,.slice Ak 0 ck,str [],.bool m.keep] (0,0):=by rw [hw4];exact Bk.new w3 _ _ _
  exact ⟨hr3.gr hal,hnew,(own_bzk ho3 (Gr.tr HG0.out (Gr.tr hg1 hg2)).size).gr hal,Gr.tr HG0.out (Gr.tr hg13 hal),hr3.lt⟩)
 generalize w3.heap.size=g at *
 clear hw4 hg1 hg2 hg3 ho3 hv1 HR0 HG0 HOF HPA HAP
 have f2:=HS4.out.bk.free 2 (.inr (Nat.zero_le _))
 have f3:=HS4.out.bk.free 3 (.inr (Nat.zero_le _))
 have y2:w4.cell? ⟨g,2,none⟩=some (.int .i64 0):=HS4.out.bk.cell 2
 have y3:w4.cell? ⟨g,3,none⟩=some (.int .i64 0):=HS4.out.bk.cell 3
 go_upto_region 3 with fail
 refine at_world (P:=Code.wp _ _ _ _) (w0:=(w4.setCell ⟨g,2,none⟩ (.int .i64 (-1))).setCell ⟨g,3,none⟩ (.int .i64 (-1))) ?_
 intro w5 hw5
 have HS5:=hid (show FrSt w w5 g (fromCs m ([],false) (-1) (-1) 0 (.slice Ak 0 ck) []) (.slice Ak 0 ck) [] from by rw [hw5];exact (HS4.out.put 2 (.int .i64 (-1))).put 3 (.int .i64 (-1)))
 clear hw5 f2 f3 y2 y3 HS4
 go_upto_if 28 with (go_at_call 66;refine (HGT.out _ HS5.out.gr).mono ?_;rintro e w6 ⟨rfl,hg6⟩)
 have HS6:=hid (HS5.out.grow hg6)
 clear hg6 HS5 HGT
 go_cut [] (fun wx=>FrSt w wx g (fromCs m m.tag (-1) (-1) 0 (.slice Ak 0 ck) []) (.slice Ak 0 ck) [])
 case first=>
  cases ft with
  | false=>
    have HZ:=hid (HT0.out rfl)
    clear HT0 HTP
    go_wp2_with fail
    go_meet
    rw [HZ.out];exact HS6.out
  | true=>
    have HTQ:=hid (HTP.out rfl)
    clear HTP HT0
    go_upto_region 8 with (go_at_call 77;refine (HTQ.out _).mono ?_;rintro e w7 ⟨rfl,hg7⟩;have f0:=(HS6.out.grow hg7).bk.free 0 (.inr (Nat.zero_le _));have f1:=(HS6.out.grow hg7).bk.free 1 (.inr (Nat.zero_le _));have y0:w7.cell? ⟨g,0,none⟩=some (str []):=(HS6.out.grow hg7).bk.cell 0;have y1:w7.cell? ⟨g,1,none⟩=some (.bool false):=(HS6.out.grow hg7).bk.cell 1)
    refine at_world (P:=Code.wp _ _ _ _) (w0:=(w7.setCell ⟨g,0,none⟩ (str m.tag.1)).setCell ⟨g,1,none⟩ (.bool m.tag.2)) ?_
    intro w8 hw8
    have HS8:=hid (show FrSt w w8 g (fromCs m m.tag (-1) (-1) 0 (.slice Ak 0 ck) []) (.slice Ak 0 ck) [] from by rw [hw8];exact ((HS6.out.grow hg7).put 0 (str m.tag.1)).put 1 (.bool m.tag.2))
    clear hw8 f0 f1 y0 y1 hg7 HS6
    go_wp2_with fail
    go_meet
    exact HS8.out
 case rest=>
 have HS7:=hid hcut
 clear hcut HS6 HTP HT0
 generalize wc=w7 at *
 go_upto_if 43 with (go_at_call 66;refine (HGM.out _ HS7.out.gr).mono ?_;rintro e w8 ⟨rfl,hg8⟩)
 have HS8:=hid (HS7.out.grow hg8)
 clear hg8 HS7 HGM
 go_cut [] (fun wx=>FrSt w wx g (fromCs m m.tag m.mod (-1) 0 (.slice Ak 0 ck) []) (.slice Ak 0 ck) [])
 case first=>
  cases fm with
  | false=>
    have HZ:=hid (HM0.out rfl)
    clear HM0 HMP
    go_wp2_with fail
    go_meet
    rw [HZ.out];exact HS8.out
  | true=>
    have HMQ:=hid (HMP.out rfl)
    clear HMP HM0
    go_upto_region 13 with (go_at_call 78;refine (HMQ.out _).mono ?_;rintro e w9 ⟨rfl,hg9⟩;have f2:=(HS8.out.grow hg9).bk.free 2 (.inr (Nat.zero_le _));have y2:w9.cell? ⟨g,2,none⟩=some (.int .i64 (-1)):=(HS8.out.grow hg9).bk.cell 2)
    refine at_world (P:=Code.wp _ _ _ _) (w0:=w9.setCell ⟨g,2,none⟩ (.int .i64 m.mod)) ?_
    intro wa hwa
    have HSA:=hid (show FrSt w wa g (fromCs m m.tag m.mod (-1) 0 (.slice Ak 0 ck) []) (.slice Ak 0 ck) [] from by rw [hwa];exact (HS8.out.grow hg9).put 2 (.int .i64 m.mod))
    clear hwa f2 y2 hg9 HS8
    go_wp2_with fail
    go_meet
    exact HSA.out
 case rest=>
 have HS9:=hid hcut
 clear hcut HS8 HMP HM0
 generalize wc=w9 at *
 go_upto_region 20 with (first
  | (go_at_call 66;refine (HGA.out _ HS9.out.gr).mono ?_;rintro e wa ⟨rfl,hga⟩)
  | (go_at_call 79;refine (HAG.out _).mono ?_;rintro e wb ⟨rfl,hgb⟩))
 have HSB:=hid ((HS9.out.grow hga).grow hgb)
 clear hga hgb HS9 HGA HAG
 go_wp2_with (go_at_call 67;refine (HOK.out _ HSB.out.gr).mono ?_;rintro e wd ⟨vs,rfl,hvs,hgd⟩;obtain ⟨A,c,rfl,hc,hmx,hA⟩:=hvs.open)
 have HSD:=hid (HSB.out.grow hgd)
 have HA:=hid hA
 clear hgd HSB HOK hvs hA
 go_loopw [15,70] (fun x15 iv wr=>∃k:Nat,k≤KV.length∧iv=.int .i64 k∧∃vk,FrSt w wr g (fromCs m m.tag m.mod (-1) 0 vk []) vk (if k=0 then [] else m.keys)∧(k=0→Gr wd wr)) (fun _ iv _=>KV.length-(intOf iv).toNat)
 case atStart=>exact ⟨0,Nat.zero_le _,rfl,_,HSD.out,fun _=>Gr.refl _⟩
 case round=>
  obtain ⟨k,hk,rfl,vk,hst,hgr⟩:=hrel
  by_cases hlt:k < KV.length
  ·have hne:m.keys≠[]:=by intro h;rw [HKV.out,if_pos h] at hlt;simp at hlt
   have hkv:KV=[joinB m.keys]:=by rw [HKV.out,if_neg hne]
   obtain rfl:k=0:=by rw [hkv] at hlt;simp at hlt;omega
   have HSR0:=hid (show FrSt w wr g (fromCs m m.tag m.mod (-1) 0 vk []) vk [] from hst)
   obtain ⟨b1,o1,rfl,hb1,p0⟩:=HA.out 0 hlt
   have p0:=Gr.cell (hgr rfl) p0
   rw [show KV[0]=joinB m.keys from by simp [hkv]] at p0
   have p0:wr.cell? ⟨b1,o1,none⟩=some (str (joinB m.keys)):=by simpa using p0
   have HFQ:=hid (HFF.out hne)
   obtain ⟨Av,cv,rfl⟩:=HSR0.out.own.form
   have hl1:decide ((0:Int) < (KV.length:Int))=true:=decide_eq_true (by omega)
   clear hkv hne HA HFF HKV hst hgr
   go_upto_region 23 with fail
   clear p0 hl1
   refine wp_region_mix0 [0,2] none 5 (HSR0.out.gr.by none) (by kernel_rfl) rfl (by kernel_rfl) (fun o _ _ _ _ h=>by cases o <;> exact h) ?_
   simp only [pickOps,List.filterMap_cons,List.filterMap_nil,List.getElem?_cons_zero,List.getElem?_cons_succ]
   repeat (first | (refine wpGq_step (fun K hK=>?_);go_simp;refine hK _ ?_;clear hK K))
   refine wpGq_nil ?_
   refine wpG_two 1 3 (by kernel_rfl) rfl rfl rfl rfl (fun K hK wa hga=>?_) (fun K hK wa hga=>?_)
   ·have q:wa.cell? ⟨g,8,none⟩=some (.slice Av 0 cv):=(HSR0.out.grow hga).bk.cell 8
    go_simp
    refine hK _ _ ((Gr.tr HSR0.out.gr hga).by _) ?_
    clear hK K q
    refine wpG_one 3 (by kernel_rfl) rfl rfl (fun K hK wb hgb=>?_)
    go_simp
    go_at_call 80
    refine (HFQ.out _).mono ?_
    rintro e wc ⟨vf,rfl,hof,hgc⟩
    obtain ⟨Af,cf,rfl⟩:=hof.form
    have hgz:=Gr.tr hga (Gr.tr hgb hgc)
    refine hK _ _ ((Gr.tr HSR0.out.gr hgz).by _) ?_
    clear hK K hga hgb hgc
    refine wpG_one 4 (by kernel_rfl) rfl rfl (fun K hK wd4 hgd4=>?_)
    have hgq:=Gr.tr hgz hgd4
    refine op_appS (W0:=w) (n:=0) (m:=m.keys.length) (xs:=[]) (news:=m.keys.map str) (u:=.slice Af m.keys.length cf) elemStr _ _ rfl rfl rfl (Gr.tr HSR0.out.gr hgq).size (HSR0.out.grow hgq).own ((hof.gr hgd4).sl (by omega)) (by rw [List.length_map];omega) (by intro u hu;obtain ⟨x,_,rfl⟩:=List.mem_map.1 hu;rfl) (by have:=HFEW.out;omega) (by decide) ?_
    intro v' x' hown' happ
    have hown':Own w x' 9 1 v' m.keys.length (m.keys.map str):=by simpa using hown'
    obtain ⟨A',c',rfl⟩:=hown'.form
    have hgx:Gr w x':=happ.gr (Gr.tr HSR0.out.gr hgq) (HSR0.out.grow hgq).own
    have hbx:=(HSR0.out.grow hgq).bk.app happ (own_ne_ty (HSR0.out.grow hgq).own (HSR0.out.grow hgq).bk (by decide))
    have hrx:=(HSR0.out.grow hgq).res.app happ (own_ne_ty (HSR0.out.grow hgq).own (HSR0.out.grow hgq).res (by decide))
    refine hK _ _ (hgx.by _) ?_
    clear hK K
    refine wpG_one 5 (by kernel_rfl) rfl rfl (fun K hK we hge=>?_)
    go_simp
    refine hK _ _ ((Gr.tr hgx hge).by _) ?_
    clear hK K
    refine wpG_one 6 (by kernel_rfl) rfl rfl (fun K hK wf hgf=>?_)
    have hgy:=Gr.tr hge hgf
    have q':wf.cell? ⟨g,8,none⟩=some (.slice Av 0 cv):=(hbx.gr hgy).cell 8
    have f':=(hbx.gr hgy).free 8 (.inr (Nat.zero_le _))
    go_simp
    have hfin:FrSt w (wf.setCell ⟨g,8,none⟩ (.slice A' m.keys.length c')) g (fromCs m m.tag m.mod (-1) 0 (.slice A' m.keys.length c') []) (.slice A' m.keys.length c') m.keys:=by
     have ho:Own w wf 9 1 (.slice A' m.keys.length c') m.keys.length (m.keys.map str):=hown'.gr hgy
     exact ⟨(hrx.gr hgy).far (p:=⟨g,8,none⟩) (Nat.ne_of_lt HSR0.out.hi) _,(hbx.gr hgy).set 8 _,Own.set ho (own_ne_ty ho (hbx.gr hgy) (by decide)) 8 _,Gr.st (p:=⟨g,8,none⟩) (Gr.tr hgx hgy) (Nat.le_of_lt HSR0.out.hi) _,HSR0.out.hi⟩
    refine hK _ _ (hfin.gr.by _) ?_
    clear hK K q' f'
    refine wpG_done (by kernel_rfl) (fun wz hgz2=>?_)
    have HFIN:=hid (hfin.grow hgz2)
    clear hfin hgz2 hgx hbx hrx hgy hgf hge hown' happ hgq hgd4 hgz hof
    go_wp2_with fail
    refine ⟨⟨0+1,by omega,by go_num,_,by rw [if_neg (by omega)];exact HFIN.out,fun h=>by omega⟩,?_⟩
    simp [intOf];omega
   ·go_simp
    go_at_call 80
    refine (HFQ.out _).mono ?_
    rintro e wb ⟨vf,rfl,hof,hgb⟩
    obtain ⟨Af,cf,rfl⟩:=hof.form
    refine hK _ _ ((Gr.tr HSR0.out.gr (Gr.tr hga hgb)).by _) ?_
    clear hK K
    refine wpG_one 1 (by kernel_rfl) rfl rfl (fun K hK wc hgc=>?_)
    have hgz:=Gr.tr hga (Gr.tr hgb hgc)
    have q:wc.cell? ⟨g,8,none⟩=some (.slice Av 0 cv):=(HSR0.out.grow hgz).bk.cell 8
    have hof:=hof.gr hgc
    go_simp
    refine hK _ _ ((Gr.tr HSR0.out.gr hgz).by _) ?_
    clear hK K q hga hgb hgc
    refine wpG_one 4 (by kernel_rfl) rfl rfl (fun K hK wd4 hgd4=>?_)
    have hgq:=Gr.tr hgz hgd4
    refine op_appS (W0:=w) (n:=0) (m:=m.keys.length) (xs:=[]) (news:=m.keys.map str) (u:=.slice Af m.keys.length cf) elemStr _ _ rfl rfl rfl (Gr.tr HSR0.out.gr hgq).size (HSR0.out.grow hgq).own ((hof.gr hgd4).sl (by omega)) (by rw [List.length_map];omega) (by intro u hu;obtain ⟨x,_,rfl⟩:=List.mem_map.1 hu;rfl) (by have:=HFEW.out;omega) (by decide) ?_
    intro v' x' hown' happ
    have hown':Own w x' 9 1 v' m.keys.length (m.keys.map str):=by simpa using hown'
    obtain ⟨A',c',rfl⟩:=hown'.form
    have hgx:Gr w x':=happ.gr (Gr.tr HSR0.out.gr hgq) (HSR0.out.grow hgq).own
    have hbx:=(HSR0.out.grow hgq).bk.app happ (own_ne_ty (HSR0.out.grow hgq).own (HSR0.out.grow hgq).bk (by decide))
    have hrx:=(HSR0.out.grow hgq).res.app happ (own_ne_ty (HSR0.out.grow hgq).own (HSR0.out.grow hgq).res (by decide))
    refine hK _ _ (hgx.by _) ?_
    clear hK K
    refine wpG_one 5 (by kernel_rfl) rfl rfl (fun K hK we hge=>?_)
    go_simp
    refine hK _ _ ((Gr.tr hgx hge).by _) ?_
    clear hK K
    refine wpG_one 6 (by kernel_rfl) rfl rfl (fun K hK wf hgf=>?_)
    have hgy:=Gr.tr hge hgf
    have q':wf.cell? ⟨g,8,none⟩=some (.slice Av 0 cv):=(hbx.gr hgy).cell 8
    have f':=(hbx.gr hgy).free 8 (.inr (Nat.zero_le _))
    go_simp
    have hfin:FrSt w (wf.setCell ⟨g,8,none⟩ (.slice A' m.keys.length c')) g (fromCs m m.tag m.mod (-1) 0 (.slice A' m.keys.length c') []) (.slice A' m.keys.length c') m.keys:=by
     have ho:Own w wf 9 1 (.slice A' m.keys.length c') m.keys.length (m.keys.map str):=hown'.gr hgy
     exact ⟨(hrx.gr hgy).far (p:=⟨g,8,none⟩) (Nat.ne_of_lt HSR0.out.hi) _,(hbx.gr hgy).set 8 _,Own.set ho (own_ne_ty ho (hbx.gr hgy) (by decide)) 8 _,Gr.st (p:=⟨g,8,none⟩) (Gr.tr hgx hgy) (Nat.le_of_lt HSR0.out.hi) _,HSR0.out.hi⟩
    refine hK _ _ (hfin.gr.by _) ?_
    clear hK K q' f'
    refine wpG_done (by kernel_rfl) (fun wz hgz2=>?_)
    have HFIN:=hid (hfin.grow hgz2)
    clear hfin hgz2 hgx hbx hrx hgy hgf hge hown' happ hgq hgd4 hgz hof
    go_wp2_with fail
    refine ⟨⟨0+1,by omega,by go_num,_,by rw [if_neg (by omega)];exact HFIN.out,fun h=>by omega⟩,?_⟩
    simp [intOf];omega
  ·have hke:k=KV.length:=by omega
   have hs2:FrSt w wr g (fromCs m m.tag m.mod (-1) 0 vk []) vk m.keys:=by
    by_cases hks:m.keys=[]
    ·rw [hks] at hst ⊢
     simpa using hst
    ·rw [HKV.out,if_neg hks] at hke
     rw [if_neg (by rw [hke];simp)] at hst
     exact hst
   have HSE:=hid hs2
   obtain ⟨Av,cv,rfl⟩:=HSE.out.own.form
   have hl1:decide ((k:Int) < (KV.length:Int))=false:=decide_eq_false (by omega)
   clear hst hs2 hgr hke HA HFF HKV HSD
   go_upto_region 26 with (go_at_call 66;refine (HGN.out _ HSE.out.gr).mono ?_;rintro e w1 ⟨bt,rfl,h1⟩;have y9:w1.cell? ⟨g,9,none⟩=some (str []):=(HSE.out.grow h1).bk.cell 9;have f9:=(HSE.out.grow h1).bk.free 9 (.inr (Nat.zero_le _)))
   refine at_world (P:=Code.wp _ _ _ _) (w0:=w1.setCell ⟨g,9,none⟩ (str m.ten)) ?_
   intro w2 hw2
   have HSF:=hid (show FrSt w w2 g (fromCs m m.tag m.mod (-1) 0 (.slice Av m.keys.length cv) m.ten) (.slice Av m.keys.length cv) m.keys from by rw [hw2];exact (HSE.out.grow h1).put 9 (str m.ten))
   clear hw2 h1 y9 f9 HSE HGN hl1
   go_upto_if 94 with (first
    | (go_at_call 82;refine (HLN.out _ g _ 0 HSF.out.gr (Nat.le_of_lt HSF.out.hi) HSF.out.bk rfl rfl).mono ?_;rintro e w3 ⟨rfl,hb3,hg3⟩;have HSG:=hid (show FrSt w w3 g (fromCs m m.tag m.mod m.len m.hv (.slice Av m.keys.length cv) m.ten) (.slice Av m.keys.length cv) m.keys from HSF.out.by hg3 hb3);have hbq:=HSG.out.bk;have m0:=hbq.cell 0;have m1:=hbq.cell 1;have m2:=hbq.cell 2;have m3:=hbq.cell 3;have m4:=hbq.cell 4;have m5:=hbq.cell 5;have m6:=hbq.cell 6;have m7:=hbq.cell 7;have m8:=hbq.cell 8;have m9:=hbq.cell 9;have m10:=hbq.cell 10;simp only [fromCs,List.getElem?_toArray,List.getElem?_cons_zero,List.getElem?_cons_succ] at m0 m1 m2 m3 m4 m5 m6 m7 m8 m9 m10)
    | (go_at_call 21;refine (HRT.out _ _ (own_str HSG.out.own rfl rfl)).mono ?_;rintro e w4 ⟨rfl,hg4⟩))
   have HSH:=hid (HSG.out.grow hg4)
   clear hbq m0 m1 m2 m3 m4 m5 m6 m7 m8 m9 m10 hb3 hg3 hg4 HSF HSG HLN HRT
   have hbq:=HSH.out.bk
   have m0:=hbq.cell 0;have m1:=hbq.cell 1;have m2:=hbq.cell 2;have m3:=hbq.cell 3;have m4:=hbq.cell 4;have m5:=hbq.cell 5;have m6:=hbq.cell 6;have m7:=hbq.cell 7;have m8:=hbq.cell 8;have m9:=hbq.cell 9;have m10:=hbq.cell 10;simp only [fromCs,List.getElem?_toArray,List.getElem?_cons_zero,List.getElem?_cons_succ] at m0 m1 m2 m3 m4 m5 m6 m7 m8 m9 m10
   have hzq:=HSH.out.res
   have z0:=hzq.cell 0;have z1:=hzq.cell 1;have z2:=hzq.cell 2;have z3:=hzq.cell 3;have z4:=hzq.cell 4;have z5:=hzq.cell 5;have z6:=hzq.cell 6;have z7:=hzq.cell 7;have z8:=hzq.cell 8;have z9:=hzq.cell 9;have z10:=hzq.cell 10;simp only [zeroCs,List.getElem?_toArray,List.getElem?_cons_zero,List.getElem?_cons_succ] at z0 z1 z2 z3 z4 z5 z6 z7 z8 z9 z10;have f0:=hzq.free 0 (.inr (Nat.zero_le _));have f1:=hzq.free 1 (.inr (Nat.zero_le _));have f2:=hzq.free 2 (.inr (Nat.zero_le _));have f3:=hzq.free 3 (.inr (Nat.zero_le _));have f4:=hzq.free 4 (.inr (Nat.zero_le _));have f5:=hzq.free 5 (.inr (Nat.zero_le _));have f6:=hzq.free 6 (.inr (Nat.zero_le _));have f7:=hzq.free 7 (.inr (Nat.zero_le _));have f8:=hzq.free 8 (.inr (Nat.zero_le _));have f9:=hzq.free 9 (.inr (Nat.zero_le _));have f10:=hzq.free 10 (.inr (Nat.zero_le _));clear hbq hzq
   go_wp2_with fail
   refine at_world (P:=bodyPost _ _ _ _ _) (w0:=putCs w4 w.heap.size [str m.tag.1,.bool m.tag.2,.int .i64 m.mod,.int .i64 m.len,.int .i64 m.hv,.int .i64 m.fr,.int .i64 m.wh,.int .i64 m.er,.slice Av m.keys.length cv,str m.ten,.bool m.keep] 0) ?_
   intro wy hwy
   have hy:Bk wy w.heap.size 66 #[str m.tag.1,.bool m.tag.2,.int .i64 m.mod,.int .i64 m.len,.int .i64 m.hv,.int .i64 m.fr,.int .i64 m.wh,.int .i64 m.er,.slice Av m.keys.length cv,str m.ten,.bool m.keep] (0,0):=by rw [hwy];exact putCs_bk HSH.out.res rfl
   have hyy:w4.grownBy wy (some w.heap.size):=by rw [hwy];exact putCs_by _ _ _ _ ((Gr.refl _).by _)
   have u0:=hy.cell 0;have u1:=hy.cell 1;have u2:=hy.cell 2;have u3:=hy.cell 3;have u4:=hy.cell 4;have u5:=hy.cell 5;have u6:=hy.cell 6;have u7:=hy.cell 7;have u8:=hy.cell 8;have u9:=hy.cell 9;have u10:=hy.cell 10;simp only [List.getElem?_toArray,List.getElem?_cons_zero,List.getElem?_cons_succ] at u0 u1 u2 u3 u4 u5 u6 u7 u8 u9 u10
   refine bodyPost_ret (v:=.tuple #[.agg #[str m.tag.1,.bool m.tag.2,.int .i64 m.mod,.int .i64 m.len,.int .i64 m.hv,.int .i64 m.fr,.int .i64 m.wh,.int .i64 m.er,.slice Av m.keys.length cv,str m.ten,.bool m.keep],.int .i64 0,.int .i64 0]) (by simp [results,Tryz.results27,go_sem,u0,u1,u2,u3,u4,u5,u6,u7,u8,u9,u10]) rfl ?_
   exact ⟨.slice Av m.keys.length cv,rfl,own_str (own_kr HSH.out.own hyy (.inr (own_ne_ty HSH.out.own HSH.out.res (by decide)))) rfl rfl,by rw [hwy];exact putCs_gr (Nat.le_refl _) _ _ _ HSH.out.gr⟩
end Go.Proofs.YtflepnkpihfidaaGreatDoor
namespace Go.Proofs.YtflepnkpihfidaaGreatDoor
open Lib (hid)
open Go.RowKit
theorem ctlP_len {m:MetaT} (h:MetaOk m):(∀d∈ctlP m,d.length≤60)∧(ctlP m).length≤4:=by
 have i1:=itoa_len_int h.fr.1 (by have:=h.fr.2;omega)
 have i2:=itoa_len_int h.wh.1 (by have:=h.wh.2;omega)
 have i3:=itoa_len_int h.er.1 (by have:=h.er.2;omega)
 have e1:noStN.length=8:=rfl
 have e2:sMaxN.length=9:=rfl
 have e3:sWhN.length=23:=rfl
 have e4:sErN.length=15:=rfl
 unfold ctlP
 constructor
 ·intro d hd
  simp only [List.mem_append,List.mem_singleton] at hd
  rcases hd with hd | rfl | hd | hd
  ·split at hd
   ·cases hd
   ·simp only [List.mem_singleton] at hd;subst hd;omega
  ·rw [List.length_append];omega
  ·split at hd
   ·cases hd
   ·simp only [List.mem_singleton] at hd;subst hd;rw [List.length_append];omega
  ·split at hd
   ·cases hd
   ·simp only [List.mem_singleton] at hd;subst hd;rw [List.length_append];omega
 ·simp only [List.length_append,List.length_singleton]
  have a1:(if m.keep=true then [] else [noStN]:List (List UInt8)).length≤1:=by split <;> simp
  have a2:(if m.wh=0 then [] else [sWhN++Lib.itoa m.wh]:List (List UInt8)).length≤1:=by split <;> simp
  have a3:(if m.er=0 then [] else [sErN++Lib.itoa m.er]:List (List UInt8)).length≤1:=by split <;> simp
  omega
theorem metaF_len {m:MetaT} (h:MetaOk m):∀f∈metaF m,f.1.length≤100∧f.2.length≤100000:=by
 intro f hf
 have hj:(joinV (ctlP m)).length≤1000:=by
  have h1:=joinV_len (ctlP m)
  obtain ⟨h2,h3⟩:=ctlP_len h
  have h4:=bulk1_le (ctlP m) 60 h2
  have h5:(ctlP m).length*60≤4*60:=Nat.mul_le_mul_right _ h3
  omega
 have hk:(joinB m.keys).length≤10000:=by
  have h1:=joinB_len m.keys
  have h2:=bulk1_le m.keys 200 (fun k hk=>keyB_le (keysB_all m.keys [] h.keys k hk))
  have h3:=h.few
  have h5:m.keys.length*200≤32*200:=Nat.mul_le_mul_right _ h3
  omega
 have ht:=h.ten
 have ht2:m.ten.length≤1000:=by
  unfold tenB at ht
  simp only [Bool.and_eq_true,decide_eq_true_eq] at ht
  have:=ht.1;omega
 have i1:m.len= -1∨(Lib.itoa m.len).length≤19:=by
  by_cases hl:m.len= -1
  ·exact .inl hl
  ·exact .inr (itoa_len_int (by have:=h.len.1;omega) (by have:=h.len.2;omega))
 have i2:=itoa_len_int h.hv.1 (by have:=h.hv.2;omega)
 have i3:=tagTxt_len m.tag
 have i4:=dateT_len m.mod.toNat
 unfold metaF tagF modF keyF tenF lenF at hf
 simp only [List.mem_append,List.mem_cons,List.not_mem_nil,or_false] at hf
 rcases hf with hf | hf | hf | hf | hf | hf
 ·split at hf
  ·cases hf
  ·simp only [List.mem_singleton] at hf;subst hf;exact ⟨by simp only;decide,by simp only;omega⟩
 ·split at hf
  ·cases hf
  ·simp only [List.mem_singleton] at hf;subst hf;exact ⟨by simp only;decide,by simp only;omega⟩
 ·rcases hf with rfl | rfl
  ·exact ⟨by simp only;decide,by simp only;omega⟩
  ·exact ⟨by decide,by decide⟩
 ·split at hf
  ·cases hf
  ·simp only [List.mem_singleton] at hf;subst hf;exact ⟨by simp only;decide,by simp only;omega⟩
 ·split at hf
  ·cases hf
  ·simp only [List.mem_singleton] at hf;subst hf;exact ⟨by simp only;decide,by simp only;omega⟩
 ·split at hf
  ·simp only [List.mem_cons,List.not_mem_nil,or_false] at hf
   rcases hf with rfl | rfl
   ·exact ⟨by decide,by decide⟩
   ·exact ⟨by simp only;decide,by simp only;omega⟩
  ·rename_i hl
   simp only [List.mem_singleton] at hf;subst hf;exact ⟨by simp only;decide,by simp only;rcases i1 with i1 | i1;exact absurd i1 hl;omega⟩
structure Beside (X:List Fld):Prop where
 nm:∀f∈X,f.1=crN∨f.1=ctN
 few:X.length≤1
 len:∀f∈X,f.2.length≤1000
theorem beside_nil:Beside []:=⟨fun f h=>(by cases h),by simp,fun f h=>(by cases h)⟩
theorem beside_one {n v:List UInt8} (h:n=crN∨n=ctN) (hv:v.length≤1000):Beside [(n,v)]:=
 ⟨fun f hf=>by rw [List.mem_singleton] at hf;subst hf;exact h,by simp,fun f hf=>by rw [List.mem_singleton] at hf;subst hf;exact hv⟩
theorem partsOf_beside (sp:List (Int×Int)) (m:MetaT) (seed:Int):Beside (partsOf sp m seed).1:=by
 have hb:(sevN++boundN seed).length≤1000:=by
  rw [List.length_append];unfold boundN;rw [List.length_append,hexW_len]
  decide
 unfold partsOf
 split
 ·exact beside_one (.inl rfl) (by have:=cont_len (by assumption:Int×Int).1 (by assumption:Int×Int).2 m.len;omega)
 ·exact beside_one (.inr rfl) hb
theorem shape_from (q:ReqT) (m:MetaT) (oc:Nat) (most seed:Int) (hm:MetaOk m):∃X,(shapeL q m oc most seed).2.1=metaF m++X∧Beside X:=by
 unfold shapeL
 split
 ·exact ⟨[],by simp,beside_nil⟩
 ·split
  ·exact ⟨[],by simp,beside_nil⟩
  ·split
   ·unfold rangedL
    split
    ·refine ⟨[(crN,starN++Lib.itoa (if m.len= -1 then m.hv else m.len))],rfl,beside_one (.inl rfl) ?_⟩
     have:(Lib.itoa (if m.len= -1 then m.hv else m.len)).length≤19:=by
      have h1:=hm.len;have h2:=hm.hv
      split
      ·exact itoa_len_int h2.1 (by omega)
      ·exact itoa_len_int (by omega) (by omega)
     rw [List.length_append]
     have e:starN.length=8:=rfl
     omega
    ·exact ⟨_,rfl,partsOf_beside _ _ _⟩
   ·exact ⟨[],by unfold fullL;simp,beside_nil⟩
theorem shape_known (q:ReqT) (m:MetaT) (oc:Nat) (most seed:Int) (hm:MetaOk m):KnownF m (shapeL q m oc most seed).2.1∧Short2 (shapeL q m oc most seed).2.1∧(shapeL q m oc most seed).2.1.length≤1000000∧∀f∈(shapeL q m oc most seed).2.1,f.2.length≤100000:=by
 obtain ⟨X,hX,hb⟩:=shape_from q m oc most seed hm
 rw [hX]
 have hall:∀f∈metaF m++X,f.1.length≤100∧f.2.length≤100000:=by
  intro f hf
  rcases List.mem_append.1 hf with hf | hf
  ·exact metaF_len hm f hf
  ·refine ⟨?_,by have:=hb.len f hf;omega⟩
   rcases hb.nm f hf with h | h <;> rw [h] <;> decide
 refine ⟨known_of fun n hn=>?_,fun f hf=>?_,?_,fun f hf=>(hall f hf).2⟩
 ·unfold ofN
  rw [List.map_eq_nil_iff,List.filter_eq_nil_iff]
  intro f hf
  have:∀n∈[ccN,etagN,lmodN,ageN,skeyN,xtenN,xlenN,xhavN],alike crN n=false∧alike ctN n=false:=by decide
  obtain ⟨h1,h2⟩:=this n hn
  rcases hb.nm f hf with h | h <;> rw [h]
  ·rw [h1];decide
  ·rw [h2];decide
 ·have:=hall f hf;omega
 ·rw [List.length_append]
  have:=metaF_le8 m;have:=hb.few
  omega
theorem keysEq_any (u v:Value) (ks:List (List UInt8)) (w:World) (hu:Strs w u ks) (hv:Strs w v ks):Calls Tryz.prog 83 #[u,v] w fun e w'=>e=.returned (.bool true)∧Gr w w':=by
 obtain ⟨A1,c1,rfl,h1,m1,o1⟩:=hu.open
 obtain ⟨A2,c2,rfl,h2,m2,o2⟩:=hv.open
 by_cases hk:ks.length=0
 ·rw [hk]
  have:=Tryz.slices_Equal_string_empty A1 A2 c1 0 c2 w (by decide)
  refine this.mono ?_
  rintro e w' ⟨rfl,rfl⟩
  exact ⟨by rfl,Gr.refl _⟩
 ·obtain ⟨b1,p1,rfl,_,_⟩:=o1 0 (by omega)
  obtain ⟨b2,p2,rfl,_,_⟩:=o2 0 (by omega)
  have hl:(ks.map fun k=>(⟨k.toArray⟩:ByteArray)).length=ks.length:=List.length_map _
  have hg:∀j (h:j < ks.length),Value.string ((ks.map fun k=>(⟨k.toArray⟩:ByteArray)).getD j ByteArray.empty)=str ks[j]:=fun j h=>by
   rw [List.getD_eq_getElem?_getD,List.getElem?_eq_getElem (by rw [hl];exact h)];simp
  have:=Tryz.slices_Equal_string b1 p1 ks.length c1 b2 p2 ks.length c2 (ks.map fun k=>(⟨k.toArray⟩:ByteArray)) (ks.map fun k=>(⟨k.toArray⟩:ByteArray)) w (by rw [hl];exact Nat.le_refl _) (by rw [hl];exact Nat.le_refl _) m1 m2
   (fun j hj=>by
    rw [hl] at hj
    obtain ⟨b,o,he,_,hc⟩:=o1 j hj
    simp only [Option.some.injEq,Addr.mk.injEq,and_true] at he
    obtain ⟨rfl,rfl⟩:=he
    rw [hg j hj];exact hc)
   (fun j hj=>by
    rw [hl] at hj
    obtain ⟨b,o,he,_,hc⟩:=o2 j hj
    simp only [Option.some.injEq,Addr.mk.injEq,and_true] at he
    obtain ⟨rfl,rfl⟩:=he
    rw [hg j hj];exact hc)
  refine this.mono ?_
  rintro e w' ⟨rfl,q,rfl⟩
  exact ⟨by rw [decide_eq_true rfl],(Gr.refl w).drN q⟩
set_option maxHeartbeats 16000000 in
set_option maxRecDepth 100000 in
theorem metaSame_any (m:MetaT) (v1 v2:Value) (w:World) (h1:Strs w v1 m.keys) (h2:Strs w v2 m.keys):Calls Tryz.prog 28 #[metaV m v1,metaV m v2] w fun e w'=>e=.returned (.bool true)∧Gr w w':=by
 have HK:=hid (fun (y:World) (g:Gr w y)=>keysEq_any v1 v2 m.keys y (h1.gr g) (h2.gr g))
 obtain ⟨A1,c1,rfl,_,_,_⟩:=id h1.open
 obtain ⟨A2,c2,rfl,_,_,_⟩:=id h2.open
 clear h1 h2
 obtain ⟨b0,b1,hg0⟩:=two_box w #[str m.tag.1,.bool m.tag.2,.int .i64 m.mod,.int .i64 m.len,.int .i64 m.hv,.int .i64 m.fr,.int .i64 m.wh,.int .i64 m.er,.slice A1 m.keys.length c1,str m.ten,.bool m.keep] #[str m.tag.1,.bool m.tag.2,.int .i64 m.mod,.int .i64 m.len,.int .i64 m.hv,.int .i64 m.fr,.int .i64 m.wh,.int .i64 m.er,.slice A2 m.keys.length c2,str m.ten,.bool m.keep] 66 66
 unfold metaV metaCs
 have HG0:=hid hg0
 have y0_9:=b0.cell 9;have y0_10:=b0.cell 10
 have y1_9:=b1.cell 9;have y1_10:=b1.cell 10
 simp only [List.getElem?_toArray,List.getElem?_cons_zero,List.getElem?_cons_succ] at y0_9 y0_10 y1_9 y1_10
 clear b0 b1 hg0
 go_enter Tryz.func28,Tryz.ntmps28
 go_wp2_with (go_at_call 83;refine (HK.out _ HG0.out).mono ?_;rintro e w3 ⟨rfl,hg3⟩;have z0:=Gr.cell hg3 y0_9;have z1:=Gr.cell hg3 y0_10;have z2:=Gr.cell hg3 y1_9;have z3:=Gr.cell hg3 y1_10)
 go_ret
 exact ⟨rfl,Gr.tr HG0.out hg3⟩
end Go.Proofs.YtflepnkpihfidaaGreatDoor
namespace Go.Proofs.YtflepnkpihfidaaGreatDoor
open Lib (hid)
open Go.ChangeShapes Go.WideShapes Go.ChangeAt Go.RowKit Go.Deep Go.Joins
def metaSh:Sh:=.seq (.struct tagSh) (.seq (.int .i64) (.seq (.int .i64) (.seq (.int .i64) (.seq (.int .i64) (.seq (.int .i64) (.seq (.int .i64) (.seq (.slice .str) (.seq .str (.seq .bool .nil)))))))))
theorem rows_str {w:World}:∀{rows:List (List Value)},(∀r∈rows,r.length=Sh.str.size∧Rd .str w r)→∃l:List (List UInt8),l.length=rows.length∧rows.flatten=l.map str∧∀x∈l,Low x
 | [],_=>⟨[],rfl,rfl,fun c hc=>by simp at hc⟩
 | r::rows,hr=>by
   obtain ⟨x,hx,ho⟩:=(hr r (List.mem_cons_self ..)).2
   obtain ⟨l,hl,hf,hk⟩:=rows_str (rows:=rows) (fun y hy=>hr y (List.mem_cons_of_mem _ hy))
   refine ⟨x::l,by simp [hl],by rw [List.flatten_cons,hf,hx];rfl,fun y hy=>?_⟩
   rcases List.mem_cons.1 hy with rfl | hy
   ·exact ho
   ·exact hk y hy
section
variable {H : Type} {enc : TypeId × Value → H} {P : Program}
theorem open_meta {W:World} {b0:Nat} {t:TypeId} {v:Value} {d:DataW H} {ps:List MemPlace} (hf:fits P (.struct metaSh) (.inl t)=true)
  (hval:Value.okWide P W .any b0 t v) (hd:DataW.Trod enc P W 0 (fun _=>true) true t v d ps) (hz:∀n∈d.weights P t,n≤reachBytes):∃m vk,v=metaV m vk∧Strs W vk m.keys∧MetaLow m:=by
 obtain ⟨cs,rfl,hr⟩:=open_struct hf hval hd hz
 unfold metaSh at hr
 obtain ⟨c0,c1,rfl,_,h0,h1⟩:=Rd.struct_cons hr
 obtain ⟨tg,rfl,lt⟩:=rd_tag h0
 obtain ⟨mo,c2,rfl,_,h2⟩:=Rd.int_cons h1
 obtain ⟨ln,c3,rfl,_,h3⟩:=Rd.int_cons h2
 obtain ⟨hv,c4,rfl,_,h4⟩:=Rd.int_cons h3
 obtain ⟨fr,c5,rfl,_,h5⟩:=Rd.int_cons h4
 obtain ⟨wh,c6,rfl,_,h6⟩:=Rd.int_cons h5
 obtain ⟨er,c7,rfl,_,h7⟩:=Rd.int_cons h6
 obtain ⟨vk,rk,c8,rfl,_,hs,hrk,h8⟩:=Rd.slice_cons h7
 obtain ⟨tn,c9,rfl,ln2,h9⟩:=Rd.str_cons h8
 obtain ⟨kp,c10,rfl,h10⟩:=Rd.bool_cons h9
 obtain rfl:=Rd.nil_eq h10
 obtain ⟨ks,l1,l2,l3⟩:=rows_str hrk
 rw [l2,←l1] at hs
 exact ⟨⟨tg,mo,ln,hv,fr,wh,er,ks,tn,kp⟩,vk,by simp [metaV,metaCs],hs,⟨lt,ln2,l3⟩⟩
end
end Go.Proofs.YtflepnkpihfidaaGreatDoor
