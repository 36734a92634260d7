/- Parts. No conditions but those that each theorem names. -/
import Derived.Test.YtflepnkpihfidaaGreatDoorJChunk
set_option linter.unusedVariables false
set_option linter.unusedSimpArgs false
set_option maxHeartbeats 64000000
set_option maxRecDepth 100000
namespace Go.Proofs.YtflepnkpihfidaaGreatDoor
open Lib (hid)
structure CkT where
 pos:Nat
 size:Nat
 digits:Nat
 long:Nat
 trailers:Nat
def CkT.start:CkT:=⟨0,0,0,0,0⟩
def hexV (c:UInt8):Option Nat:=if 48≤c.toNat∧c.toNat≤57 then some (c.toNat-48) else if 97≤c.toNat∧c.toNat≤102 then some (c.toNat-87) else if 65≤c.toNat∧c.toNat≤70 then some (c.toNat-55) else none
def ckPut (s:CkT) (c:UInt8):CkT×Bool:=(⟨s.pos,s.size,s.digits,s.long+1,s.trailers⟩,decide (s.long+1≤200)&&visC c)
def ckSized (s:CkT) (c:UInt8):CkT×Bool:=match hexV c with
 | some d=>if s.digits=15 then (s,false) else (⟨s.pos,s.size*16+d,s.digits+1,s.long+1,s.trailers⟩,true)
 | none=>if s.digits=0 then (s,false) else if c.toNat=59 then ckPut ⟨1,s.size,s.digits,s.long,s.trailers⟩ c else if c.toNat=13 then (⟨2,s.size,s.digits,s.long,s.trailers⟩,true) else (s,false)
def ckTrail (s:CkT) (c:UInt8):CkT×Bool:=
 if c.toNat=13 then (⟨if s.long=0 then 8 else 7,s.size,s.digits,s.long,s.trailers⟩,true)
 else if (if s.long=0 then s.trailers+1 else s.trailers)≤64 then ckPut ⟨s.pos,s.size,s.digits,s.long,if s.long=0 then s.trailers+1 else s.trailers⟩ c
 else (⟨s.pos,s.size,s.digits,s.long,if s.long=0 then s.trailers+1 else s.trailers⟩,false)
def ckLine (s:CkT) (c:UInt8):CkT×Bool:=
 if c.toNat=10 then
  (if s.pos=2 then (⟨if s.size=0 then 6 else 3,s.size,s.digits,0,s.trailers⟩,true)
  else if s.pos=5 then (⟨0,0,0,0,s.trailers⟩,true)
  else if s.pos=7 then (⟨6,s.size,s.digits,0,s.trailers⟩,true)
  else if s.pos=8 then (⟨9,s.size,s.digits,s.long,s.trailers⟩,true)
  else (s,true))
 else (s,false)
def ckStep (s:CkT) (c:UInt8):CkT×Bool:=
 if s.pos=0 then ckSized s c
 else if s.pos=1 then (if c.toNat=13 then (⟨2,s.size,s.digits,s.long,s.trailers⟩,true) else ckPut s c)
 else if s.pos=4 then (if c.toNat=13 then (⟨5,s.size,s.digits,s.long,s.trailers⟩,true) else (s,false))
 else if s.pos=6 then ckTrail s c
 else ckLine s c
def ckData (s:CkT) (m:Nat):CkT:=⟨if s.size-m=0 then 4 else 3,s.size-m,s.digits,s.long,s.trailers⟩
def ckTake (s:CkT):List UInt8→List UInt8×Nat×CkT×Bool
 | []=>([],0,s,true)
 | c::t=>if s.pos=9 then ([],0,s,true)
   else if s.pos=3 then (c::(ckTake (ckData s 1) t).1,(ckTake (ckData s 1) t).2.1+1,(ckTake (ckData s 1) t).2.2)
   else if (ckStep s c).2 then ((ckTake (ckStep s c).1 t).1,(ckTake (ckStep s c).1 t).2.1+1,(ckTake (ckStep s c).1 t).2.2)
   else ([],0,(ckStep s c).1,false)
theorem ckTake_cons (s:CkT) (c:UInt8) (t:List UInt8):ckTake s (c::t)=if s.pos=9 then ([],0,s,true)
  else if s.pos=3 then (c::(ckTake (ckData s 1) t).1,(ckTake (ckData s 1) t).2.1+1,(ckTake (ckData s 1) t).2.2)
  else if (ckStep s c).2 then ((ckTake (ckStep s c).1 t).1,(ckTake (ckStep s c).1 t).2.1+1,(ckTake (ckStep s c).1 t).2.2)
  else ([],0,(ckStep s c).1,false):=rfl
theorem ckTake_end {s:CkT} (h:s.pos=9) (l:List UInt8):ckTake s l=([],0,s,true):=by
 cases l with
 | nil=>rfl
 | cons c t=>rw [ckTake_cons,if_pos h]
theorem ckTake_data1 {s:CkT} (h:s.pos=3) (c:UInt8) (t:List UInt8):ckTake s (c::t)=(c::(ckTake (ckData s 1) t).1,(ckTake (ckData s 1) t).2.1+1,(ckTake (ckData s 1) t).2.2):=by
 rw [ckTake_cons,if_neg (by omega),if_pos h]
theorem ckTake_step {s:CkT} (h9:s.pos≠9) (h3:s.pos≠3) {c:UInt8} (hs:(ckStep s c).2=true) (t:List UInt8):ckTake s (c::t)=((ckTake (ckStep s c).1 t).1,(ckTake (ckStep s c).1 t).2.1+1,(ckTake (ckStep s c).1 t).2.2):=by
 rw [ckTake_cons,if_neg h9,if_neg h3,if_pos hs]
theorem ckTake_bad {s:CkT} (h9:s.pos≠9) (h3:s.pos≠3) {c:UInt8} (hs:(ckStep s c).2=false) (t:List UInt8):ckTake s (c::t)=([],0,(ckStep s c).1,false):=by
 rw [ckTake_cons,if_neg h9,if_neg h3,hs,if_neg (by simp)]
theorem ckTake_app:∀(a b:List UInt8) (s:CkT),ckTake s (a++b)=if (ckTake s a).2.2.2=true∧(ckTake s a).2.1=a.length then ((ckTake s a).1++(ckTake (ckTake s a).2.2.1 b).1,(ckTake s a).2.1+(ckTake (ckTake s a).2.2.1 b).2.1,(ckTake (ckTake s a).2.2.1 b).2.2) else ckTake s a
 | [],b,s=>by simp [ckTake]
 | c::t,b,s=>by
   rw [List.cons_append]
   by_cases h9:s.pos=9
   ·rw [ckTake_end h9,ckTake_end h9,if_neg (by simp)]
   by_cases h3:s.pos=3
   ·rw [ckTake_data1 h3,ckTake_data1 h3,ckTake_app t b]
    simp only [List.length_cons]
    by_cases hc:(ckTake (ckData s 1) t).2.2.2=true∧(ckTake (ckData s 1) t).2.1=t.length
    ·rw [if_pos hc,if_pos ⟨hc.1,by omega⟩]
     simp only [List.cons_append]
     congr 2;omega
    ·rw [if_neg hc,if_neg (fun h=>hc ⟨h.1,by omega⟩)]
   ·cases hs:(ckStep s c).2 with
    | true=>
      rw [ckTake_step h9 h3 hs,ckTake_step h9 h3 hs,ckTake_app t b]
      simp only [List.length_cons]
      by_cases hc:(ckTake (ckStep s c).1 t).2.2.2=true∧(ckTake (ckStep s c).1 t).2.1=t.length
      ·rw [if_pos hc,if_pos ⟨hc.1,by omega⟩]
       simp only
       congr 2;omega
      ·rw [if_neg hc,if_neg (fun h=>hc ⟨h.1,by omega⟩)]
    | false=>
      rw [ckTake_bad h9 h3 hs,ckTake_bad h9 h3 hs,if_neg (by simp)]
def ckGo (s:CkT) (l d:List UInt8) (s':CkT):Prop:=ckTake s l=(d,l.length,s',true)
theorem ckGo.app {s s1 s2:CkT} {a b d1 d2:List UInt8} (h1:ckGo s a d1 s1) (h2:ckGo s1 b d2 s2):ckGo s (a++b) (d1++d2) s2:=by
 unfold ckGo at *
 rw [ckTake_app,h1,if_pos ⟨rfl,rfl⟩]
 simp only
 rw [h2,List.length_append]
theorem ckGo.one {s s':CkT} {c:UInt8} (h9:s.pos≠9) (h3:s.pos≠3) (h:ckStep s c=(s',true)):ckGo s [c] [] s':=by
 unfold ckGo
 rw [ckTake_step h9 h3 (by rw [h]),h];rfl
theorem hexV_hexD {d:Nat} (h:d < 16):hexV (hexD d)=some d:=by
 have key:∀i:Fin 16,hexV (hexD i.val)=some i.val:=by decide
 exact key ⟨d,h⟩
theorem ck_hex (t:Nat):∀n:Nat,(hexT n).length≤15→ckGo ⟨0,0,0,0,t⟩ (hexT n) [] ⟨0,n,(hexT n).length,(hexT n).length,t⟩:=by
 intro n
 induction n using Nat.strongRecOn with
 | ind n ih=>
   intro hl
   rw [hexT] at hl ⊢
   by_cases h:n < 16
   ·rw [if_pos h] at hl ⊢
    refine ckGo.one (by simp) (by simp) ?_
    unfold ckStep ckSized
    simp only [hexV_hexD h]
    simp
   ·rw [if_neg h] at hl ⊢
    simp only [List.length_append,List.length_singleton] at hl ⊢
    have h1:=ih (n / 16) (by omega) (by omega)
    refine ckGo.app h1 (d2:=[]) (ckGo.one (by simp) (by simp) ?_)
    unfold ckStep ckSized
    simp only [hexV_hexD (Nat.mod_lt n (by omega:16 > 0))]
    rw [if_pos trivial,if_neg (by omega)]
    simp only [Prod.mk.injEq,CkT.mk.injEq,and_true,true_and]
    omega
theorem ck_data:∀(l:List UInt8) (s:CkT),s.pos=3→1≤l.length→l.length≤s.size→ckGo s l l (ckData s l.length)
 | [],s,_,h,_=>by simp at h
 | [c],s,h3,_,_=>by unfold ckGo;rw [ckTake_data1 h3];rfl
 | c::c2::t,s,h3,_,h=>by
   simp only [List.length_cons] at h
   have hp:(ckData s 1).pos=3:=by unfold ckData;simp only;rw [if_neg (by omega)]
   have ih:=ck_data (c2::t) (ckData s 1) hp (by simp) (by simp only [ckData,List.length_cons];omega)
   unfold ckGo at *
   rw [ckTake_data1 h3,ih]
   simp only [Prod.mk.injEq,List.length_cons,true_and,and_true]
   unfold ckData
   simp only [CkT.mk.injEq,and_true]
   have e:s.size-1-(t.length+1)=s.size-(t.length+1+1):=by omega
   rw [e]
   exact ⟨rfl,rfl⟩
theorem ck_crlf_size {n d:Nat} (t:Nat) (hd:d≠0) (hn:n≠0):ckGo ⟨0,n,d,d,t⟩ [13,10] [] ⟨3,n,d,0,t⟩:=by
 refine ckGo.app (a:=[13]) (b:=[10]) (d1:=[]) (d2:=[]) (s1:=⟨2,n,d,d,t⟩) (ckGo.one (by simp) (by simp) ?_) (ckGo.one (by simp) (by simp) ?_)
 ·unfold ckStep ckSized
  simp only [show hexV 13=none by decide]
  rw [if_pos trivial,if_neg hd,if_neg (by decide),if_pos (by decide)]
 ·unfold ckStep ckLine
  simp [hn]
theorem ck_crlf_data (d t:Nat):ckGo ⟨4,0,d,0,t⟩ [13,10] [] ⟨0,0,0,0,t⟩:=by
 refine ckGo.app (a:=[13]) (b:=[10]) (d1:=[]) (d2:=[]) (s1:=⟨5,0,d,0,t⟩) (ckGo.one (by simp) (by simp) ?_) (ckGo.one (by simp) (by simp) ?_)
 ·unfold ckStep;simp
 ·unfold ckStep ckLine;simp
theorem ck_chunk (l:List UInt8) (t:Nat) (hl:l.length < 1000000000000000):ckGo ⟨0,0,0,0,t⟩ (chunkL l) l ⟨0,0,0,0,t⟩:=by
 unfold chunkL
 by_cases hn:l=[]
 ·rw [if_pos hn,hn];rfl
 ·rw [if_neg hn]
  have hp:0 < l.length:=List.length_pos_iff.2 hn
  have h15:(hexT l.length).length≤15:=by
   obtain ⟨j,hj,h1,h2⟩:=hexT_ex 14 l.length (by omega)
   rw [hexT_len l.length j h1 h2];omega
  have h1:=(hexT_le l.length (by omega)).1
  have hd:=ck_data l ⟨3,l.length,(hexT l.length).length,0,t⟩ rfl hp (Nat.le_refl _)
  have e:ckData ⟨3,l.length,(hexT l.length).length,0,t⟩ l.length=⟨4,0,(hexT l.length).length,0,t⟩:=by unfold ckData;simp
  rw [e] at hd
  have:=(((ck_hex t l.length h15).app (ck_crlf_size t (by omega) (by omega))).app hd).app (ck_crlf_data _ t)
  simpa using this
theorem ck_last:ckGo CkT.start lastL [] ⟨9,0,1,0,0⟩:=by unfold ckGo;rfl
theorem ck_whole (l:List UInt8) (hl:l.length < 1000000000000000):ckGo CkT.start (chunkL l++lastL) l ⟨9,0,1,0,0⟩:=by
 have:=(ck_chunk l 0 hl).app ck_last
 rw [List.append_nil] at this
 exact this
theorem ck_more {l:List UInt8} (hl:l.length < 1000000000000000) (more:List UInt8):ckTake CkT.start (chunkL l++lastL++more)=(l,(chunkL l++lastL).length,⟨9,0,1,0,0⟩,true):=by
 have h:=ck_whole l hl
 unfold ckGo at h
 rw [ckTake_app,h,if_pos ⟨rfl,rfl⟩]
 simp only [ckTake_end (s:=⟨9,0,1,0,0⟩) rfl]
 simp
structure CkOk (s:CkT):Prop where
 pos:s.pos≤9
 dig:s.digits≤15
 size:s.size < 1152921504606846976
 long:s.long≤200
 trail:s.trailers≤64
 data:s.pos=3→1≤s.size
 fit:s.pos=0→s.size < 16 ^ s.digits∧s.long=s.digits
theorem ckOk_start:CkOk CkT.start:=⟨by decide,by decide,by decide,by decide,by decide,(by intro h;cases h),fun _=>by decide⟩
theorem hexV_lt {c:UInt8} {d:Nat} (h:hexV c=some d):d < 16:=by
 unfold hexV at h
 split at h
 ·simp only [Option.some.injEq] at h;omega
 ·split at h
  ·simp only [Option.some.injEq] at h;omega
  ·split at h
   ·simp only [Option.some.injEq] at h;omega
   ·cases h
theorem ckPut_ok {s:CkT} {c:UInt8} (h0:s.pos≤9) (h1:s.digits≤15) (h2:s.size < 1152921504606846976) (h4:s.trailers≤64) (h5:s.pos≠3) (h6:s.pos≠0) (hok:(ckPut s c).2=true):CkOk (ckPut s c).1:=by
 unfold ckPut at *
 simp only [Bool.and_eq_true,decide_eq_true_eq] at hok
 exact ⟨h0,h1,h2,hok.1,h4,fun h=>absurd h h5,fun h=>absurd h h6⟩
theorem ckStep_ok {s:CkT} {c:UInt8} (h:CkOk s) (h3:s.pos≠3) (hok:(ckStep s c).2=true):CkOk (ckStep s c).1:=by
 obtain ⟨h0,h1,h2,h4,h5,h6,h7⟩:=h
 unfold ckStep at *
 by_cases e0:s.pos=0
 ·rw [if_pos e0] at hok ⊢
  obtain ⟨hs,hl⟩:=h7 e0
  unfold ckSized at *
  cases hv:hexV c with
  | some d=>
    rw [hv] at hok
    simp only at hok ⊢
    have hd:=hexV_lt hv
    by_cases hq:s.digits=15
    ·rw [if_pos hq] at hok;cases hok
    ·rw [if_neg hq]
     have hp:s.size*16+d < 16 ^ (s.digits+1):=by rw [Nat.pow_succ];omega
     have hp2:16 ^ (s.digits+1)≤16 ^ 15:=Nat.pow_le_pow_right (by omega) (by omega)
     exact ⟨h0,by show s.digits+1≤15;omega,by show s.size*16+d < _;omega,by show s.long+1≤200;omega,h5,fun h=>absurd h h3,fun _=>⟨hp,by show s.long+1=s.digits+1;omega⟩⟩
  | none=>
    rw [hv] at hok
    simp only at hok ⊢
    by_cases hq:s.digits=0
    ·rw [if_pos hq] at hok;cases hok
    rw [if_neg hq] at hok ⊢
    by_cases h59:c.toNat=59
    ·rw [if_pos h59] at hok ⊢
     exact ckPut_ok (by show 1≤9;omega) h1 h2 h5 (by show (1:Nat)≠3;omega) (by show (1:Nat)≠0;omega) hok
    rw [if_neg h59] at hok ⊢
    by_cases h13:c.toNat=13
    ·rw [if_pos h13]
     exact ⟨by show 2≤9;omega,h1,h2,h4,h5,(by intro h;simp at h),(by intro h;simp at h)⟩
    ·rw [if_neg h13] at hok;cases hok
 rw [if_neg e0] at hok ⊢
 by_cases e1:s.pos=1
 ·rw [if_pos e1] at hok ⊢
  by_cases h13:c.toNat=13
  ·rw [if_pos h13]
   exact ⟨by show 2≤9;omega,h1,h2,h4,h5,(by intro h;simp at h),(by intro h;simp at h)⟩
  ·rw [if_neg h13] at hok ⊢
   exact ckPut_ok h0 h1 h2 h5 h3 e0 hok
 rw [if_neg e1] at hok ⊢
 by_cases e4:s.pos=4
 ·rw [if_pos e4] at hok ⊢
  by_cases h13:c.toNat=13
  ·rw [if_pos h13]
   exact ⟨by show 5≤9;omega,h1,h2,h4,h5,(by intro h;simp at h),(by intro h;simp at h)⟩
  ·rw [if_neg h13] at hok;cases hok
 rw [if_neg e4] at hok ⊢
 by_cases e6:s.pos=6
 ·rw [if_pos e6] at hok ⊢
  unfold ckTrail at *
  by_cases h13:c.toNat=13
  ·rw [if_pos h13]
   exact ⟨by show (if s.long=0 then 8 else 7)≤9;split <;> omega,h1,h2,h4,h5,fun h=>by revert h;show (if s.long=0 then 8 else 7)=3→_;split <;> omega,fun h=>by exfalso;revert h;show (if s.long=0 then 8 else 7)=0→_;split <;> omega⟩
  ·rw [if_neg h13] at hok ⊢
   by_cases h64:(if s.long=0 then s.trailers+1 else s.trailers)≤64
   ·rw [if_pos h64] at hok ⊢
    exact ckPut_ok h0 h1 h2 h64 h3 e0 hok
   ·rw [if_neg h64] at hok;cases hok
 rw [if_neg e6] at hok ⊢
 unfold ckLine at *
 by_cases h10:c.toNat=10
 ·rw [if_pos h10] at hok ⊢
  by_cases e2:s.pos=2
  ·rw [if_pos e2]
   by_cases hz:s.size=0
   ·rw [if_pos hz];exact ⟨by show 6≤9;omega,h1,h2,by show 0≤200;omega,h5,(by intro h;simp at h),(by intro h;simp at h)⟩
   ·rw [if_neg hz];exact ⟨by show 3≤9;omega,h1,h2,by show 0≤200;omega,h5,(fun _=>by show 1≤s.size;omega),(by intro h;simp at h)⟩
  rw [if_neg e2]
  by_cases e5:s.pos=5
  ·rw [if_pos e5];exact ⟨by show 0≤9;omega,by show 0≤15;omega,by show 0 < 1152921504606846976;omega,by show 0≤200;omega,h5,(by intro h;simp at h),fun _=>⟨by show 0 < 16 ^ 0;simp,rfl⟩⟩
  rw [if_neg e5]
  by_cases e7:s.pos=7
  ·rw [if_pos e7];exact ⟨by show 6≤9;omega,h1,h2,by show 0≤200;omega,h5,(by intro h;simp at h),(by intro h;simp at h)⟩
  rw [if_neg e7]
  by_cases e8:s.pos=8
  ·rw [if_pos e8];exact ⟨by show 9≤9;omega,h1,h2,h4,h5,(by intro h;simp at h),(by intro h;simp at h)⟩
  rw [if_neg e8];exact ⟨h0,h1,h2,h4,h5,h6,h7⟩
 ·rw [if_neg h10] at hok;cases hok
theorem ckData_ok {s:CkT} {m:Nat} (h:CkOk s) (_hm:1≤m):CkOk (ckData s m):=by
 obtain ⟨h0,h1,h2,h4,h5,h6,h7⟩:=h
 unfold ckData
 refine ⟨?_,h1,by show s.size-m < _;omega,h4,h5,?_,?_⟩
 ·show (if s.size-m=0 then 4 else 3)≤9;split <;> omega
 ·show (if s.size-m=0 then 4 else 3)=3→1≤s.size-m
  split <;> omega
 ·show (if s.size-m=0 then 4 else 3)=0→_
  split <;> (intro h;cases h)
theorem ckTake_ok:∀(l:List UInt8) (s:CkT),CkOk s→(ckTake s l).2.2.2=true→CkOk (ckTake s l).2.2.1
 | [],s,h,_=>h
 | c::t,s,h,hok=>by
   by_cases h9:s.pos=9
   ·rw [ckTake_end h9];exact h
   by_cases h3:s.pos=3
   ·rw [ckTake_data1 h3] at hok ⊢
    exact ckTake_ok t _ (ckData_ok h (Nat.le_refl _)) hok
   ·cases hs:(ckStep s c).2 with
    | true=>
      rw [ckTake_step h9 h3 hs] at hok ⊢
      exact ckTake_ok t _ (ckStep_ok h h3 hs) hok
    | false=>rw [ckTake_bad h9 h3 hs] at hok;cases hok
theorem ckTake_many {s:CkT} (h3:s.pos=3) (a b:List UInt8) (h1:1≤a.length) (h2:a.length≤s.size):ckTake s (a++b)=(a++(ckTake (ckData s a.length) b).1,a.length+(ckTake (ckData s a.length) b).2.1,(ckTake (ckData s a.length) b).2.2):=by
 have h:=ck_data a s h3 h1 h2
 unfold ckGo at h
 rw [ckTake_app,h,if_pos ⟨rfl,rfl⟩]
end Go.Proofs.YtflepnkpihfidaaGreatDoor
namespace Go.Proofs.YtflepnkpihfidaaGreatDoor
open Lib (hid)
open Go.RowKit
def ckCs (s:CkT) (b:Bool):Array Value:=#[.int .i64 (s.pos:Nat),.int .i64 (s.size:Nat),.int .i64 (s.digits:Nat),.int .i64 (s.long:Nat),.int .i64 (s.trailers:Nat),.bool b]
def CkAt (w:World) (g:Nat) (s:CkT) (b:Bool):Prop:=Bk w g 332 (ckCs s b) (0,0)
theorem CkAt.gr {w w':World} {g:Nat} {s:CkT} {b:Bool} (h:CkAt w g s b) (k:Gr w w'):CkAt w' g s b:=Bk.gr h k
theorem CkAt.pos {w:World} {g:Nat} {s:CkT} {b:Bool} (h:CkAt w g s b) (p:Nat):CkAt (w.setCell ⟨g,0,none⟩ (.int .i64 p)) g ⟨p,s.size,s.digits,s.long,s.trailers⟩ b:=by
 have:=Bk.set h 0 (.int .i64 p);simpa [CkAt,ckCs] using this
theorem CkAt.size {w:World} {g:Nat} {s:CkT} {b:Bool} (h:CkAt w g s b) (p:Nat):CkAt (w.setCell ⟨g,1,none⟩ (.int .i64 p)) g ⟨s.pos,p,s.digits,s.long,s.trailers⟩ b:=by
 have:=Bk.set h 1 (.int .i64 p);simpa [CkAt,ckCs] using this
theorem CkAt.digits {w:World} {g:Nat} {s:CkT} {b:Bool} (h:CkAt w g s b) (p:Nat):CkAt (w.setCell ⟨g,2,none⟩ (.int .i64 p)) g ⟨s.pos,s.size,p,s.long,s.trailers⟩ b:=by
 have:=Bk.set h 2 (.int .i64 p);simpa [CkAt,ckCs] using this
theorem CkAt.long {w:World} {g:Nat} {s:CkT} {b:Bool} (h:CkAt w g s b) (p:Nat):CkAt (w.setCell ⟨g,3,none⟩ (.int .i64 p)) g ⟨s.pos,s.size,s.digits,p,s.trailers⟩ b:=by
 have:=Bk.set h 3 (.int .i64 p);simpa [CkAt,ckCs] using this
theorem CkAt.trailers {w:World} {g:Nat} {s:CkT} {b:Bool} (h:CkAt w g s b) (p:Nat):CkAt (w.setCell ⟨g,4,none⟩ (.int .i64 p)) g ⟨s.pos,s.size,s.digits,s.long,p⟩ b:=by
 have:=Bk.set h 4 (.int .i64 p);simpa [CkAt,ckCs] using this
theorem CkAt.bad {w:World} {g:Nat} {s:CkT} {b:Bool} (h:CkAt w g s b) (q:Bool):CkAt (w.setCell ⟨g,5,none⟩ (.bool q)) g s q:=by
 have:=Bk.set h 5 (.bool q);simpa [CkAt,ckCs] using this
theorem CkAt.cells {w:World} {g:Nat} {s:CkT} {b:Bool} (h:CkAt w g s b):w.cell? ⟨g,0,none⟩=some (.int .i64 (s.pos:Nat))∧w.cell? ⟨g,1,none⟩=some (.int .i64 (s.size:Nat))∧w.cell? ⟨g,2,none⟩=some (.int .i64 (s.digits:Nat))∧w.cell? ⟨g,3,none⟩=some (.int .i64 (s.long:Nat))∧w.cell? ⟨g,4,none⟩=some (.int .i64 (s.trailers:Nat))∧w.cell? ⟨g,5,none⟩=some (.bool b):=
 ⟨Bk.cell h 0,Bk.cell h 1,Bk.cell h 2,Bk.cell h 3,Bk.cell h 4,Bk.cell h 5⟩
theorem CkAt.free {w:World} {g:Nat} {s:CkT} {b:Bool} (h:CkAt w g s b):w.frozen? ⟨g,0,none⟩=false∧w.frozen? ⟨g,1,none⟩=false∧w.frozen? ⟨g,2,none⟩=false∧w.frozen? ⟨g,3,none⟩=false∧w.frozen? ⟨g,4,none⟩=false∧w.frozen? ⟨g,5,none⟩=false:=
 ⟨Bk.free h 0 (.inr (Nat.zero_le _)),Bk.free h 1 (.inr (Nat.zero_le _)),Bk.free h 2 (.inr (Nat.zero_le _)),Bk.free h 3 (.inr (Nat.zero_le _)),Bk.free h 4 (.inr (Nat.zero_le _)),Bk.free h 5 (.inr (Nat.zero_le _))⟩
theorem CkAt.by {w w':World} {g:Nat} {s:CkT} {b:Bool} {r:Option Nat} (h:CkAt w g s b) (k:w.grownBy w' r) (hr:some g≠r):CkAt w' g s b:=bk_byo h k hr
def StepEnd (w:World) (g:Nat) (r:CkT×Bool) (e:Ending) (w':World):Prop:=e=.returned (.bool r.2)∧CkAt w' g r.1 false∧w.grownBy w' (some g)
def hexI (c:UInt8):Int:=match hexV c with | some d=>(d:Int) | none=>-1
theorem ckDigit_any (c:UInt8) (w:World):Calls Tryz.prog 317 #[.int .u8 c.toNat] w fun e w'=>e=.returned (.int .i64 (hexI c))∧Gr w w':=by
 have hc:c.toNat≤255:=by have:=c.toNat_lt;omega
 have HH:=hid (show hexI c=match (if 48≤c.toNat∧c.toNat≤57 then some (c.toNat-48) else if 97≤c.toNat∧c.toNat≤102 then some (c.toNat-87) else if 65≤c.toNat∧c.toNat≤70 then some (c.toNat-55) else none) with | some d=>((d:Nat):Int) | none=>-1 from rfl)
 by_cases c1:48≤c.toNat∧c.toNat≤57
 ·have HX:=hid (show hexI c=(c.toNat:Int)-48 from by rw [HH.out,if_pos c1];simp only;omega)
  obtain ⟨a1,a2⟩:=c1
  have ddge48:decide (48≤((c.toNat:Nat):Int))=true:=decide_eq_true (by omega)
  have ddle57:decide (((c.toNat:Nat):Int)≤57)=true:=decide_eq_true (by omega)
  have ddge97:decide (97≤((c.toNat:Nat):Int))=false:=decide_eq_false (by omega)
  have ddle102:decide (((c.toNat:Nat):Int)≤102)=true:=decide_eq_true (by omega)
  have ddge65:decide (65≤((c.toNat:Nat):Int))=false:=decide_eq_false (by omega)
  have ddle70:decide (((c.toNat:Nat):Int)≤70)=true:=decide_eq_true (by omega)
  have e2:IntKind.u8.wrap ((c.toNat:Int)-48)=(c.toNat:Int)-48:=by rw [IntKind.wrap_u8];omega
  go_enter Tryz.func317,Tryz.ntmps317
  go_wp2_with fail
  go_ret
  exact ⟨ret_int (by rw [HX.out]),Gr.refl _⟩
 by_cases c2:97≤c.toNat∧c.toNat≤102
 ·have HX:=hid (show hexI c=(c.toNat:Int)-97+10 from by rw [HH.out,if_neg c1,if_pos c2];simp only;omega)
  obtain ⟨a1,a2⟩:=c2
  have ddge48:decide (48≤((c.toNat:Nat):Int))=true:=decide_eq_true (by omega)
  have ddle57:decide (((c.toNat:Nat):Int)≤57)=false:=decide_eq_false (by omega)
  have ddge97:decide (97≤((c.toNat:Nat):Int))=true:=decide_eq_true (by omega)
  have ddle102:decide (((c.toNat:Nat):Int)≤102)=true:=decide_eq_true (by omega)
  have ddge65:decide (65≤((c.toNat:Nat):Int))=true:=decide_eq_true (by omega)
  have ddle70:decide (((c.toNat:Nat):Int)≤70)=false:=decide_eq_false (by omega)
  have e2:IntKind.u8.wrap ((c.toNat:Int)-97)=(c.toNat:Int)-97:=by rw [IntKind.wrap_u8];omega
  go_enter Tryz.func317,Tryz.ntmps317
  go_wp2_with fail
  go_ret
  exact ⟨ret_int (by rw [HX.out]),Gr.refl _⟩
 by_cases c3:65≤c.toNat∧c.toNat≤70
 ·have HX:=hid (show hexI c=(c.toNat:Int)-65+10 from by rw [HH.out,if_neg c1,if_neg c2,if_pos c3];simp only;omega)
  obtain ⟨a1,a2⟩:=c3
  have ddge48:decide (48≤((c.toNat:Nat):Int))=true:=decide_eq_true (by omega)
  have ddle57:decide (((c.toNat:Nat):Int)≤57)=false:=decide_eq_false (by omega)
  have ddge97:decide (97≤((c.toNat:Nat):Int))=false:=decide_eq_false (by omega)
  have ddle102:decide (((c.toNat:Nat):Int)≤102)=true:=decide_eq_true (by omega)
  have ddge65:decide (65≤((c.toNat:Nat):Int))=true:=decide_eq_true (by omega)
  have ddle70:decide (((c.toNat:Nat):Int)≤70)=true:=decide_eq_true (by omega)
  have e2:IntKind.u8.wrap ((c.toNat:Int)-65)=(c.toNat:Int)-65:=by rw [IntKind.wrap_u8];omega
  go_enter Tryz.func317,Tryz.ntmps317
  go_wp2_with fail
  go_ret
  exact ⟨ret_int (by rw [HX.out]),Gr.refl _⟩
 ·have HX:=hid (show hexI c= -1 from by rw [HH.out,if_neg c1,if_neg c2,if_neg c3])
  by_cases b1:c.toNat < 48
  ·have ddge48:decide (48≤((c.toNat:Nat):Int))=false:=decide_eq_false (by omega)
   have ddle57:decide (((c.toNat:Nat):Int)≤57)=true:=decide_eq_true (by omega)
   have ddge97:decide (97≤((c.toNat:Nat):Int))=false:=decide_eq_false (by omega)
   have ddle102:decide (((c.toNat:Nat):Int)≤102)=true:=decide_eq_true (by omega)
   have ddge65:decide (65≤((c.toNat:Nat):Int))=false:=decide_eq_false (by omega)
   have ddle70:decide (((c.toNat:Nat):Int)≤70)=true:=decide_eq_true (by omega)
   go_enter Tryz.func317,Tryz.ntmps317
   go_wp2_with fail
   go_ret
   exact ⟨ret_int (by rw [HX.out]),Gr.refl _⟩
  by_cases b2:c.toNat < 65
  ·have ddge48:decide (48≤((c.toNat:Nat):Int))=true:=decide_eq_true (by omega)
   have ddle57:decide (((c.toNat:Nat):Int)≤57)=false:=decide_eq_false (by omega)
   have ddge97:decide (97≤((c.toNat:Nat):Int))=false:=decide_eq_false (by omega)
   have ddle102:decide (((c.toNat:Nat):Int)≤102)=true:=decide_eq_true (by omega)
   have ddge65:decide (65≤((c.toNat:Nat):Int))=false:=decide_eq_false (by omega)
   have ddle70:decide (((c.toNat:Nat):Int)≤70)=true:=decide_eq_true (by omega)
   go_enter Tryz.func317,Tryz.ntmps317
   go_wp2_with fail
   go_ret
   exact ⟨ret_int (by rw [HX.out]),Gr.refl _⟩
  by_cases b3:c.toNat < 97
  ·have ddge48:decide (48≤((c.toNat:Nat):Int))=true:=decide_eq_true (by omega)
   have ddle57:decide (((c.toNat:Nat):Int)≤57)=false:=decide_eq_false (by omega)
   have ddge97:decide (97≤((c.toNat:Nat):Int))=false:=decide_eq_false (by omega)
   have ddle102:decide (((c.toNat:Nat):Int)≤102)=true:=decide_eq_true (by omega)
   have ddge65:decide (65≤((c.toNat:Nat):Int))=true:=decide_eq_true (by omega)
   have ddle70:decide (((c.toNat:Nat):Int)≤70)=false:=decide_eq_false (by omega)
   go_enter Tryz.func317,Tryz.ntmps317
   go_wp2_with fail
   go_ret
   exact ⟨ret_int (by rw [HX.out]),Gr.refl _⟩
  ·have ddge48:decide (48≤((c.toNat:Nat):Int))=true:=decide_eq_true (by omega)
   have ddle57:decide (((c.toNat:Nat):Int)≤57)=false:=decide_eq_false (by omega)
   have ddge97:decide (97≤((c.toNat:Nat):Int))=true:=decide_eq_true (by omega)
   have ddle102:decide (((c.toNat:Nat):Int)≤102)=false:=decide_eq_false (by omega)
   have ddge65:decide (65≤((c.toNat:Nat):Int))=true:=decide_eq_true (by omega)
   have ddle70:decide (((c.toNat:Nat):Int)≤70)=false:=decide_eq_false (by omega)
   go_enter Tryz.func317,Tryz.ntmps317
   go_wp2_with fail
   go_ret
   exact ⟨ret_int (by rw [HX.out]),Gr.refl _⟩
theorem ckPut_any (s:CkT) (c:UInt8) (w:World) (g:Nat) (h:CkAt w g s false) (hl:s.long≤1000):Calls Tryz.prog 302 #[.pointer (some ⟨g,0,none⟩),.int .u8 c.toNat] w (StepEnd w g (ckPut s c)):=by
 obtain ⟨z0,z1,z2,z3,z4,z5⟩:=h.cells
 obtain ⟨f0,f1,f2,f3,f4,f5⟩:=h.free
 have hc:c.toNat≤255:=by have:=c.toNat_lt;omega
 have HE:=hid (show CkAt (w.setCell ⟨g,3,none⟩ (.int .i64 (s.long+1:Nat))) g (ckPut s c).1 false from h.long (s.long+1))
 have HB:Hid (w.grownBy (w.setCell ⟨g,3,none⟩ (.int .i64 (s.long+1:Nat))) (some g)):=by_st ((Gr.refl w).by _) 3 _
 have HP:=hid (show (ckPut s c).2=(decide (s.long+1≤200)&&visC c) from rfl)
 have e1:IntKind.i64.wrap (((s.long:Nat):Int)+1)=((s.long+1:Nat):Int):=by rw [IntWalk.i64_in _ (by omega)];omega
 clear h z0 z1 z2 z4 z5 f0 f1 f2 f4 f5
 generalize ckPut s c=R at *
 by_cases h2:s.long+1≤200
 ·have d2:decide (((s.long+1:Nat):Int)≤200)=true:=decide_eq_true (by omega)
  rw [decide_eq_true h2,Bool.true_and] at HP
  by_cases c1:c.toNat < 32
  ·by_cases c9:c.toNat=9
   ·have HX:=hid (show R.2=true from by rw [HP.out];exact visC_yes c (by omega))
    have ddge32:decide (32≤((c.toNat:Nat):Int))=false:=decide_eq_false (by omega)
    have ddle126:decide (((c.toNat:Nat):Int)≤126)=true:=decide_eq_true (by omega)
    have ddeq9:(((c.toNat:Nat):Int)==9)=true:=by simp;omega
    go_enter Tryz.func302,Tryz.ntmps302
    go_wp2_with fail
    go_ret
    exact ⟨ret_bool (by rw [HX.out]),HE.out,HB.out⟩
   ·have HX:=hid (show R.2=false from by rw [HP.out];exact visC_no c (by omega))
    have ddge32:decide (32≤((c.toNat:Nat):Int))=false:=decide_eq_false (by omega)
    have ddle126:decide (((c.toNat:Nat):Int)≤126)=true:=decide_eq_true (by omega)
    have dd9:(((c.toNat:Nat):Int)==9)=false:=by simp;omega
    go_enter Tryz.func302,Tryz.ntmps302
    go_wp2_with fail
    go_ret
    exact ⟨ret_bool (by rw [HX.out]),HE.out,HB.out⟩
  ·by_cases c3:c.toNat≤126
   ·have HX:=hid (show R.2=true from by rw [HP.out];exact visC_yes c (by omega))
    have ddge32:decide (32≤((c.toNat:Nat):Int))=true:=decide_eq_true (by omega)
    have ddle126:decide (((c.toNat:Nat):Int)≤126)=true:=decide_eq_true (by omega)
    have ddeq9:(((c.toNat:Nat):Int)==9)=false:=by simp;omega
    go_enter Tryz.func302,Tryz.ntmps302
    go_wp2_with fail
    go_ret
    exact ⟨ret_bool (by rw [HX.out]),HE.out,HB.out⟩
   ·have HX:=hid (show R.2=false from by rw [HP.out];exact visC_no c (by omega))
    have ddge32:decide (32≤((c.toNat:Nat):Int))=true:=decide_eq_true (by omega)
    have ddle126:decide (((c.toNat:Nat):Int)≤126)=false:=decide_eq_false (by omega)
    have ddeq9:(((c.toNat:Nat):Int)==9)=false:=by simp;omega
    go_enter Tryz.func302,Tryz.ntmps302
    go_wp2_with fail
    go_ret
    exact ⟨ret_bool (by rw [HX.out]),HE.out,HB.out⟩
 ·have d2:decide (((s.long+1:Nat):Int)≤200)=false:=decide_eq_false (by omega)
  have HX:=hid (show R.2=false from by rw [HP.out,decide_eq_false h2];rfl)
  go_enter Tryz.func302,Tryz.ntmps302
  go_wp2_with fail
  go_ret
  exact ⟨ret_bool (by rw [HX.out]),HE.out,HB.out⟩
theorem ckBegin_any (s:CkT) (w:World) (g:Nat) (h:CkAt w g s false):Calls Tryz.prog 304 #[.pointer (some ⟨g,0,none⟩)] w fun e w'=>e=.returned (.tuple #[])∧CkAt w' g ⟨0,0,0,0,s.trailers⟩ false∧w.grownBy w' (some g):=by
 obtain ⟨z0,z1,z2,z3,z4,z5⟩:=h.cells
 obtain ⟨f0,f1,f2,f3,f4,f5⟩:=h.free
 have HE:=hid ((((h.pos 0).size 0).digits 0).long 0)
 clear h
 go_enter Tryz.func304,Tryz.ntmps304
 go_wp2_with fail
 go_end0
 exact ⟨rfl,HE.out,by_st (by_st (by_st (by_st ((Gr.refl w).by _) _ _) _ _) _ _) _ _⟩
theorem hexI_some {c:UInt8} {d:Nat} (h:hexV c=some d):hexI c=d:=by unfold hexI;rw [h]
theorem hexI_none {c:UInt8} (h:hexV c=none):hexI c= -1:=by unfold hexI;rw [h]
theorem ckSized_any (s:CkT) (c:UInt8) (w:World) (g:Nat) (h:CkAt w g s false) (hk:CkOk s) (hp0:s.pos=0):Calls Tryz.prog 301 #[.pointer (some ⟨g,0,none⟩),.int .u8 c.toNat] w (StepEnd w g (ckSized s c)):=by
 have hc:c.toNat≤255:=by have:=c.toNat_lt;omega
 have HDG:=hid (ckDigit_any c w)
 have HA:=hid (fun (x:World) (k:Gr w x)=>h.gr k)
 have HK:=hid hk
 have k1:=hk.dig;have k3:=hk.long
 have HSZ:=hid (fun (hd:s.digits≠15)=>show s.size < 72057594037927936 from by
  have h1:=(hk.fit hp0).1
  have h2:16 ^ s.digits≤16 ^ 14:=Nat.pow_le_pow_right (by omega) (by omega)
  omega)
 clear h hk hp0
 cases hv:hexV c with
 | some d=>
   have hd:=hexV_lt hv
   rw [hexI_some hv] at HDG
   by_cases h15:s.digits=15
   ·have HX:=hid (show ckSized s c=(s,false) from by unfold ckSized;rw [hv];simp only;rw [if_pos h15])
    have d15:(((s.digits:Nat):Int)==15)=true:=by simp;omega
    have dd:decide ((0:Int)≤(d:Int))=true:=decide_eq_true (by omega)
    clear hv h15 HSZ
    go_enter Tryz.func301,Tryz.ntmps301
    go_upto_region 2 with (go_at_call 317;refine HDG.out.mono ?_;rintro e w1 ⟨rfl,hG1⟩;obtain ⟨z0,z1,z2,z3,z4,z5⟩:=(HA.out _ hG1).cells;clear z0 z1 z3 z4 z5)
    go_wp2_with fail
    go_ret
    rw [HX.out]
    exact ⟨rfl,HA.out _ hG1,hG1.by _⟩
   ·have HX:=hid (show ckSized s c=(⟨s.pos,s.size*16+d,s.digits+1,s.long+1,s.trailers⟩,true) from by unfold ckSized;rw [hv];simp only;rw [if_neg h15])
    have d15:(((s.digits:Nat):Int)==15)=false:=by simp;omega
    have k2:=HSZ.out h15
    have dd:decide ((0:Int)≤(d:Int))=true:=decide_eq_true (by omega)
    clear hv
    go_enter Tryz.func301,Tryz.ntmps301
    go_upto_region 2 with (go_at_call 317;refine HDG.out.mono ?_;rintro e w1 ⟨rfl,hG1⟩;have hA1:=HA.out _ hG1;obtain ⟨z0,z1,z2,z3,z4,z5⟩:=hA1.cells;obtain ⟨f0,f1,f2,f3,f4,f5⟩:=hA1.free;have HE:=hid (((hA1.size (s.size*16+d)).digits (s.digits+1)).long (s.long+1));clear z0 z4 z5 f0 f4 f5 hA1)
    have e1:IntKind.i64.wrap (IntKind.i64.wrap (((s.size:Nat):Int)*16)+(d:Int))=((s.size*16+d:Nat):Int):=by rw [IntWalk.i64_in (((s.size:Nat):Int)*16) (by omega),IntWalk.i64_in _ (by omega)];omega
    have e2:IntKind.i64.wrap (((s.digits:Nat):Int)+1)=((s.digits+1:Nat):Int):=by rw [IntWalk.i64_in _ (by omega)];omega
    have e3:IntKind.i64.wrap (((s.long:Nat):Int)+1)=((s.long+1:Nat):Int):=by rw [IntWalk.i64_in _ (by omega)];omega
    go_wp2_with fail
    go_ret
    rw [HX.out]
    exact ⟨rfl,HE.out,by_st (by_st (by_st (hG1.by _) _ _) _ _) _ _⟩
 | none=>
   rw [hexI_none hv] at HDG
   by_cases h0:s.digits=0
   ·have HX:=hid (show ckSized s c=(s,false) from by unfold ckSized;rw [hv];simp only;rw [if_pos h0])
    have d0:(((s.digits:Nat):Int)==0)=true:=by simp;omega
    clear hv h0 HSZ
    go_enter Tryz.func301,Tryz.ntmps301
    go_upto_region 2 with (go_at_call 317;refine HDG.out.mono ?_;rintro e w1 ⟨rfl,hG1⟩;obtain ⟨z0,z1,z2,z3,z4,z5⟩:=(HA.out _ hG1).cells;clear z0 z1 z3 z4 z5)
    go_wp2_with fail
    go_ret
    rw [HX.out]
    exact ⟨rfl,HA.out _ hG1,hG1.by _⟩
   ·have d0:(((s.digits:Nat):Int)==0)=false:=by simp;omega
    by_cases h59:c.toNat=59
    ·have HX:=hid (show ckSized s c=ckPut ⟨1,s.size,s.digits,s.long,s.trailers⟩ c from by unfold ckSized;rw [hv];simp only;rw [if_neg h0,if_pos h59])
     have d59:(((c.toNat:Nat):Int)==59)=true:=by simp;omega
     clear hv h59 h0 HSZ
     go_enter Tryz.func301,Tryz.ntmps301
     go_upto_region 2 with (go_at_call 317;refine HDG.out.mono ?_;rintro e w1 ⟨rfl,hG1⟩;have hA1:=HA.out _ hG1;obtain ⟨z0,z1,z2,z3,z4,z5⟩:=hA1.cells;obtain ⟨f0,f1,f2,f3,f4,f5⟩:=hA1.free;have HE:=hid (show CkAt (w1.setCell ⟨g,0,none⟩ (.int .i64 1)) g ⟨1,s.size,s.digits,s.long,s.trailers⟩ false from hA1.pos 1);clear z1 z3 z4 z5 f1 f2 f3 f4 f5 hA1)
     go_wp2_with (go_at_call 302;refine (ckPut_any _ c _ g HE.out (by show s.long≤1000;omega)).mono ?_;rintro e w2 ⟨rfl,hC2,hB2⟩)
     go_ret
     rw [HX.out]
     exact ⟨rfl,hC2,by_trans (by_st (hG1.by _) _ _) hB2⟩
    ·have d59:(((c.toNat:Nat):Int)==59)=false:=by simp;omega
     by_cases h13:c.toNat=13
     ·have HX:=hid (show ckSized s c=(⟨2,s.size,s.digits,s.long,s.trailers⟩,true) from by unfold ckSized;rw [hv];simp only;rw [if_neg h0,if_neg h59,if_pos h13])
      have d13:(((c.toNat:Nat):Int) != 13)=false:=by simp;omega
      clear hv h13 h59 h0 HSZ
      go_enter Tryz.func301,Tryz.ntmps301
      go_upto_region 2 with (go_at_call 317;refine HDG.out.mono ?_;rintro e w1 ⟨rfl,hG1⟩;have hA1:=HA.out _ hG1;obtain ⟨z0,z1,z2,z3,z4,z5⟩:=hA1.cells;obtain ⟨f0,f1,f2,f3,f4,f5⟩:=hA1.free;have HE:=hid (show CkAt (w1.setCell ⟨g,0,none⟩ (.int .i64 2)) g ⟨2,s.size,s.digits,s.long,s.trailers⟩ false from hA1.pos 2);clear z1 z3 z4 z5 f1 f2 f3 f4 f5 hA1)
      go_wp2_with fail
      go_ret
      rw [HX.out]
      exact ⟨rfl,HE.out,by_st (hG1.by _) _ _⟩
     ·have HX:=hid (show ckSized s c=(s,false) from by unfold ckSized;rw [hv];simp only;rw [if_neg h0,if_neg h59,if_neg h13])
      have d13:(((c.toNat:Nat):Int) != 13)=true:=by simp;omega
      clear hv h13 h59 h0 HSZ
      go_enter Tryz.func301,Tryz.ntmps301
      go_upto_region 2 with (go_at_call 317;refine HDG.out.mono ?_;rintro e w1 ⟨rfl,hG1⟩;obtain ⟨z0,z1,z2,z3,z4,z5⟩:=(HA.out _ hG1).cells;clear z0 z1 z3 z4 z5)
      go_wp2_with fail
      go_ret
      rw [HX.out]
      exact ⟨rfl,HA.out _ hG1,hG1.by _⟩
theorem ckTrail_any (s:CkT) (c:UInt8) (w:World) (g:Nat) (h:CkAt w g s false) (hk:CkOk s):Calls Tryz.prog 303 #[.pointer (some ⟨g,0,none⟩),.int .u8 c.toNat] w (StepEnd w g (ckTrail s c)):=by
 have hc:c.toNat≤255:=by have:=c.toNat_lt;omega
 obtain ⟨z0,z1,z2,z3,z4,z5⟩:=h.cells
 obtain ⟨f0,f1,f2,f3,f4,f5⟩:=h.free
 have k4:=hk.trail;have k3:=hk.long
 have HA:=hid h
 clear z1 z2 z5 f1 f2 f3 f5 hk h
 by_cases h13:c.toNat=13
 ·have d13:(((c.toNat:Nat):Int)==13)=true:=by simp;omega
  have HX:=hid (show ckTrail s c=(⟨if s.long=0 then 8 else 7,s.size,s.digits,s.long,s.trailers⟩,true) from by unfold ckTrail;rw [if_pos h13])
  by_cases hl:s.long=0
  ·have dl:(((s.long:Nat):Int)==0)=true:=by simp;omega
   rw [if_pos hl] at HX
   clear hl h13
   go_enter Tryz.func303,Tryz.ntmps303
   go_wp2_with fail
   go_ret
   rw [HX.out]
   exact ⟨rfl,(show CkAt (w.setCell ⟨g,0,none⟩ (.int .i64 7)) g _ false from HA.out.pos 7).pos 8,by_st (by_st ((Gr.refl w).by _) _ _) _ _⟩
  ·have dl:(((s.long:Nat):Int)==0)=false:=by simp;omega
   rw [if_neg hl] at HX
   clear hl h13
   go_enter Tryz.func303,Tryz.ntmps303
   go_wp2_with fail
   go_ret
   rw [HX.out]
   exact ⟨rfl,HA.out.pos 7,by_st ((Gr.refl w).by _) _ _⟩
 ·have d13:(((c.toNat:Nat):Int)==13)=false:=by simp;omega
  by_cases hl:s.long=0
  ·have dl:(((s.long:Nat):Int)==0)=true:=by simp;omega
   have e1:IntKind.i64.wrap (((s.trailers:Nat):Int)+1)=((s.trailers+1:Nat):Int):=by rw [IntWalk.i64_in _ (by omega)];omega
   have HE:=hid (HA.out.trailers (s.trailers+1))
   by_cases h64:s.trailers+1≤64
   ·have d64:decide (((s.trailers+1:Nat):Int)≤64)=true:=decide_eq_true (by omega)
    have HX:=hid (show ckTrail s c=ckPut ⟨s.pos,s.size,s.digits,s.long,s.trailers+1⟩ c from by unfold ckTrail;rw [if_neg h13,if_pos hl,if_pos h64])
    clear hl h13
    go_enter Tryz.func303,Tryz.ntmps303
    go_wp2_with (go_at_call 302;refine (ckPut_any _ c _ g HE.out (by show s.long≤1000;omega)).mono ?_;rintro e w2 ⟨rfl,hC2,hB2⟩)
    go_ret
    rw [HX.out]
    exact ⟨rfl,hC2,by_trans (by_st ((Gr.refl w).by _) _ _) hB2⟩
   ·have d64:decide (((s.trailers+1:Nat):Int)≤64)=false:=decide_eq_false (by omega)
    have HX:=hid (show ckTrail s c=(⟨s.pos,s.size,s.digits,s.long,s.trailers+1⟩,false) from by unfold ckTrail;rw [if_neg h13,if_pos hl,if_neg h64])
    clear hl h13
    go_enter Tryz.func303,Tryz.ntmps303
    go_wp2_with fail
    go_ret
    rw [HX.out]
    exact ⟨rfl,HE.out,by_st ((Gr.refl w).by _) _ _⟩
  ·have dl:(((s.long:Nat):Int)==0)=false:=by simp;omega
   have d64:decide (((s.trailers:Nat):Int)≤64)=true:=decide_eq_true (by omega)
   have HX:=hid (show ckTrail s c=ckPut ⟨s.pos,s.size,s.digits,s.long,s.trailers⟩ c from by unfold ckTrail;rw [if_neg h13,if_neg hl,if_pos k4])
   clear hl h13
   go_enter Tryz.func303,Tryz.ntmps303
   go_wp2_with (go_at_call 302;refine (ckPut_any _ c _ g HA.out (by omega)).mono ?_;rintro e w2 ⟨rfl,hC2,hB2⟩)
   go_ret
   rw [HX.out]
   exact ⟨rfl,hC2,hB2⟩
theorem ckStep0_any (sz dg lg tr:Nat) (c:UInt8) (w:World) (g:Nat) (h:CkAt w g ⟨0,sz,dg,lg,tr⟩ false) (hk:CkOk ⟨0,sz,dg,lg,tr⟩):Calls Tryz.prog 271 #[.pointer (some ⟨g,0,none⟩),.int .u8 c.toNat] w (StepEnd w g (ckStep ⟨0,sz,dg,lg,tr⟩ c)):=by
 have hc:c.toNat≤255:=by have:=c.toNat_lt;omega
 obtain ⟨z0,z1,z2,z3,z4,z5⟩:=h.cells
 obtain ⟨f0,f1,f2,f3,f4,f5⟩:=h.free
 have z0:w.cell? ⟨g,0,none⟩=some (.int .i64 0):=z0
 have z1:w.cell? ⟨g,1,none⟩=some (.int .i64 (sz:Nat)):=z1
 have HA:=hid h
 have HK:=hid hk
 have z3:w.cell? ⟨g,3,none⟩=some (.int .i64 (lg:Nat)):=z3
 clear z2 z4 z5 f1 f2 f4 f5 h hk
 have HX:=hid (show ckStep ⟨0,sz,dg,lg,tr⟩ c=ckSized ⟨0,sz,dg,lg,tr⟩ c from rfl)
 go_enter Tryz.func271,Tryz.ntmps271
 go_wp2_with (go_at_call 301;refine (ckSized_any _ c _ g HA.out HK.out rfl).mono ?_;rintro e w2 ⟨rfl,hC2,hB2⟩)
 go_ret
 rw [HX.out]
 exact ⟨rfl,hC2,hB2⟩
theorem ckStep1_any (sz dg lg tr:Nat) (c:UInt8) (w:World) (g:Nat) (h:CkAt w g ⟨1,sz,dg,lg,tr⟩ false) (hk:CkOk ⟨1,sz,dg,lg,tr⟩):Calls Tryz.prog 271 #[.pointer (some ⟨g,0,none⟩),.int .u8 c.toNat] w (StepEnd w g (ckStep ⟨1,sz,dg,lg,tr⟩ c)):=by
 have hc:c.toNat≤255:=by have:=c.toNat_lt;omega
 obtain ⟨z0,z1,z2,z3,z4,z5⟩:=h.cells
 obtain ⟨f0,f1,f2,f3,f4,f5⟩:=h.free
 have z0:w.cell? ⟨g,0,none⟩=some (.int .i64 1):=z0
 have z1:w.cell? ⟨g,1,none⟩=some (.int .i64 (sz:Nat)):=z1
 have HA:=hid h
 have HK:=hid hk
 have z3:w.cell? ⟨g,3,none⟩=some (.int .i64 (lg:Nat)):=z3
 clear z2 z4 z5 f1 f2 f4 f5 h hk
 by_cases h13:c.toNat=13
 ·have d13:(((c.toNat:Nat):Int)==13)=true:=by simp;omega
  have HX:=hid (show ckStep ⟨1,sz,dg,lg,tr⟩ c=(⟨2,sz,dg,lg,tr⟩,true) from by unfold ckStep;rw [if_neg (by simp),if_pos rfl,if_pos h13])
  go_enter Tryz.func271,Tryz.ntmps271
  go_wp2_with fail
  go_ret
  rw [HX.out]
  exact ⟨rfl,HA.out.pos 2,by_st ((Gr.refl w).by _) _ _⟩
 ·have d13:(((c.toNat:Nat):Int)==13)=false:=by simp;omega
  have HX:=hid (show ckStep ⟨1,sz,dg,lg,tr⟩ c=ckPut ⟨1,sz,dg,lg,tr⟩ c from by unfold ckStep;rw [if_neg (by simp),if_pos rfl,if_neg h13])
  go_enter Tryz.func271,Tryz.ntmps271
  go_wp2_with (go_at_call 302;refine (ckPut_any _ c _ g HA.out (by have:=HK.out.long;show lg≤1000;simp only at this;omega)).mono ?_;rintro e w2 ⟨rfl,hC2,hB2⟩)
  go_ret
  rw [HX.out]
  exact ⟨rfl,hC2,hB2⟩
theorem ckStep4_any (sz dg lg tr:Nat) (c:UInt8) (w:World) (g:Nat) (h:CkAt w g ⟨4,sz,dg,lg,tr⟩ false) (hk:CkOk ⟨4,sz,dg,lg,tr⟩):Calls Tryz.prog 271 #[.pointer (some ⟨g,0,none⟩),.int .u8 c.toNat] w (StepEnd w g (ckStep ⟨4,sz,dg,lg,tr⟩ c)):=by
 have hc:c.toNat≤255:=by have:=c.toNat_lt;omega
 obtain ⟨z0,z1,z2,z3,z4,z5⟩:=h.cells
 obtain ⟨f0,f1,f2,f3,f4,f5⟩:=h.free
 have z0:w.cell? ⟨g,0,none⟩=some (.int .i64 4):=z0
 have z1:w.cell? ⟨g,1,none⟩=some (.int .i64 (sz:Nat)):=z1
 have HA:=hid h
 have HK:=hid hk
 have z3:w.cell? ⟨g,3,none⟩=some (.int .i64 (lg:Nat)):=z3
 clear z2 z4 z5 f1 f2 f4 f5 h hk
 by_cases h13:c.toNat=13
 ·have d13:(((c.toNat:Nat):Int) != 13)=false:=by simp;omega
  have HX:=hid (show ckStep ⟨4,sz,dg,lg,tr⟩ c=(⟨5,sz,dg,lg,tr⟩,true) from by unfold ckStep;rw [if_neg (by simp),if_neg (by simp),if_pos rfl,if_pos h13])
  go_enter Tryz.func271,Tryz.ntmps271
  go_wp2_with fail
  go_ret
  rw [HX.out]
  exact ⟨rfl,HA.out.pos 5,by_st ((Gr.refl w).by _) _ _⟩
 ·have d13:(((c.toNat:Nat):Int) != 13)=true:=by simp;omega
  have HX:=hid (show ckStep ⟨4,sz,dg,lg,tr⟩ c=(⟨4,sz,dg,lg,tr⟩,false) from by unfold ckStep;rw [if_neg (by simp),if_neg (by simp),if_pos rfl,if_neg h13])
  go_enter Tryz.func271,Tryz.ntmps271
  go_wp2_with fail
  go_ret
  rw [HX.out]
  exact ⟨rfl,HA.out,(Gr.refl w).by _⟩
theorem ckStep6_any (sz dg lg tr:Nat) (c:UInt8) (w:World) (g:Nat) (h:CkAt w g ⟨6,sz,dg,lg,tr⟩ false) (hk:CkOk ⟨6,sz,dg,lg,tr⟩):Calls Tryz.prog 271 #[.pointer (some ⟨g,0,none⟩),.int .u8 c.toNat] w (StepEnd w g (ckStep ⟨6,sz,dg,lg,tr⟩ c)):=by
 have hc:c.toNat≤255:=by have:=c.toNat_lt;omega
 obtain ⟨z0,z1,z2,z3,z4,z5⟩:=h.cells
 obtain ⟨f0,f1,f2,f3,f4,f5⟩:=h.free
 have z0:w.cell? ⟨g,0,none⟩=some (.int .i64 6):=z0
 have z1:w.cell? ⟨g,1,none⟩=some (.int .i64 (sz:Nat)):=z1
 have HA:=hid h
 have HK:=hid hk
 have z3:w.cell? ⟨g,3,none⟩=some (.int .i64 (lg:Nat)):=z3
 clear z2 z4 z5 f1 f2 f4 f5 h hk
 have HX:=hid (show ckStep ⟨6,sz,dg,lg,tr⟩ c=ckTrail ⟨6,sz,dg,lg,tr⟩ c from rfl)
 go_enter Tryz.func271,Tryz.ntmps271
 go_wp2_with (go_at_call 303;refine (ckTrail_any _ c _ g HA.out HK.out).mono ?_;rintro e w2 ⟨rfl,hC2,hB2⟩)
 go_ret
 rw [HX.out]
 exact ⟨rfl,hC2,hB2⟩
theorem ckStep2_any (sz dg lg tr:Nat) (c:UInt8) (w:World) (g:Nat) (h:CkAt w g ⟨2,sz,dg,lg,tr⟩ false) (hk:CkOk ⟨2,sz,dg,lg,tr⟩):Calls Tryz.prog 271 #[.pointer (some ⟨g,0,none⟩),.int .u8 c.toNat] w (StepEnd w g (ckStep ⟨2,sz,dg,lg,tr⟩ c)):=by
 have hc:c.toNat≤255:=by have:=c.toNat_lt;omega
 obtain ⟨z0,z1,z2,z3,z4,z5⟩:=h.cells
 obtain ⟨f0,f1,f2,f3,f4,f5⟩:=h.free
 have z0:w.cell? ⟨g,0,none⟩=some (.int .i64 2):=z0
 have z1:w.cell? ⟨g,1,none⟩=some (.int .i64 (sz:Nat)):=z1
 have HA:=hid h
 have HK:=hid hk
 have z3:w.cell? ⟨g,3,none⟩=some (.int .i64 (lg:Nat)):=z3
 clear z2 z4 z5 f1 f2 f4 f5 h hk
 by_cases h10:c.toNat=10
 ·have d10:(((c.toNat:Nat):Int) != 10)=false:=by simp;omega
  by_cases hz:sz=0
  ·have dz:(((sz:Nat):Int)==0)=true:=by simp;omega
   have HX:=hid (show ckStep ⟨2,sz,dg,lg,tr⟩ c=(⟨6,sz,dg,0,tr⟩,true) from by unfold ckStep;rw [if_neg (by simp),if_neg (by simp),if_neg (by simp),if_neg (by simp)];unfold ckLine;rw [if_pos h10,if_pos rfl,if_pos hz])
   clear hz h10
   go_enter Tryz.func271,Tryz.ntmps271
   go_wp2_with fail
   go_ret
   rw [HX.out]
   exact ⟨rfl,((HA.out.pos 3).long 0).pos 6,by_st (by_st (by_st ((Gr.refl w).by _) _ _) _ _) _ _⟩
  ·have dz:(((sz:Nat):Int)==0)=false:=by simp;omega
   have HX:=hid (show ckStep ⟨2,sz,dg,lg,tr⟩ c=(⟨3,sz,dg,0,tr⟩,true) from by unfold ckStep;rw [if_neg (by simp),if_neg (by simp),if_neg (by simp),if_neg (by simp)];unfold ckLine;rw [if_pos h10,if_pos rfl,if_neg hz])
   clear hz h10
   go_enter Tryz.func271,Tryz.ntmps271
   go_wp2_with fail
   go_ret
   rw [HX.out]
   exact ⟨rfl,(HA.out.pos 3).long 0,by_st (by_st ((Gr.refl w).by _) _ _) _ _⟩
 ·have d10:(((c.toNat:Nat):Int) != 10)=true:=by simp;omega
  have HX:=hid (show ckStep ⟨2,sz,dg,lg,tr⟩ c=(⟨2,sz,dg,lg,tr⟩,false) from by unfold ckStep;rw [if_neg (by simp),if_neg (by simp),if_neg (by simp),if_neg (by simp)];unfold ckLine;rw [if_neg h10])
  go_enter Tryz.func271,Tryz.ntmps271
  go_wp2_with fail
  go_ret
  rw [HX.out]
  exact ⟨rfl,HA.out,(Gr.refl w).by _⟩
theorem ckStep5_any (sz dg lg tr:Nat) (c:UInt8) (w:World) (g:Nat) (h:CkAt w g ⟨5,sz,dg,lg,tr⟩ false) (hk:CkOk ⟨5,sz,dg,lg,tr⟩):Calls Tryz.prog 271 #[.pointer (some ⟨g,0,none⟩),.int .u8 c.toNat] w (StepEnd w g (ckStep ⟨5,sz,dg,lg,tr⟩ c)):=by
 have hc:c.toNat≤255:=by have:=c.toNat_lt;omega
 obtain ⟨z0,z1,z2,z3,z4,z5⟩:=h.cells
 obtain ⟨f0,f1,f2,f3,f4,f5⟩:=h.free
 have z0:w.cell? ⟨g,0,none⟩=some (.int .i64 5):=z0
 have z1:w.cell? ⟨g,1,none⟩=some (.int .i64 (sz:Nat)):=z1
 have HA:=hid h
 have HK:=hid hk
 have z3:w.cell? ⟨g,3,none⟩=some (.int .i64 (lg:Nat)):=z3
 clear z2 z4 z5 f1 f2 f4 f5 h hk
 by_cases h10:c.toNat=10
 ·have d10:(((c.toNat:Nat):Int) != 10)=false:=by simp;omega
  have HX:=hid (show ckStep ⟨5,sz,dg,lg,tr⟩ c=(⟨0,0,0,0,tr⟩,true) from by unfold ckStep;rw [if_neg (by simp),if_neg (by simp),if_neg (by simp),if_neg (by simp)];unfold ckLine;rw [if_pos h10,if_neg (by simp),if_pos rfl])
  go_enter Tryz.func271,Tryz.ntmps271
  go_wp2_with (go_at_call 304;refine (ckBegin_any _ _ g HA.out).mono ?_;rintro e w2 ⟨rfl,hC2,hB2⟩)
  go_ret
  rw [HX.out]
  exact ⟨rfl,hC2,hB2⟩
 ·have d10:(((c.toNat:Nat):Int) != 10)=true:=by simp;omega
  have HX:=hid (show ckStep ⟨5,sz,dg,lg,tr⟩ c=(⟨5,sz,dg,lg,tr⟩,false) from by unfold ckStep;rw [if_neg (by simp),if_neg (by simp),if_neg (by simp),if_neg (by simp)];unfold ckLine;rw [if_neg h10])
  go_enter Tryz.func271,Tryz.ntmps271
  go_wp2_with fail
  go_ret
  rw [HX.out]
  exact ⟨rfl,HA.out,(Gr.refl w).by _⟩
theorem ckStep7_any (sz dg lg tr:Nat) (c:UInt8) (w:World) (g:Nat) (h:CkAt w g ⟨7,sz,dg,lg,tr⟩ false) (hk:CkOk ⟨7,sz,dg,lg,tr⟩):Calls Tryz.prog 271 #[.pointer (some ⟨g,0,none⟩),.int .u8 c.toNat] w (StepEnd w g (ckStep ⟨7,sz,dg,lg,tr⟩ c)):=by
 have hc:c.toNat≤255:=by have:=c.toNat_lt;omega
 obtain ⟨z0,z1,z2,z3,z4,z5⟩:=h.cells
 obtain ⟨f0,f1,f2,f3,f4,f5⟩:=h.free
 have z0:w.cell? ⟨g,0,none⟩=some (.int .i64 7):=z0
 have z1:w.cell? ⟨g,1,none⟩=some (.int .i64 (sz:Nat)):=z1
 have HA:=hid h
 have HK:=hid hk
 have z3:w.cell? ⟨g,3,none⟩=some (.int .i64 (lg:Nat)):=z3
 clear z2 z4 z5 f1 f2 f4 f5 h hk
 by_cases h10:c.toNat=10
 ·have d10:(((c.toNat:Nat):Int) != 10)=false:=by simp;omega
  have HX:=hid (show ckStep ⟨7,sz,dg,lg,tr⟩ c=(⟨6,sz,dg,0,tr⟩,true) from by unfold ckStep;rw [if_neg (by simp),if_neg (by simp),if_neg (by simp),if_neg (by simp)];unfold ckLine;rw [if_pos h10,if_neg (by simp),if_neg (by simp),if_pos rfl])
  go_enter Tryz.func271,Tryz.ntmps271
  go_wp2_with fail
  go_ret
  rw [HX.out]
  exact ⟨rfl,(HA.out.pos 6).long 0,by_st (by_st ((Gr.refl w).by _) _ _) _ _⟩
 ·have d10:(((c.toNat:Nat):Int) != 10)=true:=by simp;omega
  have HX:=hid (show ckStep ⟨7,sz,dg,lg,tr⟩ c=(⟨7,sz,dg,lg,tr⟩,false) from by unfold ckStep;rw [if_neg (by simp),if_neg (by simp),if_neg (by simp),if_neg (by simp)];unfold ckLine;rw [if_neg h10])
  go_enter Tryz.func271,Tryz.ntmps271
  go_wp2_with fail
  go_ret
  rw [HX.out]
  exact ⟨rfl,HA.out,(Gr.refl w).by _⟩
theorem ckStep8_any (sz dg lg tr:Nat) (c:UInt8) (w:World) (g:Nat) (h:CkAt w g ⟨8,sz,dg,lg,tr⟩ false) (hk:CkOk ⟨8,sz,dg,lg,tr⟩):Calls Tryz.prog 271 #[.pointer (some ⟨g,0,none⟩),.int .u8 c.toNat] w (StepEnd w g (ckStep ⟨8,sz,dg,lg,tr⟩ c)):=by
 have hc:c.toNat≤255:=by have:=c.toNat_lt;omega
 obtain ⟨z0,z1,z2,z3,z4,z5⟩:=h.cells
 obtain ⟨f0,f1,f2,f3,f4,f5⟩:=h.free
 have z0:w.cell? ⟨g,0,none⟩=some (.int .i64 8):=z0
 have z1:w.cell? ⟨g,1,none⟩=some (.int .i64 (sz:Nat)):=z1
 have HA:=hid h
 have HK:=hid hk
 have z3:w.cell? ⟨g,3,none⟩=some (.int .i64 (lg:Nat)):=z3
 clear z2 z4 z5 f1 f2 f4 f5 h hk
 by_cases h10:c.toNat=10
 ·have d10:(((c.toNat:Nat):Int) != 10)=false:=by simp;omega
  have HX:=hid (show ckStep ⟨8,sz,dg,lg,tr⟩ c=(⟨9,sz,dg,lg,tr⟩,true) from by unfold ckStep;rw [if_neg (by simp),if_neg (by simp),if_neg (by simp),if_neg (by simp)];unfold ckLine;rw [if_pos h10,if_neg (by simp),if_neg (by simp),if_neg (by simp),if_pos rfl])
  go_enter Tryz.func271,Tryz.ntmps271
  go_wp2_with fail
  go_ret
  rw [HX.out]
  exact ⟨rfl,HA.out.pos 9,by_st ((Gr.refl w).by _) _ _⟩
 ·have d10:(((c.toNat:Nat):Int) != 10)=true:=by simp;omega
  have HX:=hid (show ckStep ⟨8,sz,dg,lg,tr⟩ c=(⟨8,sz,dg,lg,tr⟩,false) from by unfold ckStep;rw [if_neg (by simp),if_neg (by simp),if_neg (by simp),if_neg (by simp)];unfold ckLine;rw [if_neg h10])
  go_enter Tryz.func271,Tryz.ntmps271
  go_wp2_with fail
  go_ret
  rw [HX.out]
  exact ⟨rfl,HA.out,(Gr.refl w).by _⟩
theorem ckStep_any (s:CkT) (c:UInt8) (w:World) (g:Nat) (h:CkAt w g s false) (hk:CkOk s) (h3:s.pos≠3) (h9:s.pos≠9):Calls Tryz.prog 271 #[.pointer (some ⟨g,0,none⟩),.int .u8 c.toNat] w (StepEnd w g (ckStep s c)):=by
 have hp:=hk.pos
 obtain ⟨p,sz,dg,lg,tr⟩:=s
 simp only at h3 h9 hp
 have:p=0∨p=1∨p=2∨p=4∨p=5∨p=6∨p=7∨p=8:=by omega
 rcases this with rfl | rfl | rfl | rfl | rfl | rfl | rfl | rfl
 ·exact ckStep0_any sz dg lg tr c w g h hk
 ·exact ckStep1_any sz dg lg tr c w g h hk
 ·exact ckStep2_any sz dg lg tr c w g h hk
 ·exact ckStep4_any sz dg lg tr c w g h hk
 ·exact ckStep5_any sz dg lg tr c w g h hk
 ·exact ckStep6_any sz dg lg tr c w g h hk
 ·exact ckStep7_any sz dg lg tr c w g h hk
 ·exact ckStep8_any sz dg lg tr c w g h hk
end Go.Proofs.YtflepnkpihfidaaGreatDoor
