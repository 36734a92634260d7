/- Parts. No conditions but those that each theorem names. -/
import Derived.Test.YtflepnkpihfidaaGreatDoorJClientL
import Derived.Test.YtflepnkpihfidaaGreatDoorFldsOk
set_option linter.unusedVariables false
set_option linter.unusedSimpArgs false
set_option maxHeartbeats 64000000
set_option maxRecDepth 100000
namespace Go.Proofs.YtflepnkpihfidaaGreatDoor
open Lib (hid)
open Go.RowKit
structure Stp (w:World) (S:List Nat) (w':World) (S':List Nat):Prop where
 kr:Kr S w.heap.size w w'
 sub:∀k∈S',k∈S∨w.heap.size≤k
theorem Kr.weak {S S':List Nat} {N M:Nat} {A B:World} (h:Kr S' M A B) (hN:N≤M) (hs:∀k∈S',k∈S∨N≤k):Kr S N A B:=
 ⟨h.os,h.tape,h.output,Nat.le_trans hN h.le,h.size,fun k hk hn=>h.block k (by omega) (fun hm=>by rcases hs k hm with h | h;exact hn h;omega)⟩
theorem Stp.refl (w:World) (S:List Nat):Stp w S w S:=⟨Kr.refl (Nat.le_refl _),fun _ h=>.inl h⟩
theorem Stp.tr {w w1 w2:World} {S S1 S2:List Nat} (h:Stp w S w1 S1) (k:Stp w1 S1 w2 S2):Stp w S w2 S2:=
 ⟨h.kr.tr (k.kr.weak h.kr.size h.sub),fun j hj=>by
  rcases k.sub j hj with h1 | h1
  ·exact h.sub j h1
  ·exact .inr (Nat.le_trans h.kr.size h1)⟩
theorem Stp.gr {w w1 w2:World} {S S1:List Nat} (h:Stp w S w1 S1) (k:Gr w1 w2):Stp w S w2 S1:=h.tr ⟨(Kr.refl (Nat.le_refl _)).gr k,fun _ h=>.inl h⟩
theorem Stp.of_gr {w w1:World} (S:List Nat) (k:Gr w w1):Stp w S w1 S:=(Stp.refl w S).gr k
theorem Stp.st {w w1:World} {S S1:List Nat} {g:Nat} (h:Stp w S w1 S1) (hg:g∈S1) (i:Nat) (u:Value):Stp w S (w1.setCell ⟨g,i,none⟩ u) S1:=
 h.tr ⟨(Kr.refl (Nat.le_refl _)).set (.inl hg) i u,fun _ h=>.inl h⟩
theorem Stp.old {W0 w w':World} {S S':List Nat} (h:Stp w S w' S') (g:Gr W0 w) (hS:∀k∈S,W0.heap.size≤k):Gr W0 w':=h.kr.old g hS g.size
theorem Stp.keeps {w w':World} {S S':List Nat} (h:Stp w S w' S') {b:Nat} (hb:b < w.heap.size) (hn:b∉S):w'.heap[b]?=w.heap[b]?:=h.kr.block b hb hn
theorem own_blk {W0 w w':World} {e:TypeId} {size n:Nat} {v:Value} {xs:List Value} (h:Own W0 w e size v n xs) (hk:∀b,v.ownBlock=some b→w'.heap[b]?=w.heap[b]?):Own W0 w' e size v n xs:=by
 refine ⟨h.1,?_⟩
 rcases h.2 with hn | ⟨b,cap,cur,hv,hb,hh,r⟩
 ·exact .inl hn
 ·subst hv
  refine .inr ⟨b,cap,cur,rfl,hb,?_,r⟩
  rw [hk b rfl];exact hh
structure OwnB (W0 w:World) (S:List Nat) (v:Value) (l:List UInt8):Prop where
 own:Own W0 w 5 1 v l.length (l.map byt)
 mem:∀b,v.ownBlock=some b→b∈S
theorem OwnB.nil (W0 w:World) (S:List Nat):OwnB W0 w S (.slice none 0 0) []:=⟨Own.nil _ _ _ _,fun b h=>by cases h⟩
theorem OwnB.blk {W0 w w':World} {S:List Nat} {v:Value} {l:List UInt8} (h:OwnB W0 w S v l) (hk:∀b∈S,w'.heap[b]?=w.heap[b]?):OwnB W0 w' S v l:=⟨own_blk h.own fun b hb=>hk b (h.mem b hb),h.mem⟩
def FldsS (w:World) (S:List Nat) (v:Value) (fs:List Fld):Prop:=Flds w v fs∧(fs=[]∨∀b,v.ownBlock=some b→b∈S)
theorem FldsS.blk {w w':World} {S:List Nat} {v:Value} {fs:List Fld} (h:FldsS w S v fs) (hk:∀b∈S,w'.heap[b]?=w.heap[b]?) (hs:w.heap.size≤w'.heap.size):FldsS w' S v fs:=by
 refine ⟨?_,h.2⟩
 obtain ⟨⟨A,c,rfl,hc,hm,ho⟩,h2⟩:=h
 refine ⟨A,c,rfl,hc,hm,?_⟩
 rcases ho with ho | ⟨b,o,hA,hb,hj⟩
 ·exact .inl ho
 ·rcases h2 with h2 | h2
  ·exact .inl (by rw [h2];rfl)
  ·subst hA
   refine .inr ⟨b,o,rfl,Nat.lt_of_lt_of_le hb hs,fun j u hu=>?_⟩
   rw [World.cell?_of_block (hk b (h2 b rfl))];exact hj j u hu
theorem Bk.blk {w w':World} {g:Nat} {t:TypeId} {cs:Array Value} {fr:Nat×Nat} (h:Bk w g t cs fr) (hk:w'.heap[g]?=w.heap[g]?):Bk w' g t cs fr:=by unfold Bk at *;rw [hk];exact h
theorem CkAt.blk {w w':World} {g:Nat} {s:CkT} {b:Bool} (h:CkAt w g s b) (hk:w'.heap[g]?=w.heap[g]?):CkAt w' g s b:=Bk.blk h hk
theorem FrAt.blk {w w':World} {g gc:Nat} {s:FrT} (h:FrAt w g gc s) (hk:w'.heap[g]?=w.heap[g]?) (hk2:w'.heap[gc]?=w.heap[gc]?):FrAt w' g gc s:=⟨h.fr.blk hk,h.ck.blk hk2,h.ne⟩
def hdCs (asked:List UInt8) (rv:Value) (ln:Nat) (en:Bool):Array Value:=#[str asked,rv,.int .i64 (ln:Nat),.bool false,.int .i64 0,.slice none 0 0,.slice none 0 0,.int .i64 0,.int .i64 0,.int .i64 0,.pointer none,.int .i64 0,.int .i64 0,.int .i64 0,str [],.slice none 0 0,.bool false,.bool false,.bool en,.bool false]
def bdCs (asked:List UInt8) (ln:Nat) (h:ClH) (fv fp bv:Value) (wr en wh:Bool):Array Value:=#[str asked,.slice none 0 0,.int .i64 (ln:Nat),.bool true,.int .i64 h.st,fv,.slice none 0 0,.int .i64 (sizeH h),.int .i64 (h.kind:Nat),.int .i64 (h.size:Nat),fp,.int .i64 (h.tells:Nat),.int .i64 h.fro,.int .i64 h.til,str h.bnd,bv,.bool wr,.bool false,.bool en,.bool wh]
def Bad0 (w:World) (g:Nat) (by_ en:Bool):Prop:=∃(rd:Bool) (c0 c1 c2 c4 c5 c6 c7 c8 c9 c10 c11 c12 c13 c14:Value),Bk w g 165 #[c0,c1,c2,.bool rd,c4,c5,c6,c7,c8,c9,c10,c11,c12,c13,c14,.slice none 0 0,.bool true,.bool by_,.bool en,.bool false] (0,0)
structure BodyAt (W0 w:World) (g:Nat) (S:List Nat) (asked:List UInt8) (ln:Nat) (h:ClH) (fv fp bv:Value) (b:List UInt8) (wr en wh:Bool):Prop where
 bk:Bk w g 165 (bdCs asked ln h fv fp bv wr en wh) (0,0)
 fs:FldsS w S fv h.fs
 own:OwnB W0 w S bv b
 fg:fv.ownBlock≠some g
 fb:h.fs=[]∨bv.ownBlock=none∨fv.ownBlock≠bv.ownBlock
theorem BodyAt.blk {W0 w w':World} {g:Nat} {S:List Nat} {asked:List UInt8} {ln:Nat} {h:ClH} {fv fp bv:Value} {b:List UInt8} {wr en wh:Bool} (i:BodyAt W0 w g S asked ln h fv fp bv b wr en wh) (hg:g∈S) (hk:∀b∈S,w'.heap[b]?=w.heap[b]?) (hs:w.heap.size≤w'.heap.size):BodyAt W0 w' g S asked ln h fv fp bv b wr en wh:=
 ⟨i.bk.blk (hk g hg),i.fs.blk hk hs,i.own.blk hk,i.fg,i.fb⟩
def ClAt (W0 w:World) (g:Nat) (S:List Nat) (asked:List UInt8) (en wh:Bool):ClS→Prop
 | .head raw=>wh=false∧∃rv,OwnB W0 w S rv raw∧Bk w g 165 (hdCs asked rv (linesL raw) en) (0,0)
 | .bad0=>wh=false∧Bad0 w g true en
 | .body h fr b=>∃(ln:Nat) (fv bv:Value) (gf gc:Nat),BodyAt W0 w g S asked ln h fv (.pointer (some ⟨gf,0,none⟩)) bv b false en wh∧(en=false→FrAt w gf gc fr∧gf∈S∧gc∈S∧(h.fs=[]∨(fv.ownBlock≠some gf∧fv.ownBlock≠some gc)))
 | .bad1 h b=>wh=false∧∃(ln:Nat) (fv fp bv:Value),BodyAt W0 w g S asked ln h fv fp bv b true en wh
structure ClR (W0 w:World) (g:Nat) (S:List Nat) (asked:List UInt8) (en wh:Bool) (s:ClS):Prop where
 at_:ClAt W0 w g S asked en wh s
 g:g∈S
 lo:∀k∈S,W0.heap.size≤k
 hi:∀k∈S,k < w.heap.size
 inv:ClInv s
theorem ClR.blk {W0 w w':World} {g:Nat} {S:List Nat} {asked:List UInt8} {en wh:Bool} {s:ClS} (h:ClR W0 w g S asked en wh s) (hk:∀b∈S,w'.heap[b]?=w.heap[b]?) (hs:w.heap.size≤w'.heap.size):ClR W0 w' g S asked en wh s:=by
 refine ⟨?_,h.g,h.lo,fun k hk=>Nat.lt_of_lt_of_le (h.hi k hk) hs,h.inv⟩
 have ha:=h.at_
 cases s with
 | head raw=>
   obtain ⟨h1,rv,h2,h3⟩:=ha
   exact ⟨h1,rv,h2.blk hk,h3.blk (hk _ h.g)⟩
 | bad0=>
   obtain ⟨h1,rd,c0,c1,c2,c4,c5,c6,c7,c8,c9,c10,c11,c12,c13,c14,h2⟩:=ha
   exact ⟨h1,rd,c0,c1,c2,c4,c5,c6,c7,c8,c9,c10,c11,c12,c13,c14,h2.blk (hk _ h.g)⟩
 | body hh fr b=>
   obtain ⟨ln,fv,bv,gf,gc,h1,h2⟩:=ha
   exact ⟨ln,fv,bv,gf,gc,h1.blk h.g hk hs,fun he=>⟨(h2 he).1.blk (hk _ (h2 he).2.1) (hk _ (h2 he).2.2.1),(h2 he).2⟩⟩
 | bad1 hh b=>
   obtain ⟨h1,ln,fv,fp,bv,h2⟩:=ha
   exact ⟨h1,ln,fv,fp,bv,h2.blk h.g hk hs⟩
theorem ClR.gr {W0 w w':World} {g:Nat} {S:List Nat} {asked:List UInt8} {en wh:Bool} {s:ClS} (h:ClR W0 w g S asked en wh s) (k:Gr w w'):ClR W0 w' g S asked en wh s:=h.blk (fun b hb=>k.block b (h.hi b hb)) k.size
def BytsF (N:Nat) (S:List Nat) (w:World) (v:Value) (l:List UInt8):Prop:=Byts w v l∧(l=[]∨∀b,v.ownBlock=some b→b < N∧b∉S)
theorem BytsF.nil (N:Nat) (S:List Nat) (w:World):BytsF N S w (.slice none 0 0) []:=⟨Byts.nil w,.inl rfl⟩
theorem BytsF.stp {N:Nat} {S S':List Nat} {w w':World} {v:Value} {l:List UInt8} (h:BytsF N S w v l) (k:Stp w S w' S') (hN:N≤w.heap.size):BytsF N S' w' v l:=by
 obtain ⟨⟨A,c,rfl,hc,hm,ho⟩,h2⟩:=h
 refine ⟨⟨A,c,rfl,hc,hm,?_⟩,?_⟩
 ·rcases ho with ho | ⟨b,o,hA,hb,hj⟩
  ·exact .inl ho
  ·rcases h2 with h2 | h2
   ·exact .inl (by rw [h2];rfl)
   ·subst hA
    refine .inr ⟨b,o,rfl,Nat.lt_of_lt_of_le hb k.kr.size,fun j u hu=>?_⟩
    rw [World.cell?_of_block (k.keeps hb (h2 b rfl).2)];exact hj j u hu
 ·refine h2.imp id fun h2 b hb=>⟨(h2 b hb).1,fun hm=>?_⟩
  rcases k.sub b hm with h3 | h3
  ·exact (h2 b hb).2 h3
  ·have:=(h2 b hb).1;omega
def lenV:Value→Nat
 | .slice _ n _=>n
 | _=>0
theorem kBounds_any (l:List UInt8) (w:World) (_hl:l.length≤9223372036854775800):Calls Tryz.prog 270 #[str l] w fun e w'=>e=.returned (.bool (boundB l))∧Gr w w':=by
 go_enter Tryz.func270,Tryz.ntmps270
 go_wp2_with fail
 go_loopw [2,3,4,7] (fun x0 x1 x2 i wr=>∃k:Nat,k≤l.length∧i=.int .i64 k∧Gr w wr∧(l.take k).all letterC=true) (fun _ _ _ i _=>l.length-(intOf i).toNat)
 case atStart=>exact ⟨0,Nat.zero_le _,rfl,Gr.refl _,rfl⟩
 case round=>
  obtain ⟨k,hk,rfl,hG,hE⟩:=hrel
  have HE:=hid hE;clear hE
  by_cases hlt:k < l.length
  ·have hx:=l[k].toNat_lt
   rcases (show (48≤l[k].toNat∧l[k].toNat≤57)∨(65≤l[k].toNat∧l[k].toNat≤90)∨(97≤l[k].toNat∧l[k].toNat≤122)∨(0≤l[k].toNat∧l[k].toNat≤47)∨(58≤l[k].toNat∧l[k].toNat≤64)∨(91≤l[k].toNat∧l[k].toNat≤96)∨(123≤l[k].toNat∧l[k].toNat≤255) by omega) with ⟨h1,h2⟩ | ⟨h1,h2⟩ | ⟨h1,h2⟩ | ⟨h1,h2⟩ | ⟨h1,h2⟩ | ⟨h1,h2⟩ | ⟨h1,h2⟩
   ·have ddlt48:decide (((l[k].toNat:Nat):Int) < 48)=false:=decide_eq_false (by omega)
    have ddgt57:decide (57 < ((l[k].toNat:Nat):Int))=false:=decide_eq_false (by omega)
    have ddlt97:decide (((l[k].toNat:Nat):Int) < 97)=true:=decide_eq_true (by omega)
    have ddgt122:decide (122 < ((l[k].toNat:Nat):Int))=false:=decide_eq_false (by omega)
    have ddlt65:decide (((l[k].toNat:Nat):Int) < 65)=true:=decide_eq_true (by omega)
    have ddgt90:decide (90 < ((l[k].toNat:Nat):Int))=false:=decide_eq_false (by omega)
    have hc:=hid (tokC_letter l[k] (by omega))
    clear hx
    go_wp2_with fail
    exact ⟨⟨k+1,by omega,by go_num,hG,all_take_succ _ l k hlt HE.out hc.out⟩,by simp [intOf];omega⟩
   ·have ddlt48:decide (((l[k].toNat:Nat):Int) < 48)=false:=decide_eq_false (by omega)
    have ddgt57:decide (57 < ((l[k].toNat:Nat):Int))=true:=decide_eq_true (by omega)
    have ddlt97:decide (((l[k].toNat:Nat):Int) < 97)=true:=decide_eq_true (by omega)
    have ddgt122:decide (122 < ((l[k].toNat:Nat):Int))=false:=decide_eq_false (by omega)
    have ddlt65:decide (((l[k].toNat:Nat):Int) < 65)=false:=decide_eq_false (by omega)
    have ddgt90:decide (90 < ((l[k].toNat:Nat):Int))=false:=decide_eq_false (by omega)
    have hc:=hid (tokC_letter l[k] (by omega))
    clear hx
    go_wp2_with fail
    exact ⟨⟨k+1,by omega,by go_num,hG,all_take_succ _ l k hlt HE.out hc.out⟩,by simp [intOf];omega⟩
   ·have ddlt48:decide (((l[k].toNat:Nat):Int) < 48)=false:=decide_eq_false (by omega)
    have ddgt57:decide (57 < ((l[k].toNat:Nat):Int))=true:=decide_eq_true (by omega)
    have ddlt97:decide (((l[k].toNat:Nat):Int) < 97)=false:=decide_eq_false (by omega)
    have ddgt122:decide (122 < ((l[k].toNat:Nat):Int))=false:=decide_eq_false (by omega)
    have ddlt65:decide (((l[k].toNat:Nat):Int) < 65)=false:=decide_eq_false (by omega)
    have ddgt90:decide (90 < ((l[k].toNat:Nat):Int))=true:=decide_eq_true (by omega)
    have hc:=hid (tokC_letter l[k] (by omega))
    clear hx
    go_wp2_with fail
    exact ⟨⟨k+1,by omega,by go_num,hG,all_take_succ _ l k hlt HE.out hc.out⟩,by simp [intOf];omega⟩
   ·have ddlt48:decide (((l[k].toNat:Nat):Int) < 48)=true:=decide_eq_true (by omega)
    have ddgt57:decide (57 < ((l[k].toNat:Nat):Int))=false:=decide_eq_false (by omega)
    have ddlt97:decide (((l[k].toNat:Nat):Int) < 97)=true:=decide_eq_true (by omega)
    have ddgt122:decide (122 < ((l[k].toNat:Nat):Int))=false:=decide_eq_false (by omega)
    have ddlt65:decide (((l[k].toNat:Nat):Int) < 65)=true:=decide_eq_true (by omega)
    have ddgt90:decide (90 < ((l[k].toNat:Nat):Int))=false:=decide_eq_false (by omega)
    have hc:=hid (letterC_no l[k] (by omega))
    clear hx
    go_wp2_with fail
    go_ret
    exact ⟨ret_bool (bound_no1 (all_no _ l k hlt hc.out)).symm,hG⟩
   ·have ddlt48:decide (((l[k].toNat:Nat):Int) < 48)=false:=decide_eq_false (by omega)
    have ddgt57:decide (57 < ((l[k].toNat:Nat):Int))=true:=decide_eq_true (by omega)
    have ddlt97:decide (((l[k].toNat:Nat):Int) < 97)=true:=decide_eq_true (by omega)
    have ddgt122:decide (122 < ((l[k].toNat:Nat):Int))=false:=decide_eq_false (by omega)
    have ddlt65:decide (((l[k].toNat:Nat):Int) < 65)=true:=decide_eq_true (by omega)
    have ddgt90:decide (90 < ((l[k].toNat:Nat):Int))=false:=decide_eq_false (by omega)
    have hc:=hid (letterC_no l[k] (by omega))
    clear hx
    go_wp2_with fail
    go_ret
    exact ⟨ret_bool (bound_no1 (all_no _ l k hlt hc.out)).symm,hG⟩
   ·have ddlt48:decide (((l[k].toNat:Nat):Int) < 48)=false:=decide_eq_false (by omega)
    have ddgt57:decide (57 < ((l[k].toNat:Nat):Int))=true:=decide_eq_true (by omega)
    have ddlt97:decide (((l[k].toNat:Nat):Int) < 97)=true:=decide_eq_true (by omega)
    have ddgt122:decide (122 < ((l[k].toNat:Nat):Int))=false:=decide_eq_false (by omega)
    have ddlt65:decide (((l[k].toNat:Nat):Int) < 65)=false:=decide_eq_false (by omega)
    have ddgt90:decide (90 < ((l[k].toNat:Nat):Int))=true:=decide_eq_true (by omega)
    have hc:=hid (letterC_no l[k] (by omega))
    clear hx
    go_wp2_with fail
    go_ret
    exact ⟨ret_bool (bound_no1 (all_no _ l k hlt hc.out)).symm,hG⟩
   ·have ddlt48:decide (((l[k].toNat:Nat):Int) < 48)=false:=decide_eq_false (by omega)
    have ddgt57:decide (57 < ((l[k].toNat:Nat):Int))=true:=decide_eq_true (by omega)
    have ddlt97:decide (((l[k].toNat:Nat):Int) < 97)=false:=decide_eq_false (by omega)
    have ddgt122:decide (122 < ((l[k].toNat:Nat):Int))=true:=decide_eq_true (by omega)
    have ddlt65:decide (((l[k].toNat:Nat):Int) < 65)=false:=decide_eq_false (by omega)
    have ddgt90:decide (90 < ((l[k].toNat:Nat):Int))=true:=decide_eq_true (by omega)
    have hc:=hid (letterC_no l[k] (by omega))
    clear hx
    go_wp2_with fail
    go_ret
    exact ⟨ret_bool (bound_no1 (all_no _ l k hlt hc.out)).symm,hG⟩
  ·have hA:=hid (all_end _ l k hlt HE.out)
   by_cases hs:l.length < 1
   ·have d1:decide (1≤(l.length:Int))=false:=decide_eq_false (by omega)
    go_wp2_with fail
    go_ret
    exact ⟨ret_bool (bound_len (by omega)).symm,hG⟩
   ·have d1:decide (1≤(l.length:Int))=true:=decide_eq_true (by omega)
    by_cases hs2:70 < l.length
    ·have d2:decide ((l.length:Int)≤70)=false:=decide_eq_false (by omega)
     go_wp2_with fail
     go_ret
     exact ⟨ret_bool (bound_len (by omega)).symm,hG⟩
    ·have d2:decide ((l.length:Int)≤70)=true:=decide_eq_true (by omega)
     go_wp2_with fail
     go_ret
     exact ⟨ret_bool (bound_yes hA.out (by omega) (by omega)).symm,hG⟩
theorem bytesIn_of {w:World} {A:Option Addr} {n c:Nat} {l:List UInt8} (h:Byts w (.slice A n c) l):Lib.BytesIn w A l.length (l.map fun c=>(c.toNat:Int)):=fun hn=>by
 obtain ⟨b,o,hA,_,_⟩:=h.cellAt 0 hn
 subst hA
 refine ⟨b,o,rfl,fun i hi=>?_⟩
 obtain ⟨b',o',hA',_,hcell⟩:=h.cellAt i hi
 simp only [Option.some.injEq,Addr.mk.injEq,and_true] at hA'
 obtain ⟨rfl,rfl⟩:=hA'
 rw [hcell,nums_at _ _ hi]
theorem hasSuf2_any (u v:Value) (l:List UInt8) (x y:UInt8) (w:World) (hu:Byts w u l) (hv:Byts w v [x,y]) (hl:l.length≤1000000):Calls Tryz.prog 162 #[u,v] w fun e w'=>e=.returned (.bool (l.drop (l.length-2)==[x,y]))∧Gr w w':=by
 obtain ⟨A,c,rfl,-,-,-⟩:=id hu.open
 obtain ⟨A2,c2,rfl,-,-,-⟩:=id hv.open
 have h:=Tryz.bytes_HasSuffix_all A A2 l.length c 2 c2 (l.map fun c=>(c.toNat:Int)) ([x,y].map fun c=>(c.toNat:Int)) w (by simp) (by simp) hu.len.2 (by omega) (bytesIn_of hu) (bytesIn_of hv)
 rw [bytesOf_nums,bytesOf_nums] at h
 refine h.mono fun e w' ⟨he,hw⟩=>⟨?_,by rw [hw];exact Gr.refl w⟩
 rw [he]
 congr 2
 unfold Lib.hasSuffix
 rw [Bool.eq_iff_iff,List.isSuffixOf_iff_suffix,beq_iff_eq,List.suffix_iff_eq_drop]
 exact ⟨fun h=>h.symm,fun h=>h.symm⟩
theorem getN_le {fs:List Fld} {n:List UInt8} {k:Nat} (h:∀f∈fs,f.2.length≤k):(getN fs n).1.length≤k:=by
 unfold getN
 cases ho:ofN fs n with
 | nil=>exact Nat.zero_le _
 | cons v r=>
   have:v∈ofN fs n:=by rw [ho];exact List.mem_cons_self ..
   unfold ofN at this
   rw [List.mem_map] at this
   obtain ⟨f,hf,rfl⟩:=this
   exact h f (List.mem_filter.1 hf).1
def RangedEnd (w':World) (g:Nat) (asked:List UInt8) (ln:Nat) (fv fp:Value):ClS→Prop
 | .bad0=>Bad0 w' g false false
 | .body h _ _=>Bk w' g 165 (bdCs asked ln h fv fp (.slice none 0 0) false false false) (0,0)
 | _=>False
theorem RangedEnd.gr {w w':World} {g:Nat} {asked:List UInt8} {ln:Nat} {fv fp:Value} {s:ClS} (h:RangedEnd w g asked ln fv fp s) (k:Gr w w'):RangedEnd w' g asked ln fv fp s:=by
 cases s with
 | bad0=>
   obtain ⟨rd,c0,c1,c2,c4,c5,c6,c7,c8,c9,c10,c11,c12,c13,c14,hb⟩:=h
   exact ⟨rd,c0,c1,c2,c4,c5,c6,c7,c8,c9,c10,c11,c12,c13,c14,hb.gr k⟩
 | body hh fr b=>exact Bk.gr h k
 | head _=>exact h
 | bad1 _ _=>exact h
theorem cstrip_no {p s:List UInt8} (h:p.isPrefixOf s=false):stripL p s=none:=by unfold stripL;rw [h];rfl
theorem cstrip_yes {p s:List UInt8} (h:p.isPrefixOf s=true):stripL p s=some (Lib.trimPrefix s p):=by unfold stripL;rw [if_pos h,trimP_drop h]
theorem bad0_bd {w:World} {g:Nat} {asked:List UInt8} {ln:Nat} {h:ClH} {fv fp:Value} (i:Bk w g 165 (bdCs asked ln h fv fp (.slice none 0 0) false false false) (0,0)):Bad0 (w.setCell ⟨g,16,none⟩ (.bool true)) g false false:=by
 have:=i.set 16 (.bool true)
 exact ⟨true,_,_,_,_,_,_,_,_,_,_,_,_,_,_,this⟩
theorem bd_three {w:World} {g:Nat} {asked:List UInt8} {ln:Nat} {fs:List Fld} {k z:Nat} {fv fp:Value} (b:List UInt8) (i:Bk w g 165 (bdCs asked ln ⟨206,fs,k,z,0,0,0,[]⟩ fv fp (.slice none 0 0) false false false) (0,0)) :
  Bk ((w.setCell ⟨g,11,none⟩ (.int .i64 3)).setCell ⟨g,14,none⟩ (str b)) g 165 (bdCs asked ln ⟨206,fs,k,z,3,0,0,b⟩ fv fp (.slice none 0 0) false false false) (0,0):=
 (i.set 11 (.int .i64 3)).set 14 (str b)
theorem ranged_any (asked:List UInt8) (ln:Nat) (fs:List Fld) (k z:Nat) (fv fp:Value) (w:World) (g:Nat) (hv:Vars w) (hb:Bk w g 165 (bdCs asked ln ⟨206,fs,k,z,0,0,0,[]⟩ fv fp (.slice none 0 0) false false false) (0,0)) (hf:Flds w fv fs) (hfo:FldsOk fs) (hz:z≤1099511627776) :
  Calls Tryz.prog 227 #[.pointer (some ⟨g,0,none⟩),fv] w fun e w'=>e=.returned (.tuple #[])∧w.grownBy w' (some g)∧RangedEnd w' g asked ln fv fp (rangedR fs k z):=by
 have hl1:(getN fs crN).1.length≤1000000:=getN_le hfo.val
 have hl2:(getN fs ctN).1.length≤1000000:=getN_le hfo.val
 have HG1:=hid (get_any fv fs crN w hf hfo.short (by decide))
 have HG2:=hid (fun (x:World) (h:Gr w x)=>get_any fv fs ctN x (hf.gr h) hfo.short (by decide))
 have HRG:=hid (fun (x:World) (h:Gr w x)=>range_any (getN fs crN).1 x (hv.gr h) (by omega))
 rw [progR_eq] at HRG
 have HRS:=hid (fun (x:Int×Int×Int) (h:rangeR (getN fs crN).1=some x)=>rangeR_span h)
 have HCP:=hid (fun (x:World)=>cutPre_any (getN fs ctN).1 sevN x)
 have HBN:=hid (fun (x:World)=>kBounds_any (Lib.trimPrefix (getN fs ctN).1 sevN) x (by have:=trimP_len (getN fs ctN).1 sevN;omega))
 have HX:=hid (show rangedR fs k z=match rangeR (getN fs crN).1 with
  | some x=>if k=1∧(z:Int)≠x.2.1-x.1 then .bad0 else .body ⟨206,fs,k,z,2,x.1,x.2.1,[]⟩ (FrT.new k z) []
  | none=>match stripL sevN (getN fs ctN).1 with
    | some b=>if boundB b then .body ⟨206,fs,k,z,3,0,0,b⟩ (FrT.new k z) [] else .bad0
    | none=>.bad0 from rfl)
 have HSN:=hid (fun (h:sevN.isPrefixOf (getN fs ctN).1=false)=>cstrip_no h)
 have HSY:=hid (fun (h:sevN.isPrefixOf (getN fs ctN).1=true)=>cstrip_yes h)
 have HB:=hid hb
 have r8:∀x,Gr w x→x.cell? ⟨g,8,none⟩=some (.int .i64 (k:Nat)):=fun x h=>(hb.gr h).cell 8
 have r9:∀x,Gr w x→x.cell? ⟨g,9,none⟩=some (.int .i64 (z:Nat)):=fun x h=>(hb.gr h).cell 9
 have r11:∀x,Gr w x→x.cell? ⟨g,11,none⟩=some (.int .i64 0):=fun x h=>(hb.gr h).cell 11
 have r14:∀x,Gr w x→x.cell? ⟨g,14,none⟩=some (str []):=fun x h=>(hb.gr h).cell 14
 have r16:∀x,Gr w x→x.cell? ⟨g,16,none⟩=some (.bool false):=fun x h=>(hb.gr h).cell 16
 have q11:∀x,Gr w x→x.frozen? ⟨g,11,none⟩=false:=fun x h=>(hb.gr h).free 11 (.inr (Nat.zero_le _))
 have q14:∀x,Gr w x→x.frozen? ⟨g,14,none⟩=false:=fun x h=>(hb.gr h).free 14 (.inr (Nat.zero_le _))
 have q16:∀x,Gr w x→x.frozen? ⟨g,16,none⟩=false:=fun x h=>(hb.gr h).free 16 (.inr (Nat.zero_le _))
 have hgl:=hb.lt
 clear hb hf hv
 generalize (getN fs ctN).1=V at *
 generalize stripL sevN V=SV at *
 generalize hpb:sevN.isPrefixOf V=pb at *
 generalize Lib.trimPrefix V sevN=TB at *
 generalize hbb:boundB TB=bb at *
 have HBB:=hid hbb
 clear hpb hbb
 cases hr:rangeR (getN fs crN).1 with
 | none=>
   rw [hr] at HX HRG
   clear HRS
   simp only [rangeV] at HRG
   generalize (getN fs crN).1=C at *
   clear hr
   go_enter Tryz.func227,Tryz.ntmps227
   go_upto_region 2 with (first
    | (go_at_call 66;refine HG1.out.mono ?_;rintro e w1 ⟨rfl,hg1⟩)
    | (go_at_call 112;refine (HRG.out _ (by assumption)).mono ?_;rintro e w2 ⟨rfl,hg2⟩))
   have hg3:Gr w (w2.alloc (Obj.cells #[.int .i64 0,.int .i64 0] 48)):=Gr.al (Gr.tr hg1 hg2) _
   refine at_world (P:=Code.wp _ _ _ _) (w0:=w2.alloc (Obj.cells #[.int .i64 0,.int .i64 0] 48)) ?_
   intro w3 hw3
   rw [←hw3] at hg3
   clear hw3 hg1 hg2 HG1 HRG
   cases pb with
   | false=>
     go_wp2_with (first
      | (go_at_call 66;refine (HG2.out _ hg3).mono ?_;rintro e w4 ⟨rfl,hg4⟩;have hgg4:Gr w w4:=Gr.tr hg3 hg4)
      | (go_at_call 110;refine (HCP.out _).mono ?_;rintro e w5 ⟨rfl,hg5⟩;have hgg5:Gr w w5:=Gr.tr hgg4 hg5))
     refine bodyPost_ret (results_none rfl _ _ _) rfl ?_
     refine ⟨rfl,by_st (hgg5.by _) _ _,?_⟩
     rw [HX.out,HSN.out trivial]
     exact bad0_bd (HB.out.gr hgg5)
   | true=>
     cases bb with
     | false=>
       go_wp2_with (first
        | (go_at_call 66;refine (HG2.out _ hg3).mono ?_;rintro e w4 ⟨rfl,hg4⟩;have hgg4:Gr w w4:=Gr.tr hg3 hg4)
        | (go_at_call 110;refine (HCP.out _).mono ?_;rintro e w5 ⟨rfl,hg5⟩;have hgg5:Gr w w5:=Gr.tr hgg4 hg5)
        | (go_at_call 270;refine (HBN.out _).mono ?_;rintro e w6 ⟨rfl,hg6⟩;have hgg6:Gr w w6:=Gr.tr hgg5 hg6))
       refine bodyPost_ret (results_none rfl _ _ _) rfl ?_
       refine ⟨rfl,by_st (hgg6.by _) _ _,?_⟩
       rw [HX.out,HSY.out trivial]
       simp only [HBB.out,Bool.false_eq_true,if_false]
       exact bad0_bd (HB.out.gr hgg6)
     | true=>
       go_wp2_with (first
        | (go_at_call 66;refine (HG2.out _ hg3).mono ?_;rintro e w4 ⟨rfl,hg4⟩;have hgg4:Gr w w4:=Gr.tr hg3 hg4)
        | (go_at_call 110;refine (HCP.out _).mono ?_;rintro e w5 ⟨rfl,hg5⟩;have hgg5:Gr w w5:=Gr.tr hgg4 hg5)
        | (go_at_call 270;refine (HBN.out _).mono ?_;rintro e w6 ⟨rfl,hg6⟩;have hgg6:Gr w w6:=Gr.tr hgg5 hg6))
       go_end0
       refine ⟨rfl,by_st (by_st (hgg6.by _) _ _) _ _,?_⟩
       rw [HX.out,HSY.out trivial]
       simp only [HBB.out,if_true]
       exact bd_three TB (HB.out.gr hgg6)
 | some x=>
   have hxs:=HRS.out x hr
   rw [hr] at HX HRG
   clear HRS HG2 HCP HBN HSN HSY HBB
   simp only [rangeV] at HRG
   obtain ⟨f,t,n⟩:=x
   simp only at hxs HX HRG
   generalize (getN fs crN).1=C at *
   clear hr
   go_enter Tryz.func227,Tryz.ntmps227
   go_upto_region 2 with (first
    | (go_at_call 66;refine HG1.out.mono ?_;rintro e w1 ⟨rfl,hg1⟩)
    | (go_at_call 112;refine (HRG.out _ (by assumption)).mono ?_;rintro e w2 ⟨rfl,hg2⟩))
   have hg3:Gr w (w2.alloc (Obj.cells #[.int .i64 f,.int .i64 t] 48)):=Gr.al (Gr.tr hg1 hg2) _
   refine at_world (P:=Code.wp _ _ _ _) (w0:=w2.alloc (Obj.cells #[.int .i64 f,.int .i64 t] 48)) ?_
   intro w3 hw3
   have hbs:Bk w3 w2.heap.size 48 #[.int .i64 f,.int .i64 t] (0,0):=by rw [hw3];exact Bk.new w2 _ _ _
   have hne:some w2.heap.size≠some g:=by have:=(Gr.tr hg1 hg2).size;simp;omega
   rw [←hw3] at hg3
   clear hw3 hg1 hg2 HG1 HRG
   generalize w2.heap.size=bs at *
   go_upto_region 3 with fail
   have p0:=gx_cell (r:=some g) (hbs.cell 0) hne
   have p1:=gx_cell (r:=some g) (hbs.cell 1) hne
   refine wp_region_mix [0,1,2,3,4] (some g) 4 (by kernel_rfl) rfl (by kernel_rfl) (fun o _ _ _ _ h=>by cases o <;> exact h) ?_
   simp only [pickOps,List.filterMap_cons,List.filterMap_nil,List.getElem?_cons_zero,List.getElem?_cons_succ]
   repeat (first | (refine wpGq_step (fun K hK=>?_);go_simp;refine hK _ ?_;clear hK K) | (refine wpGq_step (fun K hK=>?_);go_simp;simp only [↓IntWalk.iteOmega];go_simp;refine hK _ ?_;clear hK K) | (refine wpGq_step (fun K hK=>?_);go_simp;apply Exists.intro;refine ⟨fun _=>?_,hK _ ?_⟩;fail;clear hK K))
   refine wpGq_nil ?_
   clear p0 p1
   refine wpG_one 5 (by kernel_rfl) rfl rfl (fun K hK wa hga=>?_)
   have hgga:Gr w wa:=Gr.tr hg3 hga
   go_simp
   have HB4:=hid (show Bk (wa.setCell ⟨g,11,none⟩ (.int .i64 2)) g 165 (bdCs asked ln ⟨206,fs,k,z,2,0,0,[]⟩ fv fp (.slice none 0 0) false false false) (0,0) from (HB.out.gr hgga).set 11 (.int .i64 2))
   have hb4:w3.grownBy (wa.setCell ⟨g,11,none⟩ (.int .i64 2)) (some g):=by_st (hga.by _) _ _
   refine hK _ _ hb4 ?_
   clear hK K
   generalize wa.setCell ⟨g,11,none⟩ (.int .i64 2)=w4 at *
   refine wpG_quiet [6,7] 1 (hb4) rfl (by kernel_rfl) (fun o _ _ _ _ h=>by cases o <;> exact h) ?_
   simp only [pickOps,List.filterMap_cons,List.filterMap_nil,List.getElem?_cons_zero,List.getElem?_cons_succ]
   repeat (first | (refine wpGq_step (fun K hK=>?_);go_simp;refine hK _ ?_;clear hK K) | (refine wpGq_step (fun K hK=>?_);go_simp;simp only [↓IntWalk.iteOmega];go_simp;refine hK _ ?_;clear hK K) | (refine wpGq_step (fun K hK=>?_);go_simp;apply Exists.intro;refine ⟨fun _=>?_,hK _ ?_⟩;fail;clear hK K))
   refine wpGq_nil ?_
   refine wpG_one 8 (by kernel_rfl) rfl rfl (fun K hK wb hgb=>?_)
   have z12:wb.cell? ⟨g,12,none⟩=some (.int .i64 0):=(HB4.out.gr hgb).cell 12
   have z13:wb.cell? ⟨g,13,none⟩=some (.int .i64 0):=(HB4.out.gr hgb).cell 13
   have q12:wb.frozen? ⟨g,12,none⟩=false:=(HB4.out.gr hgb).free 12 (.inr (Nat.zero_le _))
   have q13:wb.frozen? ⟨g,13,none⟩=false:=(HB4.out.gr hgb).free 13 (.inr (Nat.zero_le _))
   go_simp
   have HB5:=hid (show Bk ((wb.setCell ⟨g,12,none⟩ (.int .i64 f)).setCell ⟨g,13,none⟩ (.int .i64 t)) g 165 (bdCs asked ln ⟨206,fs,k,z,2,f,t,[]⟩ fv fp (.slice none 0 0) false false false) (0,0) from ((HB4.out.gr hgb).set 12 (.int .i64 f)).set 13 (.int .i64 t))
   have hb5:w4.grownBy ((wb.setCell ⟨g,12,none⟩ (.int .i64 f)).setCell ⟨g,13,none⟩ (.int .i64 t)) (some g):=by_st (by_st (hgb.by _) _ _) _ _
   refine hK _ _ hb5 ?_
   clear hK K z12 z13 q12 q13
   generalize (wb.setCell ⟨g,12,none⟩ (.int .i64 f)).setCell ⟨g,13,none⟩ (.int .i64 t)=w5 at *
   refine wpG_done (by kernel_rfl) (fun w6 hg6=>?_)
   have hb6:w.grownBy w6 (some g):=by_trans (hg3.by _) (by_tr (by_trans hb4 hb5) hg6)
   have hbs6:=bk_byo hbs (by_tr (by_trans hb4 hb5) hg6) hne
   have HB6:=hid (HB5.out.gr hg6)
   clear HB4 HB5 hb4 hb5 hg6 hgga hga hgb r8 r9 r11 r14 r16 q11 q14 q16
   have z8:w6.cell? ⟨g,8,none⟩=some (.int .i64 (k:Nat)):=HB6.out.cell 8
   have z9:w6.cell? ⟨g,9,none⟩=some (.int .i64 (z:Nat)):=HB6.out.cell 9
   have c0:w6.cell? ⟨bs,0,none⟩=some (.int .i64 f):=hbs6.cell 0
   have c1:w6.cell? ⟨bs,1,none⟩=some (.int .i64 t):=hbs6.cell 1
   have es:IntKind.i64.wrap (t-f)=t-f:=IntWalk.i64_in _ (by omega)
   have HFIN:=hid (fun (q:Bool) (wz:World) (hz:Bk wz g 165 (bdCs asked ln ⟨206,fs,k,z,2,f,t,[]⟩ fv fp (.slice none 0 0) q false false) (0,0)) (hq:q=decide (k=1∧(z:Int)≠t-f))=>show RangedEnd wz g asked ln fv fp (rangedR fs k z) from by
    rw [HX.out]
    by_cases h:k=1∧(z:Int)≠t-f
    ·rw [if_pos h]
     rw [decide_eq_true h] at hq
     subst hq
     exact ⟨true,_,_,_,_,_,_,_,_,_,_,_,_,_,_,hz⟩
    ·rw [if_neg h]
     rw [decide_eq_false h] at hq
     subst hq
     exact hz)
   clear HX
   have z16:w6.cell? ⟨g,16,none⟩=some (.bool false):=HB6.out.cell 16
   have q16:w6.frozen? ⟨g,16,none⟩=false:=HB6.out.free 16 (.inr (Nat.zero_le _))
   go_upto_region 4 with fail
   by_cases hk1:k=1
   ·subst hk1
    have z8:w6.cell? ⟨g,8,none⟩=some (.int .i64 1):=z8
    by_cases hzt:(z:Int)=t-f
    ·have d1:((z:Int) != (t-f))=false:=by simp [hzt]
     have HW:=hid (HFIN.out false _ (HB6.out.set 16 (.bool false)) (by simp [hzt]))
     clear HFIN hzt
     go_region
     all_goals go_wp2_with fail
     all_goals refine bodyPost_ret (results_none rfl _ _ _) rfl ?_
     all_goals exact ⟨rfl,by_tr (by_st hb6 16 _) (Gr.dr (Gr.refl _)),HW.out.gr (Gr.dr (Gr.refl _))⟩
    ·have d1:((z:Int) != (t-f))=true:=by simp [hzt]
     have HW:=hid (HFIN.out true _ (HB6.out.set 16 (.bool true)) (by simp [hzt]))
     clear HFIN hzt
     go_region
     all_goals go_wp2_with fail
     all_goals refine bodyPost_ret (results_none rfl _ _ _) rfl ?_
     all_goals exact ⟨rfl,by_tr (by_st hb6 16 _) (Gr.dr (Gr.refl _)),HW.out.gr (Gr.dr (Gr.refl _))⟩
   ·have d1:((k:Int)==1)=false:=by simp;omega
    have HW:=hid (HFIN.out false _ (HB6.out.set 16 (.bool false)) (by simp [hk1]))
    clear HFIN hk1
    go_region
    all_goals go_wp2_with fail
    all_goals refine bodyPost_ret (results_none rfl _ _ _) rfl ?_
    all_goals exact ⟨rfl,by_tr (by_st hb6 16 _) (Gr.dr (Gr.refl _)),HW.out.gr (Gr.dr (Gr.refl _))⟩
def HeedEnd (w w':World) (g:Nat) (asked:List UInt8) (ln:Nat) (fv:Value):ClS→Prop
 | .bad0=>Bad0 w' g false false
 | .body h fr _=>∃gf gc:Nat,Bk w' g 165 (bdCs asked ln h fv (.pointer (some ⟨gf,0,none⟩)) (.slice none 0 0) false false false) (0,0)∧FrAt w' gf gc fr∧w.heap.size≤gf∧w.heap.size≤gc
 | _=>False
theorem Flds.byo {w w':World} {v:Value} {fs:List Fld} {r:Option Nat} (h:Flds w v fs) (k:w.grownBy w' r) (hr:v.ownBlock≠r):Flds w' v fs:=Sl.kept h k (.inr hr)
theorem ranged_new {fs:List Fld} {k z:Nat}:rangedR fs k z=.bad0∨∃h,rangedR fs k z=.body h (FrT.new k z) []:=by
 unfold rangedR
 split
 ·split
  ·exact .inl rfl
  ·exact .inr ⟨_,rfl⟩
 ·split
  ·split
   ·exact .inr ⟨_,rfl⟩
   ·exact .inl rfl
  ·exact .inl rfl
theorem heed_any (asked m o:List UInt8) (ln:Nat) (st:Int) (fs:List Fld) (A:Option Addr) (c:Nat) (rv:Value) (w:World) (g:Nat) (hv:∀x,w.grownBy x (some g)→Vars x) (hb:Bk w g 165 (hdCs asked rv ln false) (0,0)) (hf:Flds w (.slice A fs.length c) fs) (hne:(Value.slice A fs.length c).ownBlock≠some g) (hfo:FldsOk fs) :
  Calls Tryz.prog 164 #[.pointer (some ⟨g,0,none⟩),.agg #[str m,str o,.int .i64 st,.slice A fs.length c]] w fun e w'=>e=.returned (.tuple #[])∧w.grownBy w' (some g)∧HeedEnd w w' g asked ln (.slice A fs.length c) (heedR asked st fs):=by
 have z1:w.cell? ⟨g,1,none⟩=some rv:=hb.cell 1
 have z3:w.cell? ⟨g,3,none⟩=some (.bool false):=hb.cell 3
 have f1:w.frozen? ⟨g,1,none⟩=false:=hb.free 1 (.inr (Nat.zero_le _))
 have f3:w.frozen? ⟨g,3,none⟩=false:=hb.free 3 (.inr (Nat.zero_le _))
 have hgl:=hb.lt
 have HV:=hid hv
 have HFO:=hid hfo
 have HX:=hid (show heedR asked st fs=if (frameL st fs asked).2.2≠0 then .bad0
  else if st=200 then .body ⟨200,fs,(frameL st fs asked).1,(frameL st fs asked).2.1.toNat,1,0,0,[]⟩ (FrT.new (frameL st fs asked).1 (frameL st fs asked).2.1.toNat) []
  else if st=206 then rangedR fs (frameL st fs asked).1 (frameL st fs asked).2.1.toNat
  else .body ⟨st,fs,(frameL st fs asked).1,(frameL st fs asked).2.1.toNat,0,0,0,[]⟩ (FrT.new (frameL st fs asked).1 (frameL st fs asked).2.1.toNat) [] from rfl)
 have HFK:=hid (fun (h:(frameL st fs asked).2.2=0)=>frameL_ok h)
 have HOF:=hid (fun (x:World) (hx:Flds x (.slice A fs.length c) fs)=>frOf_any st fs asked m o A c x hx hfo.short hfo.val hfo.many hfo.items)
 have hB1:=((hb.set 3 (.bool true)).set 1 (.slice none 0 0)).al (.cells #[str m,str o,.int .i64 st,.slice A fs.length c] 123)
 have hK1:=by_tr (by_st (by_st ((Gr.refl w).by (some g)) 3 (.bool true)) 1 (.slice none 0 0)) (Gr.al (Gr.refl _) (.cells #[str m,str o,.int .i64 st,.slice A fs.length c] 123))
 have hH1:Bk (((w.setCell ⟨g,3,none⟩ (.bool true)).setCell ⟨g,1,none⟩ (.slice none 0 0)).alloc (.cells #[str m,str o,.int .i64 st,.slice A fs.length c] 123)) w.heap.size 123 #[str m,str o,.int .i64 st,.slice A fs.length c] (0,0):=by
  have h:=Bk.new ((w.setCell ⟨g,3,none⟩ (.bool true)).setCell ⟨g,1,none⟩ (.slice none 0 0)) 123 #[str m,str o,.int .i64 st,.slice A fs.length c] (0,0)
  rw [show ((w.setCell ⟨g,3,none⟩ (.bool true)).setCell ⟨g,1,none⟩ (.slice none 0 0)).heap.size=w.heap.size from by simp [World.setCell]] at h
  exact h
 have hF1:=hf.byo hK1 hne
 have HF:=hid (fun (x:World) (h:w.grownBy x (some g))=>hf.byo h hne)
 clear hb hv hf hfo
 go_enter Tryz.func164,Tryz.ntmps164
 go_upto_region 2 with fail
 generalize ((w.setCell ⟨g,3,none⟩ (.bool true)).setCell ⟨g,1,none⟩ (.slice none 0 0)).alloc (Obj.cells #[str m,str o,.int .i64 st,.slice A fs.length c] 123)=w1 at *
 have HB1:=hid (show Bk w1 g 165 #[str asked,.slice none 0 0,.int .i64 (ln:Nat),.bool true,.int .i64 0,.slice none 0 0,.slice none 0 0,.int .i64 0,.int .i64 0,.int .i64 0,.pointer none,.int .i64 0,.int .i64 0,.int .i64 0,str [],.slice none 0 0,.bool false,.bool false,.bool false,.bool false] (0,0) from hB1)
 have HH1:=hid hH1
 have HF1:=hid hF1
 have HK1:=hid hK1
 clear hB1 hK1 hH1 hF1 z1 z3 f1 f3
 generalize hgh:w.heap.size=gh at *
 have p0:=gx_cell (r:=none) (show w1.cell? ⟨gh,0,none⟩=some (str m) from HH1.out.cell 0) (by simp)
 have p1:=gx_cell (r:=none) (show w1.cell? ⟨gh,1,none⟩=some (str o) from HH1.out.cell 1) (by simp)
 have p2:=gx_cell (r:=none) (show w1.cell? ⟨gh,2,none⟩=some (.int .i64 st) from HH1.out.cell 2) (by simp)
 have p3:=gx_cell (r:=none) (show w1.cell? ⟨gh,3,none⟩=some (.slice A fs.length c) from HH1.out.cell 3) (by simp)
 have p4:=gx_cell (r:=none) (show w1.cell? ⟨g,0,none⟩=some (str asked) from HB1.out.cell 0) (by simp)
 refine wp_region_mix [0,1,2,3,4,5,6,7,8,9,10,11,12] none 0 (by kernel_rfl) rfl (by kernel_rfl) (fun o _ _ _ _ h=>by cases o <;> exact h) ?_
 simp only [pickOps,List.filterMap_cons,List.filterMap_nil,List.getElem?_cons_zero,List.getElem?_cons_succ]
 repeat (first | (refine wpGq_step (fun K hK=>?_);go_simp;refine hK _ ?_;clear hK K) | (refine wpGq_step (fun K hK=>?_);go_simp;simp only [↓IntWalk.iteOmega];go_simp;refine hK _ ?_;clear hK K) | (refine wpGq_step (fun K hK=>?_);go_simp;apply Exists.intro;refine ⟨fun _=>?_,hK _ ?_⟩;(go_at_call 225;exact HOF.out _ (HF1.out.gr (gr_none (gx_by _ _ _))));clear hK K))
 refine wpGq_nil ?_
 clear p0 p1 p2 p3 p4
 refine wpG_done (by kernel_rfl) (fun w2 hg2=>?_)
 have HB2:=hid (HB1.out.gr hg2)
 have HH2:=hid (HH1.out.gr hg2)
 have HK2:=hid (by_tr HK1.out hg2)
 clear HB1 HH1 HK1 HF1 hg2 HOF
 generalize frameL st fs asked=FL at *
 obtain ⟨k,zi,E⟩:=FL
 simp only at HX HFK
 by_cases hE:E=0
 case neg=>
  have d0:((E:Int) != 0)=true:=by simp;omega
  have HX:=hid (HX.out.trans (if_pos hE))
  have z16:w2.cell? ⟨g,16,none⟩=some (.bool false):=HB2.out.cell 16
  have f16:w2.frozen? ⟨g,16,none⟩=false:=HB2.out.free 16 (.inr (Nat.zero_le _))
  clear hE HFK
  go_wp2_with fail
  refine bodyPost_ret (results_none rfl _ _ _) rfl ?_
  refine ⟨rfl,by_st HK2.out _ _,?_⟩
  rw [HX.out]
  exact ⟨true,_,_,_,_,_,_,_,_,_,_,_,_,_,_,HB2.out.set 16 (.bool true)⟩
 subst hE
 obtain ⟨h1,h4,hz0,hz1,hk1⟩:=HFK.out rfl
 obtain ⟨z,rfl⟩:∃z:Nat,zi=z:=⟨zi.toNat,by omega⟩
 simp only [ne_eq,not_true_eq_false,if_false,Int.toNat_natCast] at HX
 clear HFK
 have HN:=hid (fun (x:World)=>frNew_any k z x h1 h4 (by omega) (fun h=>by have:=hk1 h;omega))
 have r10:∀x,Gr w2 x→x.cell? ⟨g,10,none⟩=some (.pointer none):=fun x h=>(HB2.out.gr h).cell 10
 have q10:∀x,Gr w2 x→x.frozen? ⟨g,10,none⟩=false:=fun x h=>(HB2.out.gr h).free 10 (.inr (Nat.zero_le _))
 go_upto_region 6 with (go_at_call 226;refine (HN.out _).mono ?_;rintro e w3 ⟨gf,gc,rfl,hFA,hg3,hgf,hgc⟩)
 have HB4:=hid ((HB2.out.gr hg3).set 10 (.pointer (some ⟨gf,0,none⟩)))
 have HK4:=hid (by_st (by_tr HK2.out hg3) 10 (.pointer (some ⟨gf,0,none⟩)))
 have hgs:gh≤w2.heap.size:=by have:=HH2.out.lt;omega
 have hgf1:g≠gf:=by omega
 have hgc1:g≠gc:=by omega
 have hghg:gh≠g:=by omega
 have HFA4:=hid (hFA.by (by_st ((Gr.refl w3).by (some g)) 10 (.pointer (some ⟨gf,0,none⟩))) (by simpa using hgf1.symm) (by simpa using hgc1.symm))
 have HH4:=hid (bk_byo (HH2.out.gr hg3) (by_st ((Gr.refl w3).by (some g)) 10 (.pointer (some ⟨gf,0,none⟩))) (by simpa using hghg))
 clear HB2 HH2 HK2 hFA hg3 r10 q10 HN
 generalize w3.setCell ⟨g,10,none⟩ (.pointer (some ⟨gf,0,none⟩))=w4 at *
 have HB4':=hid (show Bk w4 g 165 #[str asked,.slice none 0 0,.int .i64 (ln:Nat),.bool true,.int .i64 0,.slice none 0 0,.slice none 0 0,.int .i64 0,.int .i64 0,.int .i64 0,.pointer (some ⟨gf,0,none⟩),.int .i64 0,.int .i64 0,.int .i64 0,str [],.slice none 0 0,.bool false,.bool false,.bool false,.bool false] (0,0) from HB4.out)
 clear HB4
 have y2:w4.cell? ⟨gh,2,none⟩=some (.int .i64 st):=HH4.out.cell 2
 have y3:w4.cell? ⟨gh,3,none⟩=some (.slice A fs.length c):=HH4.out.cell 3
 have z4:w4.cell? ⟨g,4,none⟩=some (.int .i64 0):=HB4'.out.cell 4
 have f4:w4.frozen? ⟨g,4,none⟩=false:=HB4'.out.free 4 (.inr (Nat.zero_le _))
 have z5:w4.cell? ⟨g,5,none⟩=some (.slice none 0 0):=HB4'.out.cell 5
 have f5:w4.frozen? ⟨g,5,none⟩=false:=HB4'.out.free 5 (.inr (Nat.zero_le _))
 have z6:w4.cell? ⟨g,6,none⟩=some (.slice none 0 0):=HB4'.out.cell 6
 have f6:w4.frozen? ⟨g,6,none⟩=false:=HB4'.out.free 6 (.inr (Nat.zero_le _))
 have z7:w4.cell? ⟨g,7,none⟩=some (.int .i64 0):=HB4'.out.cell 7
 have f7:w4.frozen? ⟨g,7,none⟩=false:=HB4'.out.free 7 (.inr (Nat.zero_le _))
 have z8:w4.cell? ⟨g,8,none⟩=some (.int .i64 0):=HB4'.out.cell 8
 have f8:w4.frozen? ⟨g,8,none⟩=false:=HB4'.out.free 8 (.inr (Nat.zero_le _))
 have z9:w4.cell? ⟨g,9,none⟩=some (.int .i64 0):=HB4'.out.cell 9
 have f9:w4.frozen? ⟨g,9,none⟩=false:=HB4'.out.free 9 (.inr (Nat.zero_le _))
 go_upto_region 10 with fail
 have HB5:=hid (show Bk ((((((w4.setCell ⟨g,8,none⟩ (.int .i64 (k:Nat))).setCell ⟨g,9,none⟩ (.int .i64 (z:Nat))).setCell ⟨g,4,none⟩ (.int .i64 st)).setCell ⟨g,5,none⟩ (.slice A fs.length c)).setCell ⟨g,6,none⟩ (.slice none 0 0)).setCell ⟨g,7,none⟩ (.int .i64 (-1))) g 165 #[str asked,.slice none 0 0,.int .i64 (ln:Nat),.bool true,.int .i64 st,.slice A fs.length c,.slice none 0 0,.int .i64 (-1),.int .i64 (k:Nat),.int .i64 (z:Nat),.pointer (some ⟨gf,0,none⟩),.int .i64 0,.int .i64 0,.int .i64 0,str [],.slice none 0 0,.bool false,.bool false,.bool false,.bool false] (0,0) from ((((((HB4'.out).set 8 (.int .i64 (k:Nat))).set 9 (.int .i64 (z:Nat))).set 4 (.int .i64 st)).set 5 (.slice A fs.length c)).set 6 (.slice none 0 0)).set 7 (.int .i64 (-1)))
 have HK5:=hid (by_st (by_st (by_st (by_st (by_st (by_st (HK4.out) 8 (.int .i64 (k:Nat))) 9 (.int .i64 (z:Nat))) 4 (.int .i64 st)) 5 (.slice A fs.length c)) 6 (.slice none 0 0)) 7 (.int .i64 (-1)))
 have HFA5:=hid (HFA4.out.by (by_st (by_st (by_st (by_st (by_st (by_st ((Gr.refl w4).by (some g)) 8 (.int .i64 (k:Nat))) 9 (.int .i64 (z:Nat))) 4 (.int .i64 st)) 5 (.slice A fs.length c)) 6 (.slice none 0 0)) 7 (.int .i64 (-1))) (by simpa using hgf1.symm) (by simpa using hgc1.symm))
 have HH5:=hid (bk_byo HH4.out (by_st (by_st (by_st (by_st (by_st (by_st ((Gr.refl w4).by (some g)) 8 (.int .i64 (k:Nat))) 9 (.int .i64 (z:Nat))) 4 (.int .i64 st)) 5 (.slice A fs.length c)) 6 (.slice none 0 0)) 7 (.int .i64 (-1))) (by simpa using hghg))
 clear HB4' HK4 HFA4 HH4 y2 y3 z4 f4 z5 f5 z6 f6 z7 f7 z8 f8 z9 f9
 generalize ((((((w4.setCell ⟨g,8,none⟩ (.int .i64 (k:Nat))).setCell ⟨g,9,none⟩ (.int .i64 (z:Nat))).setCell ⟨g,4,none⟩ (.int .i64 st)).setCell ⟨g,5,none⟩ (.slice A fs.length c)).setCell ⟨g,6,none⟩ (.slice none 0 0)).setCell ⟨g,7,none⟩ (.int .i64 (-1)))=w5 at *
 have z7:w5.cell? ⟨g,7,none⟩=some (.int .i64 (-1)):=HB5.out.cell 7
 have f7:w5.frozen? ⟨g,7,none⟩=false:=HB5.out.free 7 (.inr (Nat.zero_le _))
 obtain hk | hk | ⟨hk,hk'⟩:k=1∨k=4∨(k≠1∧k≠4):=by omega
 ·subst hk
  go_upto_region 15 with fail
  have HB6:=hid (show Bk (w5.setCell ⟨g,7,none⟩ (.int .i64 (z:Nat))) g 165 (bdCs asked ln ⟨st,fs,1,z,0,0,0,[]⟩ (.slice A fs.length c) (.pointer (some ⟨gf,0,none⟩)) (.slice none 0 0) false false false) (0,0) from HB5.out.set 7 (.int .i64 (z:Nat)))
  have HK6:=hid (show w.grownBy (w5.setCell ⟨g,7,none⟩ (.int .i64 (z:Nat))) (some g) from by_st HK5.out 7 _)
  have HFA6:=hid (show FrAt (w5.setCell ⟨g,7,none⟩ (.int .i64 (z:Nat))) gf gc (FrT.new 1 z) from HFA5.out.by (by_st ((Gr.refl w5).by (some g)) 7 _) (by simpa using hgf1.symm) (by simpa using hgc1.symm))
  have HH6:=hid (show Bk (w5.setCell ⟨g,7,none⟩ (.int .i64 (z:Nat))) gh 123 #[str m,str o,.int .i64 st,.slice A fs.length c] (0,0) from bk_byo HH5.out (by_st ((Gr.refl w5).by (some g)) 7 _) (by simpa using hghg))
  clear HB5 HK5 HFA5 HH5 z7 f7
  generalize w5.setCell ⟨g,7,none⟩ (.int .i64 (z:Nat))=w6 at *
  have y2:w6.cell? ⟨gh,2,none⟩=some (.int .i64 st):=HH6.out.cell 2
  have y3:w6.cell? ⟨gh,3,none⟩=some (.slice A fs.length c):=HH6.out.cell 3
  have z11:w6.cell? ⟨g,11,none⟩=some (.int .i64 0):=HB6.out.cell 11
  have f11:w6.frozen? ⟨g,11,none⟩=false:=HB6.out.free 11 (.inr (Nat.zero_le _))
  by_cases h200:st=200
  ·have HX:=hid (HX.out.trans (if_pos h200))
   subst h200
   go_wp2_with fail
   go_end0
   refine ⟨rfl,by_st HK6.out 11 _,?_⟩
   rw [HX.out]
   exact ⟨gf,gc,HB6.out.set 11 (.int .i64 1),HFA6.out.by (by_st ((Gr.refl w6).by (some g)) 11 _) (by simpa using hgf1.symm) (by simpa using hgc1.symm),by omega,by omega⟩
  ·have d200:(st==200)=false:=by simpa using h200
   have HX:=hid (HX.out.trans (if_neg h200))
   by_cases h206:st=206
   ·have HX:=hid (HX.out.trans (if_pos h206))
    subst h206
    have hvx:=HV.out w6 HK6.out
    have HRA:=hid (ranged_any asked ln fs 1 z (.slice A fs.length c) (.pointer (some ⟨gf,0,none⟩)) w6 g hvx HB6.out (HF.out w6 HK6.out) HFO.out (by omega))
    go_wp2_with (go_at_call 227;refine HRA.out.mono ?_;rintro e w7 ⟨rfl,hb7,hr7⟩)
    go_end0
    refine ⟨rfl,by_trans HK6.out hb7,?_⟩
    rw [HX.out]
    have hF7:=HFA6.out.by hb7 (by simpa using hgf1.symm) (by simpa using hgc1.symm)
    rcases ranged_new (fs:=fs) (k:=1) (z:=z) with h0 | ⟨hh,h0⟩
    ·rw [h0] at hr7 ⊢;exact hr7
    ·rw [h0] at hr7 ⊢;exact ⟨gf,gc,hr7,hF7,by omega,by omega⟩
   ·have d206:(st==206)=false:=by simpa using h206
    have HX:=hid (HX.out.trans (if_neg h206))
    go_wp2_with fail
    go_end0
    refine ⟨rfl,HK6.out,?_⟩
    rw [HX.out]
    exact ⟨gf,gc,HB6.out,HFA6.out,by omega,by omega⟩
 ·subst hk
  go_upto_region 15 with fail
  have HB6:=hid (show Bk (w5.setCell ⟨g,7,none⟩ (.int .i64 0)) g 165 (bdCs asked ln ⟨st,fs,4,z,0,0,0,[]⟩ (.slice A fs.length c) (.pointer (some ⟨gf,0,none⟩)) (.slice none 0 0) false false false) (0,0) from HB5.out.set 7 (.int .i64 0))
  have HK6:=hid (show w.grownBy (w5.setCell ⟨g,7,none⟩ (.int .i64 0)) (some g) from by_st HK5.out 7 _)
  have HFA6:=hid (show FrAt (w5.setCell ⟨g,7,none⟩ (.int .i64 0)) gf gc (FrT.new 4 z) from HFA5.out.by (by_st ((Gr.refl w5).by (some g)) 7 _) (by simpa using hgf1.symm) (by simpa using hgc1.symm))
  have HH6:=hid (show Bk (w5.setCell ⟨g,7,none⟩ (.int .i64 0)) gh 123 #[str m,str o,.int .i64 st,.slice A fs.length c] (0,0) from bk_byo HH5.out (by_st ((Gr.refl w5).by (some g)) 7 _) (by simpa using hghg))
  clear HB5 HK5 HFA5 HH5 z7 f7
  generalize w5.setCell ⟨g,7,none⟩ (.int .i64 0)=w6 at *
  have y2:w6.cell? ⟨gh,2,none⟩=some (.int .i64 st):=HH6.out.cell 2
  have y3:w6.cell? ⟨gh,3,none⟩=some (.slice A fs.length c):=HH6.out.cell 3
  have z11:w6.cell? ⟨g,11,none⟩=some (.int .i64 0):=HB6.out.cell 11
  have f11:w6.frozen? ⟨g,11,none⟩=false:=HB6.out.free 11 (.inr (Nat.zero_le _))
  by_cases h200:st=200
  ·have HX:=hid (HX.out.trans (if_pos h200))
   subst h200
   go_wp2_with fail
   go_end0
   refine ⟨rfl,by_st HK6.out 11 _,?_⟩
   rw [HX.out]
   exact ⟨gf,gc,HB6.out.set 11 (.int .i64 1),HFA6.out.by (by_st ((Gr.refl w6).by (some g)) 11 _) (by simpa using hgf1.symm) (by simpa using hgc1.symm),by omega,by omega⟩
  ·have d200:(st==200)=false:=by simpa using h200
   have HX:=hid (HX.out.trans (if_neg h200))
   by_cases h206:st=206
   ·have HX:=hid (HX.out.trans (if_pos h206))
    subst h206
    have hvx:=HV.out w6 HK6.out
    have HRA:=hid (ranged_any asked ln fs 4 z (.slice A fs.length c) (.pointer (some ⟨gf,0,none⟩)) w6 g hvx HB6.out (HF.out w6 HK6.out) HFO.out (by omega))
    go_wp2_with (go_at_call 227;refine HRA.out.mono ?_;rintro e w7 ⟨rfl,hb7,hr7⟩)
    go_end0
    refine ⟨rfl,by_trans HK6.out hb7,?_⟩
    rw [HX.out]
    have hF7:=HFA6.out.by hb7 (by simpa using hgf1.symm) (by simpa using hgc1.symm)
    rcases ranged_new (fs:=fs) (k:=4) (z:=z) with h0 | ⟨hh,h0⟩
    ·rw [h0] at hr7 ⊢;exact hr7
    ·rw [h0] at hr7 ⊢;exact ⟨gf,gc,hr7,hF7,by omega,by omega⟩
   ·have d206:(st==206)=false:=by simpa using h206
    have HX:=hid (HX.out.trans (if_neg h206))
    go_wp2_with fail
    go_end0
    refine ⟨rfl,HK6.out,?_⟩
    rw [HX.out]
    exact ⟨gf,gc,HB6.out,HFA6.out,by omega,by omega⟩
 ·have dk1:(((k:Nat):Int)==1)=false:=by simp;omega
  have dk4:(((k:Nat):Int)==4)=false:=by simp;omega
  have hsz:sizeH ⟨st,fs,k,z,0,0,0,[]⟩= -1:=by unfold sizeH;rw [if_neg hk,if_neg hk']
  go_upto_region 15 with fail
  have HB6:=hid (show Bk (w5) g 165 (bdCs asked ln ⟨st,fs,k,z,0,0,0,[]⟩ (.slice A fs.length c) (.pointer (some ⟨gf,0,none⟩)) (.slice none 0 0) false false false) (0,0) from (by unfold bdCs;rw [hsz];exact HB5.out))
  have HK6:=hid (show w.grownBy (w5) (some g) from HK5.out)
  have HFA6:=hid (show FrAt (w5) gf gc (FrT.new k z) from HFA5.out)
  have HH6:=hid (show Bk (w5) gh 123 #[str m,str o,.int .i64 st,.slice A fs.length c] (0,0) from HH5.out)
  clear HB5 HK5 HFA5 HH5 z7 f7
  have y2:w5.cell? ⟨gh,2,none⟩=some (.int .i64 st):=HH6.out.cell 2
  have y3:w5.cell? ⟨gh,3,none⟩=some (.slice A fs.length c):=HH6.out.cell 3
  have z11:w5.cell? ⟨g,11,none⟩=some (.int .i64 0):=HB6.out.cell 11
  have f11:w5.frozen? ⟨g,11,none⟩=false:=HB6.out.free 11 (.inr (Nat.zero_le _))
  by_cases h200:st=200
  ·have HX:=hid (HX.out.trans (if_pos h200))
   subst h200
   go_wp2_with fail
   go_end0
   refine ⟨rfl,by_st HK6.out 11 _,?_⟩
   rw [HX.out]
   exact ⟨gf,gc,HB6.out.set 11 (.int .i64 1),HFA6.out.by (by_st ((Gr.refl w5).by (some g)) 11 _) (by simpa using hgf1.symm) (by simpa using hgc1.symm),by omega,by omega⟩
  ·have d200:(st==200)=false:=by simpa using h200
   have HX:=hid (HX.out.trans (if_neg h200))
   by_cases h206:st=206
   ·have HX:=hid (HX.out.trans (if_pos h206))
    subst h206
    have hvx:=HV.out w5 HK6.out
    have HRA:=hid (ranged_any asked ln fs k z (.slice A fs.length c) (.pointer (some ⟨gf,0,none⟩)) w5 g hvx HB6.out (HF.out w5 HK6.out) HFO.out (by omega))
    go_wp2_with (go_at_call 227;refine HRA.out.mono ?_;rintro e w7 ⟨rfl,hb7,hr7⟩)
    go_end0
    refine ⟨rfl,by_trans HK6.out hb7,?_⟩
    rw [HX.out]
    have hF7:=HFA6.out.by hb7 (by simpa using hgf1.symm) (by simpa using hgc1.symm)
    rcases ranged_new (fs:=fs) (k:=k) (z:=z) with h0 | ⟨hh,h0⟩
    ·rw [h0] at hr7 ⊢;exact hr7
    ·rw [h0] at hr7 ⊢;exact ⟨gf,gc,hr7,hF7,by omega,by omega⟩
   ·have d206:(st==206)=false:=by simpa using h206
    have HX:=hid (HX.out.trans (if_neg h206))
    go_wp2_with fail
    go_end0
    refine ⟨rfl,HK6.out,?_⟩
    rw [HX.out]
    exact ⟨gf,gc,HB6.out,HFA6.out,by omega,by omega⟩
theorem cl_fieldR {l:List UInt8} (h:(fieldR l).2=true):right (fieldR l).1=true:=by
 unfold fieldR at *
 cases hc:cutC l with
 | none=>rw [hc] at h;cases h
 | some p=>rw [hc] at h;exact h
theorem cl_parseGo (s:List UInt8) (fuel k:Nat) (acc:List Fld) (h:acc.all right=true∧acc.length≤100):(parseGo s fuel k acc).1.all right=true∧(parseGo s fuel k acc).1.length≤100:=by
 induction fuel generalizing k acc with
 | zero=>simp [parseGo]
 | succ fuel ih=>
   cases hc:crlf (s.drop k) with
   | none=>rw [parseGo_none hc];split <;> simp
   | some j=>
     rw [parseGo_some hc]
     split
     ·simp
     ·split
      ·exact h
      ·split
       ·simp
       ·split
        ·rename_i hr
         exact ih _ _ ⟨by rw [List.all_append,h.1];simpa using cl_fieldR hr,by simp;omega⟩
        ·simp
theorem cl_parse (s:List UInt8):(parse s).1.all right=true∧(parse s).1.length≤100:=cl_parseGo s _ _ _ ⟨rfl,by simp⟩
theorem tell_flds (s:List UInt8):FldsOk (tellR s).1.2.2.2:=by
 have key:(tellR s).1.2.2.2.all right=true∧(tellR s).1.2.2.2.length≤100:=by
  unfold tellR
  split
  ·split
   ·exact ⟨rfl,Nat.zero_le _⟩
   ·unfold restL
    simp only
    split
    ·exact cl_parse _
    ·exact ⟨rfl,Nat.zero_le _⟩
  ·exact ⟨rfl,Nat.zero_le _⟩
 exact fldsOk_right key.1 key.2
theorem own_ne_bk {W0 w:World} {e t:TypeId} {size n g:Nat} {v:Value} {xs:List Value} {cs:Array Value} {fr:Nat×Nat} (h:Own W0 w e size v n xs) (hb:Bk w g t cs fr) (ht:t≠e):v.ownBlock≠some g:=by
 rcases h.2 with ⟨rfl,_⟩ | ⟨b,cap,cur,rfl,_,hh,_⟩
 ·simp [Value.ownBlock]
 ·intro he
  have:b=g:=by simpa [Value.ownBlock] using he
  subst this
  unfold Bk at hb
  rw [hh] at hb
  injection hb with k
  injection k with _ k _
  exact ht k.symm
structure HdAt (W0 w:World) (g:Nat) (S:List Nat) (asked:List UInt8) (rv:Value) (ln:Nat) (raw:List UInt8):Prop where
 bk:Bk w g 165 (hdCs asked rv ln false) (0,0)
 own:OwnB W0 w S rv raw
 g:g∈S
 lo:∀k∈S,W0.heap.size≤k
 hi:∀k∈S,k < w.heap.size
theorem HdAt.gr {W0 w w':World} {g:Nat} {S:List Nat} {asked:List UInt8} {rv:Value} {ln:Nat} {raw:List UInt8} (h:HdAt W0 w g S asked rv ln raw) (k:Gr w w'):HdAt W0 w' g S asked rv ln raw:=
 ⟨h.bk.gr k,h.own.blk (fun b hb=>k.block b (h.hi b hb)),h.g,h.lo,fun j hj=>Nat.lt_of_lt_of_le (h.hi j hj) k.size⟩
def blV (v:Value):List Nat:=v.ownBlock.toList
theorem mem_blV {v:Value} {k:Nat}:k∈blV v↔v.ownBlock=some k:=by unfold blV;simp
theorem HdAt.app {W0 w w5:World} {g:Nat} {S:List Nat} {asked:List UInt8} {rv rv':Value} {ln:Nat} {raw:List UInt8} {c:UInt8} (h:HdAt W0 w g S asked rv ln raw) (ho:Own W0 w5 5 1 rv' (raw.length+1) (raw.map byt++[byt c])) (ha:App rv rv' w w5) :
  HdAt W0 (w5.setCell ⟨g,1,none⟩ rv') g (blV rv'++S) asked rv' ln (raw++[c])∧Stp w S (w5.setCell ⟨g,1,none⟩ rv') (blV rv'++S):=by
 have hne:=own_ne_bk h.own.own h.bk (by decide)
 have hb5:Bk w5 g 165 (hdCs asked rv ln false) (0,0):=bk_byo h.bk ha.grown (Ne.symm hne)
 have ho':Own W0 w5 5 1 rv' (raw++[c]).length ((raw++[c]).map byt):=by
  rw [List.length_append,List.map_append];exact ho
 have hne':=own_ne_bk ho' hb5 (by decide)
 have hk5:Kr S w.heap.size w w5:=(Kr.refl (Nat.le_refl _)).by ha.grown (fun k e=>.inl (h.own.mem k e))
 have hlo:∀k∈blV rv',k∈S∨w.heap.size≤k:=fun k hk=>by
  rw [mem_blV] at hk
  rcases ha.at_ with h1 | ⟨b,h1,h2⟩
  ·exact .inl (h.own.mem k (h1▸hk))
  ·rw [hk] at h1;injection h1 with h1;subst h1;exact .inr h2
 refine ⟨⟨?_,⟨own_kr ho' (by_st ((Gr.refl w5).by (some g)) 1 rv') (.inr hne'),fun b hb=>List.mem_append_left _ (mem_blV.2 hb)⟩,List.mem_append_right _ h.g,?_,?_⟩,?_,?_⟩
 ·exact hb5.set 1 rv'
 ·intro k hk
  rcases List.mem_append.1 hk with hk | hk
  ·exact (World.ownsRow.lt ho' k (mem_blV.1 hk)).1
  ·exact h.lo k hk
 ·intro k hk
  have hs:(w5.setCell ⟨g,1,none⟩ rv').heap.size=w5.heap.size:=by simp [World.setCell]
  rw [hs]
  rcases List.mem_append.1 hk with hk | hk
  ·exact (World.ownsRow.lt ho' k (mem_blV.1 hk)).2
  ·exact Nat.lt_of_lt_of_le (h.hi k hk) ha.grown.size
 ·exact hk5.set (.inl h.g) 1 rv'
 ·intro k hk
  rcases List.mem_append.1 hk with hk | hk
  ·exact hlo k hk
  ·exact .inl hk
theorem HdAt.line {W0 w:World} {g:Nat} {S:List Nat} {asked:List UInt8} {rv:Value} {ln:Nat} {raw:List UInt8} (h:HdAt W0 w g S asked rv ln raw) (n:Nat):HdAt W0 (w.setCell ⟨g,2,none⟩ (.int .i64 (n:Nat))) g S asked rv n raw∧Stp w S (w.setCell ⟨g,2,none⟩ (.int .i64 (n:Nat))) S:=by
 have hne:=own_ne_bk h.own.own h.bk (by decide)
 have hs:(w.setCell ⟨g,2,none⟩ (.int .i64 (n:Nat))).heap.size=w.heap.size:=by simp [World.setCell]
 exact ⟨⟨h.bk.set 2 _,⟨own_kr h.own.own (by_st ((Gr.refl w).by (some g)) 2 _) (.inr hne),h.own.mem⟩,h.g,h.lo,fun k hk=>by rw [hs];exact h.hi k hk⟩,(Stp.refl w S).st h.g 2 _⟩
theorem HdAt.clr {W0 w:World} {g:Nat} {S:List Nat} {asked:List UInt8} {rv:Value} {raw:List UInt8} (h:HdAt W0 w g S asked rv (linesL raw) raw) (hi:(tellR raw).2.2=3):ClR W0 w g S asked false false (.head raw):=
 ⟨⟨rfl,rv,h.own,h.bk⟩,h.g,h.lo,h.hi,hi⟩
theorem HdAt.clr' {W0 w:World} {g:Nat} {S:List Nat} {asked:List UInt8} {rv:Value} {raw:List UInt8} {n:Nat} (h:HdAt W0 w g S asked rv n raw) (hn:linesL raw=n) (hi:(tellR raw).2.2=3):ClR W0 w g S asked false false (.head raw):=by subst hn;exact h.clr hi
theorem bad0_clr {W0 w:World} {g:Nat} {S:List Nat} {asked:List UInt8} (h:Bad0 w g true false) (hg:g∈S) (lo:∀k∈S,W0.heap.size≤k) (hi:∀k∈S,k < w.heap.size):ClR W0 w g S asked false false .bad0:=⟨⟨rfl,h⟩,hg,lo,hi,trivial⟩
theorem lit2_byts (w:World) (x y:UInt8) (fr:Nat×Nat):Byts (w.alloc (.cells #[byt x,byt y] 5 fr)) (.slice (some ⟨w.heap.size,0,none⟩) 2 2) [x,y]:=by
 refine ⟨_,_,rfl,Nat.le_refl _,by simp,.inr ⟨w.heap.size,0,rfl,(Bk.new w 5 #[byt x,byt y] fr).lt,fun j u hu=>?_⟩⟩
 rw [Nat.zero_add,(Bk.new w 5 #[byt x,byt y] fr).cell j];simpa using hu
theorem ranged_fs {fs:List Fld} {k z:Nat}:rangedR fs k z=.bad0∨∃h,rangedR fs k z=.body h (FrT.new k z) []∧h.fs=fs:=by
 unfold rangedR
 split
 ·split
  ·exact .inl rfl
  ·exact .inr ⟨_,rfl,rfl⟩
 ·split
  ·split
   ·exact .inr ⟨_,rfl,rfl⟩
   ·exact .inl rfl
  ·exact .inl rfl
theorem heed_new (asked:List UInt8) (st:Int) (fs:List Fld):heedR asked st fs=.bad0∨∃h k z,heedR asked st fs=.body h (FrT.new k z) []∧h.fs=fs:=by
 unfold heedR
 split
 ·exact .inl rfl
 ·split
  ·exact .inr ⟨_,_,_,rfl,rfl⟩
  ·split
   ·rcases ranged_fs (fs:=fs) (k:=(frameL st fs asked).1) (z:=(frameL st fs asked).2.1.toNat) with h | ⟨h,h1,h2⟩
    ·exact .inl h
    ·exact .inr ⟨h,_,_,h1,h2⟩
   ·exact .inr ⟨_,_,_,rfl,rfl⟩
theorem heed_nil {asked:List UInt8} {st:Int} {fs:List Fld} {H:ClH} {fr:FrT} {b:List UInt8} (h:heedR asked st fs=.body H fr b):b=[]:=by
 rcases heed_new asked st fs with h1 | ⟨_,_,_,h1,_⟩
 ·rw [h1] at h;cases h
 ·rw [h1] at h;injection h with _ _ h;exact h.symm
theorem heed_fs {asked:List UInt8} {st:Int} {fs:List Fld} {H:ClH} {fr:FrT} {b:List UInt8} (h:heedR asked st fs=.body H fr b):H.fs=fs:=by
 rcases heed_new asked st fs with h1 | ⟨_,_,_,h1,h2⟩
 ·rw [h1] at h;cases h
 ·rw [h1] at h;injection h with h _ _;rw [←h];exact h2
theorem byte_tell {asked raw:List UInt8} {c:UInt8} (h:clByte asked (.head raw) c=.head (raw++[c])):(tellR (raw++[c])).2.2=3:=by
 rw [clByte_head] at h
 by_cases h3:(tellR (raw++[c])).2.2=3
 ·exact h3
 ·rw [if_neg h3] at h
  by_cases h0:(tellR (raw++[c])).2.2=0
  ·rw [if_pos h0] at h
   rcases heed_new asked (tellR (raw++[c])).1.2.2.1 (tellR (raw++[c])).1.2.2.2 with h1 | ⟨_,_,_,h1,_⟩
   ·rw [h1] at h;cases h
   ·rw [h1] at h;cases h
  ·rw [if_neg h0] at h;cases h
theorem flds_lt {w:World} {v:Value} {fs:List Fld} {k:Nat} (h:Flds w v fs) (h0:fs≠[]) (hk:v.ownBlock=some k):k < w.heap.size:=by
 obtain ⟨A,c,rfl,_,_,ho⟩:=h
 rcases ho with ho | ⟨b,o,rfl,hb,_⟩
 ·exfalso
  have h2:=congrArg List.length ho
  rw [flat2_len,List.length_nil] at h2
  exact h0 (List.length_eq_zero_iff.1 (by omega))
 ·have h2:b=k:=by simpa [Value.ownBlock] using hk
  subst h2
  exact hb
theorem clr_body {W0 w:World} {g gf gc:Nat} {S:List Nat} {asked:List UInt8} {ln:Nat} {H:ClH} {fv:Value} {fs:List Fld} {fr:FrT} (hB:Bk w g 165 (bdCs asked ln H fv (.pointer (some ⟨gf,0,none⟩)) (.slice none 0 0) false false false) (0,0)) (hfs:H.fs=fs) (hF:Flds w fv fs) (hFA:FrAt w gf gc fr)
  (hg:g∈S) (lo:∀k∈S,W0.heap.size≤k) (hi:∀k∈S,k < w.heap.size) (hf:∀k,fv.ownBlock=some k→W0.heap.size≤k) (hfg:fv.ownBlock≠some g) (hfd:∀k,fs≠[]→fv.ownBlock=some k→k < gf∧k < gc) (h1:W0.heap.size≤gf) (h2:W0.heap.size≤gc) (hv:BodyInv H fr []):ClR W0 w g (gf::gc::((if fs=[] then [] else blV fv)++S)) asked false false (.body H fr []):=by
 refine ⟨⟨ln,fv,.slice none 0 0,gf,gc,⟨hB,⟨by rw [hfs];exact hF,?_⟩,OwnB.nil _ _ _,hfg,.inr (.inl rfl)⟩,fun _=>⟨hFA,by simp,by simp,?_⟩⟩,by simp [hg],?_,?_,hv⟩
 ·rw [hfs]
  by_cases h0:fs=[]
  ·exact .inl h0
  ·right
   intro b hb
   rw [if_neg h0]
   simp [mem_blV,hb]
 ·rw [hfs]
  by_cases h0:fs=[]
  ·exact .inl h0
  ·exact .inr ⟨fun h=>by have:=(hfd gf h0 h).1;omega,fun h=>by have:=(hfd gc h0 h).2;omega⟩
 ·intro k hk
  simp only [List.mem_cons,List.mem_append] at hk
  rcases hk with rfl | rfl | hk | hk
  ·exact h1
  ·exact h2
  ·split at hk
   ·cases hk
   ·exact hf k (mem_blV.1 hk)
  ·exact lo k hk
 ·intro k hk
  simp only [List.mem_cons,List.mem_append] at hk
  rcases hk with rfl | rfl | hk | hk
  ·exact hFA.fr.lt
  ·exact Bk.lt hFA.ck
  ·split at hk
   ·cases hk
   ·rename_i h0
    obtain ⟨A,c,rfl,_,_,ho⟩:=hF
    rcases ho with ho | ⟨b,o,rfl,hb,_⟩
    ·exfalso
     have h2:=congrArg List.length ho
     rw [flat2_len,List.length_nil] at h2
     exact h0 (List.length_eq_zero_iff.1 (by omega))
    ·have h2:b=k:=by simpa [Value.ownBlock] using mem_blV.1 hk
     subst h2
     exact hb
  ·exact hi k hk
def HByteEnd (W0 w:World) (g:Nat) (S:List Nat) (asked:List UInt8) (s:ClS) (e:Ending) (w':World):Prop:=e=.returned (.tuple #[])∧∃S',ClR W0 w' g S' asked false false s∧Stp w S w' S'
theorem headByte_any (W0 w:World) (g:Nat) (S:List Nat) (asked raw:List UInt8) (c:UInt8) (hR:ClR W0 w g S asked false false (.head raw)) (hG:Gr W0 w) (hv:Vars W0) (hl:raw.length≤60000) :
  Calls Tryz.prog 93 #[.pointer (some ⟨g,0,none⟩),.int .u8 c.toNat] w (HByteEnd W0 w g S asked (clByte asked (.head raw) c)):=by
 obtain ⟨⟨-,rv,hown,hbk⟩,hgS,hlo,hhi,hinv⟩:=hR
 have hH:HdAt W0 w g S asked rv (linesL raw) raw:=⟨hbk,hown,hgS,hlo,hhi⟩
 have hinv:(tellR raw).2.2=3:=hinv
 have HB:=hid (clByte_head asked raw c)
 have HQ:=hid (fun (h1:endsB (raw++[c])=false) (h2:linesL raw=0→raw.length+1≤400)=>byte_quiet asked hinv h1 h2 (by omega))
 have HFL:=hid (tell_flds (raw++[c]))
 have HSF:=hid (fun (x:World) (u v:Value) (hu:Byts x u (raw++[c])) (hv:Byts x v [13,10])=>show Calls Tryz.prog 162 #[u,v] x (fun e w'=>e=.returned (.bool (endsB (raw++[c])))∧Gr x w') from hasSuf2_any u v (raw++[c]) 13 10 x hu hv (by simp;omega))
 have HLO:=hid hlo
 have HL:=hid (lines_snoc raw c)
 have hll:=lines_le raw
 have HV:=hid hv
 have HG:=hid hG
 have HH:=hid hH
 obtain ⟨Ar,cr,rfl⟩:=hown.own.form
 have z1:w.cell? ⟨g,1,none⟩=some (.slice Ar raw.length cr):=hbk.cell 1
 clear hown hbk hgS hlo hhi hH hv hG hinv
 have kc:=fun (w:World) (C:Array Value) (n c:Nat)=>Lib.run_convert_bytes_const (P:=Tryz.prog) w 30 5 C n c Tryz.underlying30 Tryz.underlying5
 go_enter Tryz.func93,Tryz.ntmps93
 go_upto_region 1 with (at_builtin;refine wpList_app1x (W0:=W0) (W:=w) (n:=raw.length) (xs:=raw.map byt) (v:=.slice Ar raw.length cr) (news:=[byt c]) elemByte rfl _ _ rfl rfl rfl HG.out.size HH.out.own.own rfl (one_byt [c]) (by omega) (by omega) ?_;intro v5 w5 hown5 happ5;obtain ⟨A5,c5,rfl⟩:=hown5.form;have hx5:=HH.out.app hown5 happ5;have f51:w5.frozen? ⟨g,1,none⟩=false:=(bk_byo HH.out.bk happ5.grown (Ne.symm (own_ne_bk HH.out.own.own HH.out.bk (by decide)))).free 1 (.inr (Nat.zero_le _));have z51:w5.cell? ⟨g,1,none⟩=some (.slice Ar raw.length cr):=(bk_byo HH.out.bk happ5.grown (Ne.symm (own_ne_bk HH.out.own.own HH.out.bk (by decide)))).cell 1)
 have hlen:(raw++[c]).length=raw.length+1:=by simp
 generalize w5.setCell ⟨g,1,none⟩ (.slice A5 (raw.length+1) c5)=w6 at *
 generalize blV (.slice A5 (raw.length+1) c5)++S=S1 at *
 have HH6:=hid hx5.1
 have HP6:=hid hx5.2
 clear hx5 hown5 happ5 f51 z51 z1
 have z1:w6.cell? ⟨g,1,none⟩=some (.slice A5 (raw.length+1) c5):=HH6.out.bk.cell 1
 go_upto_region 2 with (go_at_call 162;refine (HSF.out _ _ _ ((own_byts HH6.out.own.own).gr (Gr.al (Gr.refl w6) _)) (lit2_byts w6 13 10 _)).mono ?_;rintro e w7 ⟨rfl,hg7⟩)
 have hg7':Gr w6 w7:=Gr.tr (Gr.al (Gr.refl w6) (.cells #[byt 13,byt 10] 5 (2,3))) hg7
 have HH7:=hid (HH6.out.gr hg7')
 have HP7:=hid (HP6.out.gr hg7')
 have HLO9:=hid (fun k hk=>HH7.out.lo k hk)
 clear HH6 HP6 hg7 hg7' z1 HSF kc
 have z1:w7.cell? ⟨g,1,none⟩=some (.slice A5 (raw.length+1) c5):=HH7.out.bk.cell 1
 have z2:w7.cell? ⟨g,2,none⟩=some (.int .i64 ((linesL raw:Nat):Int)):=HH7.out.bk.cell 2
 have f2:w7.frozen? ⟨g,2,none⟩=false:=HH7.out.bk.free 2 (.inr (Nat.zero_le _))
 generalize endsB (raw++[c])=q at *
 generalize linesL raw=L at *
 generalize hL':linesL (raw++[c])=L' at *
 cases q with
 | false=>
   have hLL:L'=L:=by rw [HL.out,if_neg (by simp)]
   subst hLL
   by_cases hL:L'=0
   ·have dL:(((L':Nat):Int)==0)=true:=by simp;omega
    have dG:decide ((0:Int) < ((L':Nat):Int))=false:=decide_eq_false (by omega)
    by_cases h4:raw.length+1≤400
    ·have d4:decide ((400:Int) < (raw.length:Int)+1)=false:=decide_eq_false (by omega)
     have HX:=hid (HQ.out rfl (fun _=>h4))
     clear HQ
     go_upto_region 4 with fail
     go_quiet (fail)
     have hd:=Gr.drN (Gr.refl w7) nq
     go_wp2_with fail
     refine bodyPost_ret (results_none rfl _ _ _) rfl ?_
     refine ⟨rfl,S1,?_,HP7.out.gr hd⟩
     rw [HX.out]
     exact (HH7.out.gr hd).clr' hL' (byte_tell HX.out)
    ·have d4:decide ((400:Int) < (raw.length:Int)+1)=true:=decide_eq_true (by omega)
     clear HQ HL
     go_upto_region 4 with fail
     go_quiet (fail)
     have hd:=Gr.drN (Gr.refl w7) nq
     have HHT:=hid (HH7.out.gr hd)
     have HPT:=hid (HP7.out.gr hd)
     clear z1 z2 f2 hd
     generalize w7.drewN nq=wT at *
     go_upto_region 6 with fail
     have hgT:Gr W0 wT:=HPT.out.old HG.out HLO.out
     have z1T:wT.cell? ⟨g,1,none⟩=some (.slice A5 (raw.length+1) c5):=HHT.out.bk.cell 1
     have HT:=hid (tell_any (.slice A5 (raw.length+1) c5) (raw++[c]) wT (own_byts HHT.out.own.own) (HV.out.gr hgT).ml (by omega))
     go_upto_region 7 with (go_at_call 163;refine HT.out.mono ?_;rintro e w8 ⟨A8,c8,rfl,hF8,hg8,hFr8⟩)
     generalize hTT:tellR (raw++[c])=TT at *
     obtain ⟨⟨m8,o8,st8,fs8⟩,n8,e8⟩:=TT
     simp only at HB HFL hF8 hFr8 ⊢
     have HTE:=hid hTT
     clear hTT
     have hg9:Gr wT (w8.alloc (.cells #[str m8,str o8,.int .i64 st8,.slice A8 fs8.length c8] 123)):=Gr.al hg8 _
     have HH9:=hid (HHT.out.gr hg9)
     have HP9:=hid (HPT.out.gr hg9)
     have HG9:=hid (Gr.tr hgT hg9)
     have HF9:=hid (hF8.gr (Gr.al (Gr.refl w8) (.cells #[str m8,str o8,.int .i64 st8,.slice A8 fs8.length c8] 123)))
     have hgw:w.heap.size≤wT.heap.size:=HPT.out.kr.size
     have hfne:∀b,(Value.slice A8 fs8.length c8).ownBlock=some b→w.heap.size≤b:=fun b hb=>by have:=hFr8 b hb;omega
     have hgne:(Value.slice A8 fs8.length c8).ownBlock≠some g:=fun hb=>by have:=hFr8 g hb;have:=HHT.out.hi g HHT.out.g;omega
     have hbh:=Bk.new w8 123 #[str m8,str o8,.int .i64 st8,.slice A8 fs8.length c8] (0,0)
     clear HT hF8 hg8 hFr8 hg9 hgT z1T
     generalize w8.alloc (Obj.cells #[str m8,str o8,.int .i64 st8,.slice A8 fs8.length c8] 123)=w9 at *
     generalize w8.heap.size=gh at *
     by_cases e3:e8=3
     ·have HX:=hid (HB.out.trans (if_pos e3))
      subst e3
      go_wp2_with fail
      refine bodyPost_ret (results_none rfl _ _ _) rfl ?_
      refine ⟨rfl,S1,?_,HP9.out⟩
      rw [HX.out]
      exact HH9.out.clr' hL' (by rw [HTE.out])
     have d3:((e8:Int)==3)=false:=by simp;omega
     have HB:=hid (HB.out.trans (if_neg e3))
     clear e3
     by_cases e0:e8=0
     ·have HX:=hid (HB.out.trans (if_pos e0))
      subst e0
      have c0:w9.cell? ⟨gh,0,none⟩=some (str m8):=hbh.cell 0
      have c1:w9.cell? ⟨gh,1,none⟩=some (str o8):=hbh.cell 1
      have c2:w9.cell? ⟨gh,2,none⟩=some (.int .i64 st8):=hbh.cell 2
      have c3:w9.cell? ⟨gh,3,none⟩=some (.slice A8 fs8.length c8):=hbh.cell 3
      have HE:=hid (heed_any asked m8 o8 _ st8 fs8 A8 c8 _ w9 g (fun x hx=>HV.out.gr (gr_by HG9.out hx (HLO9.out g HH9.out.g))) HH9.out.bk HF9.out hgne HFL.out)
      have hiv:ClInv (heedR asked st8 fs8):=inv_heed
      clear hbh
      go_upto_region 12 with (go_at_call 164;refine HE.out.mono ?_;rintro e w10 ⟨rfl,hb10,hE10⟩)
      have HP10:=hid (HP9.out.tr ⟨(Kr.refl (Nat.le_refl _)).by hb10 (fun k hk=>by cases hk;exact .inl HH9.out.g),fun k hk=>.inl hk⟩)
      have hs10:=hb10.size
      have hs9:=HP9.out.kr.size
      have HF10:=hid (HF9.out.byo hb10 hgne)
      cases hh:heedR asked st8 fs8 with
      | head _=>rw [hh] at hE10;exact hE10.elim
      | bad1 _ _=>rw [hh] at hE10;exact hE10.elim
      | bad0=>
        rw [hh] at hE10 HX
        obtain ⟨rd,d0,d1,d2,d4,d5,d6,d7,d8,d9,d10,d11,d12,d13,d14,hB⟩:=hE10
        have z16:w10.cell? ⟨g,16,none⟩=some (.bool true):=hB.cell 16
        have z17:w10.cell? ⟨g,17,none⟩=some (.bool false):=hB.cell 17
        have f17:w10.frozen? ⟨g,17,none⟩=false:=hB.free 17 (.inr (Nat.zero_le _))
        have HBB:=hid hB
        clear hB hh hiv
        go_wp2_with fail
        go_end0
        refine ⟨rfl,S1,?_,HP10.out.st HH9.out.g 17 _⟩
        rw [HX.out]
        exact bad0_clr ⟨rd,d0,d1,d2,d4,d5,d6,d7,d8,d9,d10,d11,d12,d13,d14,HBB.out.set 17 (.bool true)⟩ HH9.out.g HH9.out.lo (fun k hk=>by have:=HH9.out.hi k hk;simp [World.setCell];omega)
      | body H fr b=>
        rw [hh] at hE10 HX
        obtain ⟨gf,gc,hB,hFA,hgf,hgc⟩:=hE10
        have hbn:b=[]:=heed_nil hh
        subst hbn
        have z16:w10.cell? ⟨g,16,none⟩=some (.bool false):=hB.cell 16
        have z17:w10.cell? ⟨g,17,none⟩=some (.bool false):=hB.cell 17
        have f17:w10.frozen? ⟨g,17,none⟩=false:=hB.free 17 (.inr (Nat.zero_le _))
        have HBB:=hid hB
        have HFA:=hid hFA
        have hi':BodyInv H fr []:=by rw [hh] at hiv;exact hiv
        have hfs:H.fs=fs8:=heed_fs hh
        clear hB hh hFA hiv
        go_wp2_with fail
        go_end0
        refine ⟨rfl,gf::gc::((if fs8=[] then [] else blV (.slice A8 fs8.length c8))++S1),?_,?_⟩
        ·rw [HX.out]
         have hgl9:=HH9.out.hi g HH9.out.g
         have hne1:gf≠g:=by omega
         have hne2:gc≠g:=by omega
         exact clr_body (HBB.out.set 17 (.bool false)) hfs (HF10.out.byo (by_st ((Gr.refl w10).by (some g)) 17 _) hgne) (HFA.out.by (by_st ((Gr.refl w10).by (some g)) 17 _) (by simpa using hne1) (by simpa using hne2)) HH9.out.g HH9.out.lo (fun k hk=>by have:=HH9.out.hi k hk;simp [World.setCell];omega) (fun k hk=>by have:=hfne k hk;have:=HG.out.size;omega) hgne (fun k h0 hk=>by have:=flds_lt HF9.out h0 hk;omega) (by have:=HG9.out.size;omega) (by have:=HG9.out.size;omega) hi'
        ·have h1:=HP10.out.st HH9.out.g 17 (.bool false)
         refine ⟨h1.kr,fun k hk=>?_⟩
         simp only [List.mem_cons,List.mem_append] at hk
         rcases hk with rfl | rfl | hk | hk
         ·right;omega
         ·right;omega
         ·split at hk
          ·cases hk
          ·exact .inr (hfne k (mem_blV.1 hk))
         ·exact h1.sub k hk
     have d0:((e8:Int)==0)=false:=by simp;omega
     have HX:=hid (HB.out.trans (if_neg e0))
     have z16:w9.cell? ⟨g,16,none⟩=some (.bool false):=HH9.out.bk.cell 16
     have f16:w9.frozen? ⟨g,16,none⟩=false:=HH9.out.bk.free 16 (.inr (Nat.zero_le _))
     have z17:w9.cell? ⟨g,17,none⟩=some (.bool false):=HH9.out.bk.cell 17
     have f17:w9.frozen? ⟨g,17,none⟩=false:=HH9.out.bk.free 17 (.inr (Nat.zero_le _))
     clear hbh e0 HB
     go_wp2_with fail
     go_end0
     refine ⟨rfl,S1,?_,(HP9.out.st HH9.out.g 16 _).st HH9.out.g 17 _⟩
     rw [HX.out]
     exact bad0_clr ⟨false,_,_,_,_,_,_,_,_,_,_,_,_,_,_,(HH9.out.bk.set 16 (.bool true)).set 17 (.bool true)⟩ HH9.out.g HH9.out.lo (fun k hk=>by have:=HH9.out.hi k hk;simp [World.setCell];omega)
   ·have dL:(((L':Nat):Int)==0)=false:=by simp;omega
    have dG:0 < L':=by omega
    have d6:decide ((65536:Int) < (raw.length:Int)+1-((L':Nat):Int))=false:=decide_eq_false (by omega)
    have HX:=hid (HQ.out rfl (fun h=>absurd h hL))
    clear HQ
    go_upto_region 4 with fail
    go_quiet (fail)
    have hd:=Gr.drN (Gr.refl w7) nq
    go_wp2_with fail
    refine bodyPost_ret (results_none rfl _ _ _) rfl ?_
    refine ⟨rfl,S1,?_,HP7.out.gr hd⟩
    rw [HX.out]
    exact (HH7.out.gr hd).clr' hL' (byte_tell HX.out)
 | true=>
   clear HQ
   by_cases hL:L=0
   ·have hLL:L'=raw.length+1:=by rw [HL.out,if_pos ⟨rfl,hL⟩]
    subst hL
    have d0:(((0:Nat):Int)==0)=true:=rfl
    have z2:w7.cell? ⟨g,2,none⟩=some (.int .i64 0):=z2
    have hx8:=HH7.out.line (raw.length+1)
    have dL:(((raw.length:Nat):Int)+1==0)=false:=by simp;omega
    have dG:decide ((0:Int) < ((raw.length:Nat):Int)+1)=true:=decide_eq_true (by omega)
    have d6:decide ((65536:Int) < ((raw.length:Nat):Int)+1-(((raw.length:Nat):Int)+1))=false:=decide_eq_false (by omega)
    clear HL
    go_upto_region 4 with fail
    have HH8:=hid (show HdAt W0 (w7.setCell ⟨g,2,none⟩ (.int .i64 (((raw.length:Nat):Int)+1))) g S1 asked (.slice A5 (raw.length+1) c5) (raw.length+1) (raw++[c]) from hx8.1)
    have HP8:=hid (show Stp w S (w7.setCell ⟨g,2,none⟩ (.int .i64 (((raw.length:Nat):Int)+1))) S1 from HP7.out.tr hx8.2)
    clear hx8 z1 z2 f2 HP7
    generalize w7.setCell ⟨g,2,none⟩ (.int .i64 (((raw.length:Nat):Int)+1))=w8 at *
    have z1:w8.cell? ⟨g,1,none⟩=some (.slice A5 (raw.length+1) c5):=HH8.out.bk.cell 1
    have z2:w8.cell? ⟨g,2,none⟩=some (.int .i64 (((raw.length:Nat):Int)+1)):=HH8.out.bk.cell 2
    have f2:True:=trivial
    subst hLL
    go_upto_region 4 with fail
    go_quiet (fail)
    have hd:=Gr.drN (Gr.refl w8) nq
    have HHT:=hid (HH8.out.gr hd)
    have HPT:=hid (HP8.out.gr hd)
    clear z1 z2 f2 hd
    generalize w8.drewN nq=wT at *
    go_upto_region 6 with fail
    have hgT:Gr W0 wT:=HPT.out.old HG.out HLO.out
    have z1T:wT.cell? ⟨g,1,none⟩=some (.slice A5 (raw.length+1) c5):=HHT.out.bk.cell 1
    have HT:=hid (tell_any (.slice A5 (raw.length+1) c5) (raw++[c]) wT (own_byts HHT.out.own.own) (HV.out.gr hgT).ml (by omega))
    go_upto_region 7 with (go_at_call 163;refine HT.out.mono ?_;rintro e w8 ⟨A8,c8,rfl,hF8,hg8,hFr8⟩)
    generalize hTT:tellR (raw++[c])=TT at *
    obtain ⟨⟨m8,o8,st8,fs8⟩,n8,e8⟩:=TT
    simp only at HB HFL hF8 hFr8 ⊢
    have HTE:=hid hTT
    clear hTT
    have hg9:Gr wT (w8.alloc (.cells #[str m8,str o8,.int .i64 st8,.slice A8 fs8.length c8] 123)):=Gr.al hg8 _
    have HH9:=hid (HHT.out.gr hg9)
    have HP9:=hid (HPT.out.gr hg9)
    have HG9:=hid (Gr.tr hgT hg9)
    have HF9:=hid (hF8.gr (Gr.al (Gr.refl w8) (.cells #[str m8,str o8,.int .i64 st8,.slice A8 fs8.length c8] 123)))
    have hgw:w.heap.size≤wT.heap.size:=HPT.out.kr.size
    have hfne:∀b,(Value.slice A8 fs8.length c8).ownBlock=some b→w.heap.size≤b:=fun b hb=>by have:=hFr8 b hb;omega
    have hgne:(Value.slice A8 fs8.length c8).ownBlock≠some g:=fun hb=>by have:=hFr8 g hb;have:=HHT.out.hi g HHT.out.g;omega
    have hbh:=Bk.new w8 123 #[str m8,str o8,.int .i64 st8,.slice A8 fs8.length c8] (0,0)
    clear HT hF8 hg8 hFr8 hg9 hgT z1T
    generalize w8.alloc (Obj.cells #[str m8,str o8,.int .i64 st8,.slice A8 fs8.length c8] 123)=w9 at *
    generalize w8.heap.size=gh at *
    by_cases e3:e8=3
    ·have HX:=hid (HB.out.trans (if_pos e3))
     subst e3
     go_wp2_with fail
     refine bodyPost_ret (results_none rfl _ _ _) rfl ?_
     refine ⟨rfl,S1,?_,HP9.out⟩
     rw [HX.out]
     exact HH9.out.clr' hL' (by rw [HTE.out])
    have d3:((e8:Int)==3)=false:=by simp;omega
    have HB:=hid (HB.out.trans (if_neg e3))
    clear e3
    by_cases e0:e8=0
    ·have HX:=hid (HB.out.trans (if_pos e0))
     subst e0
     have c0:w9.cell? ⟨gh,0,none⟩=some (str m8):=hbh.cell 0
     have c1:w9.cell? ⟨gh,1,none⟩=some (str o8):=hbh.cell 1
     have c2:w9.cell? ⟨gh,2,none⟩=some (.int .i64 st8):=hbh.cell 2
     have c3:w9.cell? ⟨gh,3,none⟩=some (.slice A8 fs8.length c8):=hbh.cell 3
     have HE:=hid (heed_any asked m8 o8 _ st8 fs8 A8 c8 _ w9 g (fun x hx=>HV.out.gr (gr_by HG9.out hx (HLO9.out g HH9.out.g))) HH9.out.bk HF9.out hgne HFL.out)
     have hiv:ClInv (heedR asked st8 fs8):=inv_heed
     clear hbh
     go_upto_region 12 with (go_at_call 164;refine HE.out.mono ?_;rintro e w10 ⟨rfl,hb10,hE10⟩)
     have HP10:=hid (HP9.out.tr ⟨(Kr.refl (Nat.le_refl _)).by hb10 (fun k hk=>by cases hk;exact .inl HH9.out.g),fun k hk=>.inl hk⟩)
     have hs10:=hb10.size
     have hs9:=HP9.out.kr.size
     have HF10:=hid (HF9.out.byo hb10 hgne)
     cases hh:heedR asked st8 fs8 with
     | head _=>rw [hh] at hE10;exact hE10.elim
     | bad1 _ _=>rw [hh] at hE10;exact hE10.elim
     | bad0=>
       rw [hh] at hE10 HX
       obtain ⟨rd,d0,d1,d2,d4,d5,d6,d7,d8,d9,d10,d11,d12,d13,d14,hB⟩:=hE10
       have z16:w10.cell? ⟨g,16,none⟩=some (.bool true):=hB.cell 16
       have z17:w10.cell? ⟨g,17,none⟩=some (.bool false):=hB.cell 17
       have f17:w10.frozen? ⟨g,17,none⟩=false:=hB.free 17 (.inr (Nat.zero_le _))
       have HBB:=hid hB
       clear hB hh hiv
       go_wp2_with fail
       go_end0
       refine ⟨rfl,S1,?_,HP10.out.st HH9.out.g 17 _⟩
       rw [HX.out]
       exact bad0_clr ⟨rd,d0,d1,d2,d4,d5,d6,d7,d8,d9,d10,d11,d12,d13,d14,HBB.out.set 17 (.bool true)⟩ HH9.out.g HH9.out.lo (fun k hk=>by have:=HH9.out.hi k hk;simp [World.setCell];omega)
     | body H fr b=>
       rw [hh] at hE10 HX
       obtain ⟨gf,gc,hB,hFA,hgf,hgc⟩:=hE10
       have hbn:b=[]:=heed_nil hh
       subst hbn
       have z16:w10.cell? ⟨g,16,none⟩=some (.bool false):=hB.cell 16
       have z17:w10.cell? ⟨g,17,none⟩=some (.bool false):=hB.cell 17
       have f17:w10.frozen? ⟨g,17,none⟩=false:=hB.free 17 (.inr (Nat.zero_le _))
       have HBB:=hid hB
       have HFA:=hid hFA
       have hi':BodyInv H fr []:=by rw [hh] at hiv;exact hiv
       have hfs:H.fs=fs8:=heed_fs hh
       clear hB hh hFA hiv
       go_wp2_with fail
       go_end0
       refine ⟨rfl,gf::gc::((if fs8=[] then [] else blV (.slice A8 fs8.length c8))++S1),?_,?_⟩
       ·rw [HX.out]
        have hgl9:=HH9.out.hi g HH9.out.g
        have hne1:gf≠g:=by omega
        have hne2:gc≠g:=by omega
        exact clr_body (HBB.out.set 17 (.bool false)) hfs (HF10.out.byo (by_st ((Gr.refl w10).by (some g)) 17 _) hgne) (HFA.out.by (by_st ((Gr.refl w10).by (some g)) 17 _) (by simpa using hne1) (by simpa using hne2)) HH9.out.g HH9.out.lo (fun k hk=>by have:=HH9.out.hi k hk;simp [World.setCell];omega) (fun k hk=>by have:=hfne k hk;have:=HG.out.size;omega) hgne (fun k h0 hk=>by have:=flds_lt HF9.out h0 hk;omega) (by have:=HG9.out.size;omega) (by have:=HG9.out.size;omega) hi'
       ·have h1:=HP10.out.st HH9.out.g 17 (.bool false)
        refine ⟨h1.kr,fun k hk=>?_⟩
        simp only [List.mem_cons,List.mem_append] at hk
        rcases hk with rfl | rfl | hk | hk
        ·right;omega
        ·right;omega
        ·split at hk
         ·cases hk
         ·exact .inr (hfne k (mem_blV.1 hk))
        ·exact h1.sub k hk
    have d0:((e8:Int)==0)=false:=by simp;omega
    have HX:=hid (HB.out.trans (if_neg e0))
    have z16:w9.cell? ⟨g,16,none⟩=some (.bool false):=HH9.out.bk.cell 16
    have f16:w9.frozen? ⟨g,16,none⟩=false:=HH9.out.bk.free 16 (.inr (Nat.zero_le _))
    have z17:w9.cell? ⟨g,17,none⟩=some (.bool false):=HH9.out.bk.cell 17
    have f17:w9.frozen? ⟨g,17,none⟩=false:=HH9.out.bk.free 17 (.inr (Nat.zero_le _))
    clear hbh e0 HB
    go_wp2_with fail
    go_end0
    refine ⟨rfl,S1,?_,(HP9.out.st HH9.out.g 16 _).st HH9.out.g 17 _⟩
    rw [HX.out]
    exact bad0_clr ⟨false,_,_,_,_,_,_,_,_,_,_,_,_,_,_,(HH9.out.bk.set 16 (.bool true)).set 17 (.bool true)⟩ HH9.out.g HH9.out.lo (fun k hk=>by have:=HH9.out.hi k hk;simp [World.setCell];omega)
   ·have hLL:L'=L:=by rw [HL.out,if_neg (fun h=>hL h.2)]
    subst hLL
    have dL:(((L':Nat):Int)==0)=false:=by simp;omega
    have dG:0 < L':=by omega
    have d6:decide ((65536:Int) < (raw.length:Int)+1-((L':Nat):Int))=false:=decide_eq_false (by omega)
    clear HL
    go_upto_region 4 with fail
    go_quiet (fail)
    have hd:=Gr.drN (Gr.refl w7) nq
    have HHT:=hid (HH7.out.gr hd)
    have HPT:=hid (HP7.out.gr hd)
    clear z1 z2 f2 hd
    generalize w7.drewN nq=wT at *
    go_upto_region 6 with fail
    have hgT:Gr W0 wT:=HPT.out.old HG.out HLO.out
    have z1T:wT.cell? ⟨g,1,none⟩=some (.slice A5 (raw.length+1) c5):=HHT.out.bk.cell 1
    have HT:=hid (tell_any (.slice A5 (raw.length+1) c5) (raw++[c]) wT (own_byts HHT.out.own.own) (HV.out.gr hgT).ml (by omega))
    go_upto_region 7 with (go_at_call 163;refine HT.out.mono ?_;rintro e w8 ⟨A8,c8,rfl,hF8,hg8,hFr8⟩)
    generalize hTT:tellR (raw++[c])=TT at *
    obtain ⟨⟨m8,o8,st8,fs8⟩,n8,e8⟩:=TT
    simp only at HB HFL hF8 hFr8 ⊢
    have HTE:=hid hTT
    clear hTT
    have hg9:Gr wT (w8.alloc (.cells #[str m8,str o8,.int .i64 st8,.slice A8 fs8.length c8] 123)):=Gr.al hg8 _
    have HH9:=hid (HHT.out.gr hg9)
    have HP9:=hid (HPT.out.gr hg9)
    have HG9:=hid (Gr.tr hgT hg9)
    have HF9:=hid (hF8.gr (Gr.al (Gr.refl w8) (.cells #[str m8,str o8,.int .i64 st8,.slice A8 fs8.length c8] 123)))
    have hgw:w.heap.size≤wT.heap.size:=HPT.out.kr.size
    have hfne:∀b,(Value.slice A8 fs8.length c8).ownBlock=some b→w.heap.size≤b:=fun b hb=>by have:=hFr8 b hb;omega
    have hgne:(Value.slice A8 fs8.length c8).ownBlock≠some g:=fun hb=>by have:=hFr8 g hb;have:=HHT.out.hi g HHT.out.g;omega
    have hbh:=Bk.new w8 123 #[str m8,str o8,.int .i64 st8,.slice A8 fs8.length c8] (0,0)
    clear HT hF8 hg8 hFr8 hg9 hgT z1T
    generalize w8.alloc (Obj.cells #[str m8,str o8,.int .i64 st8,.slice A8 fs8.length c8] 123)=w9 at *
    generalize w8.heap.size=gh at *
    by_cases e3:e8=3
    ·have HX:=hid (HB.out.trans (if_pos e3))
     subst e3
     go_wp2_with fail
     refine bodyPost_ret (results_none rfl _ _ _) rfl ?_
     refine ⟨rfl,S1,?_,HP9.out⟩
     rw [HX.out]
     exact HH9.out.clr' hL' (by rw [HTE.out])
    have d3:((e8:Int)==3)=false:=by simp;omega
    have HB:=hid (HB.out.trans (if_neg e3))
    clear e3
    by_cases e0:e8=0
    ·have HX:=hid (HB.out.trans (if_pos e0))
     subst e0
     have c0:w9.cell? ⟨gh,0,none⟩=some (str m8):=hbh.cell 0
     have c1:w9.cell? ⟨gh,1,none⟩=some (str o8):=hbh.cell 1
     have c2:w9.cell? ⟨gh,2,none⟩=some (.int .i64 st8):=hbh.cell 2
     have c3:w9.cell? ⟨gh,3,none⟩=some (.slice A8 fs8.length c8):=hbh.cell 3
     have HE:=hid (heed_any asked m8 o8 _ st8 fs8 A8 c8 _ w9 g (fun x hx=>HV.out.gr (gr_by HG9.out hx (HLO9.out g HH9.out.g))) HH9.out.bk HF9.out hgne HFL.out)
     have hiv:ClInv (heedR asked st8 fs8):=inv_heed
     clear hbh
     go_upto_region 12 with (go_at_call 164;refine HE.out.mono ?_;rintro e w10 ⟨rfl,hb10,hE10⟩)
     have HP10:=hid (HP9.out.tr ⟨(Kr.refl (Nat.le_refl _)).by hb10 (fun k hk=>by cases hk;exact .inl HH9.out.g),fun k hk=>.inl hk⟩)
     have hs10:=hb10.size
     have hs9:=HP9.out.kr.size
     have HF10:=hid (HF9.out.byo hb10 hgne)
     cases hh:heedR asked st8 fs8 with
     | head _=>rw [hh] at hE10;exact hE10.elim
     | bad1 _ _=>rw [hh] at hE10;exact hE10.elim
     | bad0=>
       rw [hh] at hE10 HX
       obtain ⟨rd,d0,d1,d2,d4,d5,d6,d7,d8,d9,d10,d11,d12,d13,d14,hB⟩:=hE10
       have z16:w10.cell? ⟨g,16,none⟩=some (.bool true):=hB.cell 16
       have z17:w10.cell? ⟨g,17,none⟩=some (.bool false):=hB.cell 17
       have f17:w10.frozen? ⟨g,17,none⟩=false:=hB.free 17 (.inr (Nat.zero_le _))
       have HBB:=hid hB
       clear hB hh hiv
       go_wp2_with fail
       go_end0
       refine ⟨rfl,S1,?_,HP10.out.st HH9.out.g 17 _⟩
       rw [HX.out]
       exact bad0_clr ⟨rd,d0,d1,d2,d4,d5,d6,d7,d8,d9,d10,d11,d12,d13,d14,HBB.out.set 17 (.bool true)⟩ HH9.out.g HH9.out.lo (fun k hk=>by have:=HH9.out.hi k hk;simp [World.setCell];omega)
     | body H fr b=>
       rw [hh] at hE10 HX
       obtain ⟨gf,gc,hB,hFA,hgf,hgc⟩:=hE10
       have hbn:b=[]:=heed_nil hh
       subst hbn
       have z16:w10.cell? ⟨g,16,none⟩=some (.bool false):=hB.cell 16
       have z17:w10.cell? ⟨g,17,none⟩=some (.bool false):=hB.cell 17
       have f17:w10.frozen? ⟨g,17,none⟩=false:=hB.free 17 (.inr (Nat.zero_le _))
       have HBB:=hid hB
       have HFA:=hid hFA
       have hi':BodyInv H fr []:=by rw [hh] at hiv;exact hiv
       have hfs:H.fs=fs8:=heed_fs hh
       clear hB hh hFA hiv
       go_wp2_with fail
       go_end0
       refine ⟨rfl,gf::gc::((if fs8=[] then [] else blV (.slice A8 fs8.length c8))++S1),?_,?_⟩
       ·rw [HX.out]
        have hgl9:=HH9.out.hi g HH9.out.g
        have hne1:gf≠g:=by omega
        have hne2:gc≠g:=by omega
        exact clr_body (HBB.out.set 17 (.bool false)) hfs (HF10.out.byo (by_st ((Gr.refl w10).by (some g)) 17 _) hgne) (HFA.out.by (by_st ((Gr.refl w10).by (some g)) 17 _) (by simpa using hne1) (by simpa using hne2)) HH9.out.g HH9.out.lo (fun k hk=>by have:=HH9.out.hi k hk;simp [World.setCell];omega) (fun k hk=>by have:=hfne k hk;have:=HG.out.size;omega) hgne (fun k h0 hk=>by have:=flds_lt HF9.out h0 hk;omega) (by have:=HG9.out.size;omega) (by have:=HG9.out.size;omega) hi'
       ·have h1:=HP10.out.st HH9.out.g 17 (.bool false)
        refine ⟨h1.kr,fun k hk=>?_⟩
        simp only [List.mem_cons,List.mem_append] at hk
        rcases hk with rfl | rfl | hk | hk
        ·right;omega
        ·right;omega
        ·split at hk
         ·cases hk
         ·exact .inr (hfne k (mem_blV.1 hk))
        ·exact h1.sub k hk
    have d0:((e8:Int)==0)=false:=by simp;omega
    have HX:=hid (HB.out.trans (if_neg e0))
    have z16:w9.cell? ⟨g,16,none⟩=some (.bool false):=HH9.out.bk.cell 16
    have f16:w9.frozen? ⟨g,16,none⟩=false:=HH9.out.bk.free 16 (.inr (Nat.zero_le _))
    have z17:w9.cell? ⟨g,17,none⟩=some (.bool false):=HH9.out.bk.cell 17
    have f17:w9.frozen? ⟨g,17,none⟩=false:=HH9.out.bk.free 17 (.inr (Nat.zero_le _))
    clear hbh e0 HB
    go_wp2_with fail
    go_end0
    refine ⟨rfl,S1,?_,(HP9.out.st HH9.out.g 16 _).st HH9.out.g 17 _⟩
    rw [HX.out]
    exact bad0_clr ⟨false,_,_,_,_,_,_,_,_,_,_,_,_,_,_,(HH9.out.bk.set 16 (.bool true)).set 17 (.bool true)⟩ HH9.out.g HH9.out.lo (fun k hk=>by have:=HH9.out.hi k hk;simp [World.setCell];omega)
end Go.Proofs.YtflepnkpihfidaaGreatDoor
