/- Parts. No conditions but those that each theorem names. -/
import Derived.Test.YtflepnkpihfidaaGreatDoorJClA
import Derived.Lib.SliceRun
set_option linter.unusedVariables false
set_option linter.unusedSimpArgs false
set_option maxHeartbeats 64000000
set_option maxRecDepth 100000
namespace Go.Proofs.YtflepnkpihfidaaGreatDoor
open Lib (hid)
def pieceC (h:ClH) (l:List UInt8):List UInt8:=if h.kind=2 then l.take 1 else l
theorem pieceC_le (h:ClH) (l:List UInt8):(pieceC h l).length≤l.length:=by unfold pieceC;split <;> simp;omega
def overC (h:ClH) (b d:List UInt8):Prop:=h.tells=2∧h.til-h.fro-(b.length:Int) < (d.length:Int)
instance (h:ClH) (b d:List UInt8):Decidable (overC h b d):=by unfold overC;infer_instance
theorem ckTake_one {s:CkT} (c:UInt8) (h9:s.pos≠9) (ho:(ckTake s [c]).2.2.2=true):(ckTake s [c]).2.1=1∧(ckTake s [c]).1.length≤1:=by
 by_cases h3:s.pos=3
 ·rw [ckTake_data1 h3];exact ⟨rfl,by simp [ckTake]⟩
 ·cases hs:(ckStep s c).2 with
  | true=>rw [ckTake_step h9 h3 hs];exact ⟨rfl,by simp [ckTake]⟩
  | false=>rw [ckTake_bad h9 h3 hs] at ho;cases ho
structure StepC (asked:List UInt8) (h:ClH) (fr:FrT) (b l:List UInt8) (R:List UInt8×Nat×Nat×FrT):Prop where
 bad:R.2.2.1≠0→l.foldl (clByte asked) (.body h fr b)=.bad1 h b
 n1:R.2.2.1=0→1≤R.2.1∧R.2.1≤l.length∧R.1.length≤l.length
 fits:R.2.2.1=0→¬overC h b R.1→BodyInv h R.2.2.2 (b++R.1)∧l.foldl (clByte asked) (.body h fr b)=(l.drop R.2.1).foldl (clByte asked) (.body h R.2.2.2 (b++R.1))
 over:R.2.2.1=0→overC h b R.1→l.foldl (clByte asked) (.body h fr b)=(l.drop R.2.1).foldl (clByte asked) (.bad1 h (b++R.1.take (h.til-h.fro-b.length).toNat))
theorem body_step (asked:List UInt8) {h:ClH} {fr:FrT} {b l:List UInt8} (i:BodyInv h fr b) (hd:frDone fr=false) (hl:l≠[]):StepC asked h fr b l (frTk fr (pieceC h l)):=by
 have hpos:1≤l.length:=by cases l with
  | nil=>exact absurd rfl hl
  | cons _ _=>simp
 obtain h1 | h2 | h3 | h4:h.kind=1∨h.kind=2∨h.kind=3∨h.kind=4:=by have:=i.k1;have:=i.k4;omega
 ·have hp:pieceC h l=l:=by unfold pieceC;rw [if_neg (by omega)]
  rw [hp]
  have hR:frTk fr l=(l.take (min fr.left l.length),min fr.left l.length,0,⟨1,fr.left-min fr.left l.length,fr.ck,fr.bad,false⟩):=by
   unfold frTk;rw [i.ended];simp only [Bool.false_eq_true,if_false];rw [if_pos (by rw [i.kind];exact h1)]
  obtain ⟨m,hm⟩:∃m,m=min fr.left l.length:=⟨_,rfl⟩
  rw [←hm] at hR
  rw [hR]
  have hleft:1≤fr.left:=by
   unfold frDone at hd
   rw [if_pos (by rw [i.kind];exact h1)] at hd
   have:fr.left≠0:=by simpa using hd
   omega
  have hlen:(l.take m).length=m:=by rw [List.length_take];omega
  have hsum:=i.sum h1
  have hno:¬overC h b (l.take m):=by
   rintro ⟨t2,t3⟩
   have:=i.one h1 t2
   rw [hlen] at t3
   omega
  have hf:l.foldl (clByte asked) (.body h fr b)=(l.drop m).foldl (clByte asked) (.body h ⟨1,fr.left-m,fr.ck,fr.bad,false⟩ (b++l.take m)):=by
   have h5:=fold_fixed asked (l.take m) b i h1 (by rw [hlen];omega)
   rw [hlen] at h5
   conv=>lhs;rw [←List.take_append_drop m l]
   rw [List.foldl_append,h5]
  refine ⟨fun h=>absurd rfl h,fun _=>⟨by simp only;omega,by simp only;omega,by simp only;omega⟩,fun _ _=>⟨?_,hf⟩,fun _ ho=>absurd ho hno⟩
  have h5:=fold_fixed asked (l.take m) b i h1 (by rw [hlen];omega)
  rw [hlen] at h5
  have h6:=inv_fold (asked:=asked) (l:=l.take m) (s:=.body h fr b) i
  rw [h5] at h6
  exact h6
 ·obtain ⟨c,t,rfl⟩:∃c t,l=c::t:=by cases l with
   | nil=>exact absurd rfl hl
   | cons c t=>exact ⟨c,t,rfl⟩
  have hp:pieceC h (c::t)=[c]:=by unfold pieceC;rw [if_pos h2];rfl
  rw [hp]
  have hf:(c::t).foldl (clByte asked) (.body h fr b)=t.foldl (clByte asked) (bodyB1 h fr b c):=rfl
  have h9:fr.ck.pos≠9:=by
   unfold frDone at hd
   rw [if_neg (by rw [i.kind];omega),if_pos (by rw [i.kind];exact h2),i.bad] at hd
   simpa using hd
  have hR:frTk fr [c]=(if (ckTake fr.ck [c]).2.2.2 then (ckTake fr.ck [c]).1 else [],(ckTake fr.ck [c]).2.1,if (ckTake fr.ck [c]).2.2.2 then 0 else 2,⟨2,fr.left,(ckTake fr.ck [c]).2.2.1,!(ckTake fr.ck [c]).2.2.2,false⟩):=by
   unfold frTk;rw [i.ended];simp only [Bool.false_eq_true,if_false];rw [if_neg (by rw [i.kind];omega),if_pos (by rw [i.kind];exact h2)]
  have hB:bodyB1 h fr b c=if (frTk fr [c]).2.2.1≠0 then .bad1 h b else if h.tells=2∧h.til-h.fro < (b.length:Int)+((frTk fr [c]).1.length:Int) then .bad1 h b else .body h (frTk fr [c]).2.2.2 (b++(frTk fr [c]).1):=by
   unfold bodyB1;rw [hd];simp only [Bool.false_eq_true,if_false]
  have hone:(frTk fr [c]).2.2.1=0→(frTk fr [c]).2.1=1∧(frTk fr [c]).1.length≤1:=by
   rw [hR]
   cases ho:(ckTake fr.ck [c]).2.2.2 with
   | false=>simp
   | true=>intro _;exact ckTake_one c h9 ho
  have hi:=inv_body1 i c
  generalize frTk fr [c]=R at *
  refine ⟨fun he=>?_,fun he=>?_,fun he ho=>?_,fun he ho=>?_⟩
  ·rw [hf,hB,if_pos he,fold_bad1]
  ·have:=hone he
   simp only [List.length_cons];omega
  ·have hno:¬(h.tells=2∧h.til-h.fro < (b.length:Int)+(R.1.length:Int)):=fun hh=>ho ⟨hh.1,by have:=hh.2;omega⟩
   have hB2:bodyB1 h fr b c=.body h R.2.2.2 (b++R.1):=by rw [hB,if_neg (by simp [he]),if_neg hno]
   rw [hB2] at hi
   refine ⟨hi,?_⟩
   rw [hf,hB2,(hone he).1];rfl
  ·have hov:h.tells=2∧h.til-h.fro < (b.length:Int)+(R.1.length:Int):=⟨ho.1,by have:=ho.2;omega⟩
   have hB2:bodyB1 h fr b c=.bad1 h b:=by rw [hB,if_neg (by simp [he]),if_pos hov]
   have hroom:=i.room ho.1
   have hd1:=(hone he).2
   have hz:(h.til-h.fro-(b.length:Int)).toNat=0:=by have:=ho.2;omega
   rw [hf,hB2,(hone he).1,hz,List.take_zero,List.append_nil];rfl
 ·have hp:pieceC h l=l:=by unfold pieceC;rw [if_neg (by omega)]
  rw [hp]
  have hR:frTk fr l=(l,l.length,0,fr):=by
   unfold frTk;rw [i.ended];simp only [Bool.false_eq_true,if_false];rw [if_neg (by rw [i.kind];omega),if_neg (by rw [i.kind];omega),if_pos (by rw [i.kind];exact h3)]
  rw [hR]
  refine ⟨fun h=>absurd rfl h,fun _=>⟨hpos,Nat.le_refl _,Nat.le_refl _⟩,fun _ ho=>?_,fun _ ho=>?_⟩
  ·have hr:h.tells=2→(b.length:Int)+l.length≤h.til-h.fro:=fun t2=>by
    have:¬(h.til-h.fro-(b.length:Int) < (l.length:Int)):=fun t3=>ho ⟨t2,t3⟩
    omega
   have h5:=fold_close asked l b i h3 hr
   have h6:=inv_fold (asked:=asked) (l:=l) (s:=.body h fr b) i
   rw [h5] at h6
   refine ⟨h6,?_⟩
   simp only [List.drop_length,List.foldl_nil]
   exact h5
  ·have h5:=fold_over asked (l:=l) i h3 ho.1 (by have:=ho.2;simp only at this;omega)
   simp only [List.drop_length,List.foldl_nil]
   exact h5
 ·exfalso
  unfold frDone at hd
  rw [if_neg (by rw [i.kind];omega),if_neg (by rw [i.kind];omega),if_neg (by rw [i.kind];omega)] at hd
  cases hd
end Go.Proofs.YtflepnkpihfidaaGreatDoor
namespace Go.Proofs.YtflepnkpihfidaaGreatDoor
open Lib (hid)
open Go.RowKit
def BodyEnd (W0 w:World) (g N:Nat) (S:List Nat) (asked:List UInt8) (s:ClS) (l:List UInt8) (e:Ending) (w':World):Prop:=
 ∃(v':Value) (l':List UInt8) (s':ClS) (S':List Nat),e=.returned v'∧BytsF N S' w' v' l'∧ClR W0 w' g S' asked false false s'∧Stp w S w' S'∧l.foldl (clByte asked) s=l'.foldl (clByte asked) s'∧l'.length < l.length∧∀raw,s'≠.head raw
theorem BodyAt.wrong {W0 w:World} {g:Nat} {S:List Nat} {asked:List UInt8} {ln:Nat} {h:ClH} {fv fp bv:Value} {b:List UInt8} (i:BodyAt W0 w g S asked ln h fv fp bv b false false false):BodyAt W0 (w.setCell ⟨g,16,none⟩ (.bool true)) g S asked ln h fv fp bv b true false false:=
 ⟨i.bk.set 16 (.bool true),⟨i.fs.1.st i.fg 16 _,i.fs.2⟩,⟨own_kr i.own.own (by_st ((Gr.refl w).by (some g)) 16 _) (.inr (own_ne_bk i.own.own i.bk (by decide))),i.own.mem⟩,i.fg,i.fb⟩
theorem body_bad {W0 w:World} {g:Nat} {S:List Nat} {asked:List UInt8} {ln:Nat} {H:ClH} {fr:FrT} {fv fp bv:Value} {b:List UInt8} (hb:BodyAt W0 w g S asked ln H fv fp bv b false false false) (hi:BodyInv H fr b) (hg:g∈S) (lo:∀k∈S,W0.heap.size≤k) (hh:∀k∈S,k < w.heap.size):ClR W0 (w.setCell ⟨g,16,none⟩ (.bool true)) g S asked false false (.bad1 H b)∧Stp w S (w.setCell ⟨g,16,none⟩ (.bool true)) S:=by
 have hne:=own_ne_bk hb.own.own hb.bk (by decide)
 have hs:(w.setCell ⟨g,16,none⟩ (.bool true)).heap.size=w.heap.size:=by simp [World.setCell]
 refine ⟨⟨⟨rfl,ln,fv,fp,bv,hb.bk.set 16 (.bool true),⟨?_,hb.fs.2⟩,⟨own_kr hb.own.own (by_st ((Gr.refl w).by (some g)) 16 _) (.inr hne),hb.own.mem⟩,hb.fg,hb.fb⟩,hg,lo,fun k hk=>by rw [hs];exact hh k hk,hi.hd,hi.room⟩,(Stp.refl w S).st hg 16 _⟩
 exact hb.fs.1.st hb.fg 16 _
theorem wpList_slHiB {ops:Array Oper} {rest:List Oper} {o:Oper} {a:Act} {Q:Exit→Act→World→Prop} {w:World} {A:Option Addr} {n c:Nat} {l:List UInt8} {kd:IntKind} {k:Int} (x y:Operand) (hgd:o.guard=none) (ho:o.op=.slice 30 x none (some y) none) (hx:a.eval x=.slice A n c) (hy:a.eval y=.int kd k)
  (hb:Byts w (.slice A n c) l) (hk0:0≤k) (hk:k≤l.length)
  (h:∀A2,Byts w (.slice A2 k.toNat c) (l.take k.toNat)→(Value.slice A2 k.toNat c).ownBlock=(Value.slice A n c).ownBlock→wpList Tryz.prog ops Q rest (a.put o.dst (.slice A2 k.toNat c)) w):wpList Tryz.prog ops Q (o::rest) a w:=by
 obtain ⟨rfl,hc⟩:=hb.len
 obtain ⟨A2,e,h2⟩:=hb.sliced 0 k.toNat c (Nat.zero_le _) (by omega) (by omega) (Nat.le_refl _)
 simp only [Nat.sub_zero,List.drop_zero] at h2 e
 refine wpList_run hgd ?_ (h A2 h2 (by rw [←e];exact sliced_own ..))
 unfold execOp
 simp only [ho,hx,hy,Option.map_some,Option.map_none,Sem.run_bind,run_sliceAt_slice w _ _ _ _ _ elemT,run_slice_h w _ _ _ _ elemT kd k hk0 (show k≤(c:Int) by omega),sizeByte,Result.andThen_ok,Sem.run_pure,e]
theorem bk_ne {w:World} {g g':Nat} {t t':TypeId} {cs cs':Array Value} {fr fr':Nat×Nat} (h:Bk w g t cs fr) (h':Bk w g' t' cs' fr') (ht:t≠t'):g≠g':=fun e=>by
 subst e
 unfold Bk at h h'
 rw [h] at h'
 injection h' with k
 injection k with _ k _
 exact ht k
theorem flds_blk {w w':World} {v:Value} {fs:List Fld} (h:Flds w v fs) (hs:w.heap.size≤w'.heap.size) (hk:fs=[]∨∀b,v.ownBlock=some b→b < w.heap.size→w'.heap[b]?=w.heap[b]?):Flds w' v fs:=by
 obtain ⟨A,c,rfl,hc,hm,ho⟩:=h
 refine ⟨A,c,rfl,hc,hm,?_⟩
 rcases ho with ho | ⟨b,o,rfl,hb,hj⟩
 ·exact .inl ho
 ·rcases hk with hk | hk
  ·exact .inl (by rw [hk];rfl)
  ·refine .inr ⟨b,o,rfl,Nat.lt_of_lt_of_le hb hs,fun j u hu=>?_⟩
   rw [World.cell?_of_block (hk b rfl hb)];exact hj j u hu
theorem BodyAt.frame {W0 w w':World} {g gf gc:Nat} {S:List Nat} {asked:List UInt8} {ln:Nat} {h:ClH} {fv fp bv:Value} {b:List UInt8} {wr en wh:Bool} {fr:FrT} (i:BodyAt W0 w g S asked ln h fv fp bv b wr en wh) (hFA:FrAt w gf gc fr) (hfd:h.fs=[]∨(fv.ownBlock≠some gf∧fv.ownBlock≠some gc)) (k:Kr [gf,gc] w.heap.size w w'):BodyAt W0 w' g S asked ln h fv fp bv b wr en wh:=by
 have h1:=bk_ne i.bk hFA.fr (by decide)
 have h2:=bk_ne i.bk hFA.ck (by decide)
 have h3:=own_ne_bk i.own.own hFA.fr (by decide)
 have h4:=own_ne_bk i.own.own hFA.ck (by decide)
 refine ⟨i.bk.blk (k.block g i.bk.lt (by simp [h1,h2])),⟨flds_blk i.fs.1 k.size ?_,i.fs.2⟩,⟨own_blk i.own.own fun j hj=>?_,i.own.mem⟩,i.fg,i.fb⟩
 ·rcases hfd with h | ⟨h,h'⟩
  ·exact .inl h
  ·refine .inr fun j hj hjl=>k.block j hjl ?_
   simp only [List.mem_cons,List.not_mem_nil,or_false,not_or]
   exact ⟨fun e=>h (e▸hj),fun e=>h' (e▸hj)⟩
 ·refine k.block j (World.ownsRow.lt i.own.own j hj).2 ?_
  simp only [List.mem_cons,List.not_mem_nil,or_false,not_or]
  exact ⟨fun e=>h3 (e▸hj),fun e=>h4 (e▸hj)⟩
theorem BodyAt.app {W0 w w4:World} {g:Nat} {S:List Nat} {asked:List UInt8} {ln:Nat} {h:ClH} {fv fp bv v4:Value} {b d:List UInt8} {wr:Bool} (i:BodyAt W0 w g S asked ln h fv fp bv b wr false false) (hg:g∈S) (lo:∀k∈S,W0.heap.size≤k) (hi:∀k∈S,k < w.heap.size)
  (ho:Own W0 w4 5 1 v4 (b.length+d.length) (b.map byt++d.map byt)) (ha:App bv v4 w w4) :
  BodyAt W0 (w4.setCell ⟨g,15,none⟩ v4) g (blV v4++S) asked ln h fv fp v4 (b++d) wr false false∧Stp w S (w4.setCell ⟨g,15,none⟩ v4) (blV v4++S)∧(∀k∈blV v4++S,W0.heap.size≤k)∧(∀k∈blV v4++S,k < (w4.setCell ⟨g,15,none⟩ v4).heap.size):=by
 have hne:=own_ne_bk i.own.own i.bk (by decide)
 have hb4:Bk w4 g 165 (bdCs asked ln h fv fp bv wr false false) (0,0):=bk_byo i.bk ha.grown (Ne.symm hne)
 have ho':Own W0 w4 5 1 v4 (b++d).length ((b++d).map byt):=by
  rw [List.length_append,List.map_append];exact ho
 have hne':=own_ne_bk ho' hb4 (by decide)
 have hk4:Kr S w.heap.size w w4:=(Kr.refl (Nat.le_refl _)).by ha.grown (fun k e=>.inl (i.own.mem k e))
 have hs:(w4.setCell ⟨g,15,none⟩ v4).heap.size=w4.heap.size:=by simp [World.setCell]
 have hnew:∀k∈blV v4,k∈S∨w.heap.size≤k:=fun k hk=>by
  rw [mem_blV] at hk
  rcases ha.at_ with h1 | ⟨b,h1,h2⟩
  ·exact .inl (i.own.mem k (h1▸hk))
  ·rw [hk] at h1;injection h1 with h1;subst h1;exact .inr h2
 have hf4:Flds w4 fv h.fs:=flds_blk i.fs.1 ha.grown.size (by
  rcases i.fb with h0 | h0 | h0
  ·exact .inl h0
  ·exact .inr fun j hj hjl=>ha.grown.block j hjl (by rw [h0];simp)
  ·exact .inr fun j hj hjl=>ha.grown.block j hjl (fun e=>h0 (hj.trans e)))
 refine ⟨⟨hb4.set 15 v4,⟨hf4.st i.fg 15 v4,i.fs.2.imp id fun hh j hj=>List.mem_append_right _ (hh j hj)⟩,⟨own_kr ho' (by_st ((Gr.refl w4).by (some g)) 15 v4) (.inr hne'),fun j hj=>List.mem_append_left _ (mem_blV.2 hj)⟩,i.fg,?_⟩,⟨hk4.set (.inl hg) 15 v4,fun k hk=>?_⟩,fun k hk=>?_,fun k hk=>?_⟩
 ·by_cases h0:h.fs=[]
  ·exact .inl h0
  ·right
   rcases ha.at_ with h1 | ⟨j,h1,h2⟩
   ·rw [h1]
    rcases i.fb with h3 | h3
    ·exact absurd h3 h0
    ·exact h3
   ·right
    rw [h1]
    intro e
    have:=flds_lt i.fs.1 h0 e
    omega
 ·rcases List.mem_append.1 hk with hk | hk
  ·exact hnew k hk
  ·exact .inl hk
 ·rcases List.mem_append.1 hk with hk | hk
  ·exact (World.ownsRow.lt ho' k (mem_blV.1 hk)).1
  ·exact lo k hk
 ·rw [hs]
  rcases List.mem_append.1 hk with hk | hk
  ·exact (World.ownsRow.lt ho' k (mem_blV.1 hk)).2
  ·exact Nat.lt_of_lt_of_le (hi k hk) ha.grown.size
theorem bodyBytes_any (W0 w:World) (g N:Nat) (S:List Nat) (asked:List UInt8) (H:ClH) (fr:FrT) (b l:List UInt8) (u:Value) (hR:ClR W0 w g S asked false false (.body H fr b)) (hG:Gr W0 w) (hu:BytsF N S w u l) (hN:N≤w.heap.size) (hl:l≠[]) (hbl:b.length+l.length≤200000) :
  Calls Tryz.prog 94 #[.pointer (some ⟨g,0,none⟩),u] w (BodyEnd W0 w g N S asked (.body H fr b) l):=by
 obtain ⟨⟨ln,fv,bv,gf,gc,hB,hFr⟩,hgS,hlo,hhi,hinv⟩:=hR
 obtain ⟨hFA,hgfS,hgcS,hfvd⟩:=hFr rfl
 have hinv:BodyInv H fr b:=hinv
 obtain ⟨Ab,cb,rfl⟩:=hB.own.own.form
 obtain ⟨A,c,rfl,hc,hm,-⟩:=id hu.1.open
 have hpos:0 < l.length:=by cases l with
  | nil=>exact absurd rfl hl
  | cons _ _=>simp
 have z8:w.cell? ⟨g,8,none⟩=some (.int .i64 (H.kind:Nat)):=hB.bk.cell 8
 have z10:w.cell? ⟨g,10,none⟩=some (.pointer (some ⟨gf,0,none⟩)):=hB.bk.cell 10
 have HBD:=hid hB
 have HFA:=hid hFA
 have HI:=hid hinv
 have HU:=hid hu
 have HLO:=hid hlo
 have HHI:=hid hhi
 have HGS:=hid hgS
 have HD:=hid (frDone_any fr w gf gc hFA (by rw [hinv.kind];exact ⟨hinv.k1,hinv.k4⟩))
 have hk1:=hinv.k1
 have hk4:=hinv.k4
 cases hd:frDone fr with
 | true=>
   rw [hd] at HD
   have HX:=hid (fold_done asked (h:=H) (b:=b) hd hl)
   have z16:w.cell? ⟨g,16,none⟩=some (.bool false):=hB.bk.cell 16
   have f16:w.frozen? ⟨g,16,none⟩=false:=hB.bk.free 16 (.inr (Nat.zero_le _))
   clear hB hFr hFA hinv hu hlo hhi hfvd
   by_cases h4:H.kind=4
   ·have d4:((H.kind:Int)==4)=true:=by simp [h4]
    go_enter Tryz.func94,Tryz.ntmps94
    go_wp2_with fail
    go_ret
    obtain ⟨h1,h2⟩:=body_bad HBD.out HI.out HGS.out HLO.out HHI.out
    exact ⟨_,[],.bad1 H b,S,rfl,BytsF.nil _ _ _,h1,h2,HX.out,hpos,fun _ h=>by cases h⟩
   ·have d4:((H.kind:Int)==4)=false:=by simp;omega
    go_enter Tryz.func94,Tryz.ntmps94
    go_wp2_with (go_at_call 165;refine HD.out.mono ?_;rintro e w1 ⟨rfl,hg1⟩;have hB1:=HBD.out.blk HGS.out (fun b hb=>hg1.block b (HHI.out b hb)) hg1.size;have z161:w1.cell? ⟨g,16,none⟩=some (.bool false):=hB1.bk.cell 16;have f161:w1.frozen? ⟨g,16,none⟩=false:=hB1.bk.free 16 (.inr (Nat.zero_le _));have HB1:=hid hB1;clear hB1)
    go_ret
    obtain ⟨h1,h2⟩:=body_bad HB1.out HI.out HGS.out HLO.out (fun k hk=>Nat.lt_of_lt_of_le (HHI.out k hk) hg1.size)
    exact ⟨_,[],.bad1 H b,S,rfl,BytsF.nil _ _ _,h1,(Stp.of_gr S hg1).tr h2,HX.out,hpos,fun _ h=>by cases h⟩
 | false=>
   rw [hd] at HD
   have h4:H.kind≠4:=fun h4=>by
    unfold frDone at hd
    rw [if_neg (by rw [hinv.kind];omega),if_neg (by rw [hinv.kind];omega),if_neg (by rw [hinv.kind];omega)] at hd
    cases hd
   have d4:((H.kind:Int)==4)=false:=by simp;omega
   have HST:=hid (body_step asked hinv hd hl)
   have hpl:=pieceC_le H l
   have HTK:=hid (fun (x:World) (v:Value) (hx:FrAt x gf gc fr) (hv:Byts x v (pieceC H l)) (h1:v.ownBlock≠some gf) (h2:v.ownBlock≠some gc)=>frTake_any fr (pieceC H l) v x gf gc hx (by rw [hinv.kind];exact ⟨hk1,hk4⟩) hinv.bad hinv.ck (by have:=hinv.left;have:=hinv.size;omega) hv h1 h2 (by omega))
   have HFD:=hid hfvd
   have hnf:∀k,(Value.slice A l.length c).ownBlock=some k→k < N∧k∉S:=by
    rcases hu.2 with h | h
    ·exact absurd h hl
    ·exact h
   have hn1:(Value.slice A l.length c).ownBlock≠some gf:=fun e=>(hnf gf e).2 hgfS
   have hn2:(Value.slice A l.length c).ownBlock≠some gc:=fun e=>(hnf gc e).2 hgcS
   clear hB hFr hFA hu hlo hhi hfvd
   have r8:∀x,Gr w x→x.cell? ⟨g,8,none⟩=some (.int .i64 (H.kind:Nat)):=fun x h=>(HBD.out.bk.gr h).cell 8
   have r10:∀x,Gr w x→x.cell? ⟨g,10,none⟩=some (.pointer (some ⟨gf,0,none⟩)):=fun x h=>(HBD.out.bk.gr h).cell 10
   by_cases h2:H.kind=2
   ·have d2:((H.kind:Int)==2)=true:=by simp [h2]
    have HPC:=hid (show pieceC H l=l.take 1 from by unfold pieceC;rw [if_pos h2])
    clear h2 h4
    go_enter Tryz.func94,Tryz.ntmps94
    go_upto_region 8 with (first
     | (go_at_call 165;refine HD.out.mono ?_;rintro e w1 ⟨rfl,hg1⟩)
     | (refine wpList_slHiB _ _ rfl rfl rfl rfl (HU.out.1.gr hg1) ?_ ?_ ?_;decide;omega;intro A2 hA2 ho2;have HA2:=hid hA2;have HO2:=hid ho2;clear hA2 ho2)
     | (go_at_call 166;refine (HTK.out _ _ (HFA.out.gr hg1) (by rw [HPC.out];exact HA2.out) (fun e=>hn1 (HO2.out.symm.trans e)) (fun e=>hn2 (HO2.out.symm.trans e))).mono ?_;rintro e w2 ⟨v2,rfl,hBy2,hFA2,hKr2,hFr2⟩))
    clear HPC HA2 HO2
    have hB1:=HBD.out.blk HGS.out (fun b hb=>hg1.block b (HHI.out b hb)) hg1.size
    have hB2:=hB1.frame (HFA.out.gr hg1) HFD.out hKr2
    have HP2:=hid (show Stp w S w2 S from (Stp.of_gr S hg1).tr ⟨hKr2.more (fun j hj=>by simp only [List.mem_cons,List.not_mem_nil,or_false] at hj;rcases hj with rfl | rfl;exact hgfS;exact hgcS),fun k hk=>.inl hk⟩)
    have HHI2:=hid (show ∀k∈S,k < w2.heap.size from fun k hk=>Nat.lt_of_lt_of_le (HHI.out k hk) HP2.out.kr.size)
    have HG2:=hid (HP2.out.old hG HLO.out)
    have HNE1:=hid (bk_ne hB2.bk hFA2.fr (by decide))
    have HNE2:=hid (bk_ne hB2.bk hFA2.ck (by decide))
    have HVG:=hid (show v2.ownBlock≠some g from fun e=>by have:=hFr2 g e;have:=hB1.bk.lt;omega)
    generalize frTk fr (pieceC H l)=R at *
    obtain ⟨d,n,er,fr2⟩:=R
    simp only at hBy2 hFA2 ⊢
    have HB2:=hid hB2
    have HFA2:=hid hFA2
    have HD2:=hid hBy2
    obtain ⟨Ad,cd,rfl,-,-,-⟩:=id hBy2.open
    have z11:w2.cell? ⟨g,11,none⟩=some (.int .i64 (H.tells:Nat)):=hB2.bk.cell 11
    have z12:w2.cell? ⟨g,12,none⟩=some (.int .i64 H.fro):=hB2.bk.cell 12
    have z13:w2.cell? ⟨g,13,none⟩=some (.int .i64 H.til):=hB2.bk.cell 13
    have z15:w2.cell? ⟨g,15,none⟩=some (.slice Ab b.length cb):=hB2.bk.cell 15
    have z16:w2.cell? ⟨g,16,none⟩=some (.bool false):=hB2.bk.cell 16
    have f15:w2.frozen? ⟨g,15,none⟩=false:=hB2.bk.free 15 (.inr (Nat.zero_le _))
    have f16:w2.frozen? ⟨g,16,none⟩=false:=hB2.bk.free 16 (.inr (Nat.zero_le _))
    clear hB1 hB2 hBy2 hFA2 hKr2 hFr2 hg1 HTK HD
    by_cases he:er=0
    case neg=>
     have de:((er:Int) != 0)=true:=by simp;omega
     have HX:=hid (HST.out.bad he)
     clear he
     go_wp2_with fail
     go_ret
     obtain ⟨h1,h2⟩:=body_bad HB2.out HI.out HGS.out HLO.out HHI2.out
     exact ⟨_,[],.bad1 H b,S,rfl,BytsF.nil _ _ _,h1,HP2.out.tr h2,HX.out,hpos,fun _ h=>by cases h⟩
    subst he
    obtain ⟨n1,n2,n3⟩:=HST.out.n1 rfl
    simp only at n1 n2 n3
    by_cases ht:H.tells=2
    case neg=>
     have dt:((H.tells:Int)==2)=false:=by simp;omega
     have hno:¬overC H b d:=fun h=>ht h.1
     clear ht z12 z13
     go_wp2_with (first
      | (at_builtin;refine wpList_appS (W0:=W0) (n:=b.length) (m:=d.length) (news:=(d).map byt) elemByte rfl _ _ rfl rfl rfl HG2.out.size HB2.out.own.own HD2.out (by simp) (one_byt _) (by omega) (by decide) ?_;intro v5 w5 hown5 happ5;obtain ⟨A5,c5,rfl⟩:=hown5.form;have hx5:=HB2.out.app (d:=d) HGS.out HLO.out HHI2.out hown5 happ5;have hb5:=bk_byo HB2.out.bk happ5.grown (Ne.symm (own_ne_bk HB2.out.own.own HB2.out.bk (by decide)));have z155:w5.cell? ⟨g,15,none⟩=some (.slice Ab b.length cb):=hb5.cell 15;have f155:w5.frozen? ⟨g,15,none⟩=false:=hb5.free 15 (.inr (Nat.zero_le _));have HP5:=hid (HP2.out.tr hx5.2.1);have HU5:=hid (HU.out.stp HP5.out hN);have HF5:=hid (HFA2.out.by happ5.grown (Ne.symm (own_ne_bk HB2.out.own.own HFA2.out.fr (by decide))) (Ne.symm (own_ne_bk HB2.out.own.own HFA2.out.ck (by decide))));have HX5:=hid hx5;clear hx5 hb5 hown5 happ5)
      | (refine wpList_slLoB _ _ rfl rfl rfl rfl HU5.out.1 ?_ ?_ ?_;omega;omega;intro A6 hA6 ho6;rw [Int.toNat_natCast] at hA6 ho6;have HA6:=hid hA6;have HO6:=hid ho6;clear hA6 ho6))
     go_ret
     obtain ⟨hi6,hf6⟩:=HST.out.fits rfl hno
     refine ⟨_,l.drop n,.body H fr2 (b++d),_,rfl,⟨HA6.out,HU5.out.2.imp (fun h=>by rw [h];simp) (fun h j hj=>h j (HO6.out▸hj))⟩,?_,HP5.out,hf6,by rw [List.length_drop];omega,fun _ h=>by cases h⟩
     refine ⟨⟨ln,fv,_,gf,gc,HX5.out.1,fun _=>⟨HF5.out.by (by_st ((Gr.refl w5).by (some g)) 15 _) (by simpa using HNE1.out.symm) (by simpa using HNE2.out.symm),List.mem_append_right _ hgfS,List.mem_append_right _ hgcS,HFD.out⟩⟩,List.mem_append_right _ HGS.out,HX5.out.2.2.1,HX5.out.2.2.2,hi6⟩
    obtain ⟨hs0,hs1,hs2⟩:=HI.out.span ht
    have hroom:=HI.out.room ht
    have dt:((H.tells:Int)==2)=true:=by simp;omega
    have e1:IntKind.i64.wrap (H.til-H.fro)=H.til-H.fro:=IntWalk.i64_in _ (by omega)
    have e2:IntKind.i64.wrap (H.til-H.fro-(b.length:Int))=H.til-H.fro-(b.length:Int):=IntWalk.i64_in _ (by omega)
    go_upto_region 12 with fail
    go_quiet (fail)
    have hd3:=Gr.drN (Gr.refl w2) nq
    have HB3:=hid (HB2.out.blk HGS.out (fun b hb=>hd3.block b (HHI2.out b hb)) hd3.size)
    have HP3:=hid (HP2.out.gr hd3)
    have HHI3:=hid (show ∀k∈S,k < (w2.drewN nq).heap.size from fun k hk=>HHI2.out k hk)
    have HG3:=hid (Gr.tr HG2.out hd3)
    have HFA3:=hid (HFA2.out.gr hd3)
    have HD3:=hid (HD2.out.gr hd3)
    clear z11 z12 z13 z15 z16 f15 f16 hd3 HB2 HP2 HHI2 HG2 HD2
    generalize w2.drewN nq=w3 at *
    have z15:w3.cell? ⟨g,15,none⟩=some (.slice Ab b.length cb):=HB3.out.bk.cell 15
    have z16:w3.cell? ⟨g,16,none⟩=some (.bool false):=HB3.out.bk.cell 16
    have f15:w3.frozen? ⟨g,15,none⟩=false:=HB3.out.bk.free 15 (.inr (Nat.zero_le _))
    have f16:w3.frozen? ⟨g,16,none⟩=false:=HB3.out.bk.free 16 (.inr (Nat.zero_le _))
    by_cases hov:H.til-H.fro-(b.length:Int) < (d.length:Int)
    case neg=>
     have do_:decide (H.til-H.fro-(b.length:Int) < (d.length:Int))=false:=decide_eq_false hov
     have hno:¬overC H b d:=fun h=>hov h.2
     clear hov
     go_wp2_with (first
      | (at_builtin;refine wpList_appS (W0:=W0) (n:=b.length) (m:=d.length) (news:=(d).map byt) elemByte rfl _ _ rfl rfl rfl HG3.out.size HB3.out.own.own HD3.out (by simp) (one_byt _) (by omega) (by decide) ?_;intro v5 w5 hown5 happ5;obtain ⟨A5,c5,rfl⟩:=hown5.form;have hx5:=HB3.out.app (d:=d) HGS.out HLO.out HHI3.out hown5 happ5;have hb5:=bk_byo HB3.out.bk happ5.grown (Ne.symm (own_ne_bk HB3.out.own.own HB3.out.bk (by decide)));have z155:w5.cell? ⟨g,15,none⟩=some (.slice Ab b.length cb):=hb5.cell 15;have f155:w5.frozen? ⟨g,15,none⟩=false:=hb5.free 15 (.inr (Nat.zero_le _));have HP5:=hid (HP3.out.tr hx5.2.1);have HU5:=hid (HU.out.stp HP5.out hN);have HF5:=hid (HFA3.out.by happ5.grown (Ne.symm (own_ne_bk HB3.out.own.own HFA3.out.fr (by decide))) (Ne.symm (own_ne_bk HB3.out.own.own HFA3.out.ck (by decide))));have HX5:=hid hx5;clear hx5 hb5 hown5 happ5)
      | (refine wpList_slLoB _ _ rfl rfl rfl rfl HU5.out.1 ?_ ?_ ?_;omega;omega;intro A6 hA6 ho6;rw [Int.toNat_natCast] at hA6 ho6;have HA6:=hid hA6;have HO6:=hid ho6;clear hA6 ho6))
     go_ret
     obtain ⟨hi6,hf6⟩:=HST.out.fits rfl hno
     refine ⟨_,l.drop n,.body H fr2 (b++d),_,rfl,⟨HA6.out,HU5.out.2.imp (fun h=>by rw [h];simp) (fun h j hj=>h j (HO6.out▸hj))⟩,?_,HP5.out,hf6,by rw [List.length_drop];omega,fun _ h=>by cases h⟩
     refine ⟨⟨ln,fv,_,gf,gc,HX5.out.1,fun _=>⟨HF5.out.by (by_st ((Gr.refl w5).by (some g)) 15 _) (by simpa using HNE1.out.symm) (by simpa using HNE2.out.symm),List.mem_append_right _ hgfS,List.mem_append_right _ hgcS,HFD.out⟩⟩,List.mem_append_right _ HGS.out,HX5.out.2.2.1,HX5.out.2.2.2,hi6⟩
    have do_:decide (H.til-H.fro-(b.length:Int) < (d.length:Int))=true:=decide_eq_true hov
    have hx6:=HST.out.over rfl ⟨ht,hov⟩
    obtain ⟨rm,hrm⟩:∃rm:Nat,H.til-H.fro-(b.length:Int)=rm:=⟨(H.til-H.fro-(b.length:Int)).toNat,by omega⟩
    rw [hrm] at hx6 do_ e2
    have hrl:rm < d.length:=by omega
    have HX6:=hid hx6
    have HRM:=hid hrm
    clear hx6
    have HB4:=hid HB3.out.wrong
    have HP4:=hid (HP3.out.st HGS.out 16 (.bool true))
    have HHI4:=hid (show ∀k∈S,k < (w3.setCell ⟨g,16,none⟩ (.bool true)).heap.size from fun k hk=>by have:=HHI3.out k hk;simpa [World.setCell] using this)
    have HG4:=hid (HP4.out.old hG HLO.out)
    have HFA4:=hid (HFA3.out.by (by_st ((Gr.refl w3).by (some g)) 16 (.bool true)) (by simpa using HNE1.out.symm) (by simpa using HNE2.out.symm))
    have z154:(w3.setCell ⟨g,16,none⟩ (.bool true)).cell? ⟨g,15,none⟩=some (.slice Ab b.length cb):=HB4.out.bk.cell 15
    go_upto_region 14 with fail
    rw [hrm]
    clear hrm
    go_wp2_with (first
     | (refine wpList_slHiB _ _ rfl rfl rfl rfl HD3.out ?_ ?_ ?_;omega;omega;intro A7 hA7 ho7;rw [Int.toNat_natCast] at hA7 ho7;have HD7:=hid (show Byts (w3.setCell ⟨g,16,none⟩ (.bool true)) (.slice A7 rm cd) (d.take rm) from hA7.st (by rw [ho7];exact HVG.out) 16 _);clear hA7 ho7)
     | (at_builtin;refine wpList_appS (W0:=W0) (n:=b.length) (m:=rm) (news:=(d.take rm).map byt) elemByte rfl _ _ rfl rfl rfl HG4.out.size HB4.out.own.own (by have h:=HD7.out;unfold Byts at h;rw [List.length_take,Nat.min_eq_left (by omega)] at h;exact h) (by simp;omega) (one_byt _) (by omega) (by decide) ?_;intro v5 w5 hown5 happ5;obtain ⟨A5,c5,rfl⟩:=hown5.form;have hx5:=HB4.out.app (d:=d.take rm) HGS.out HLO.out HHI4.out (by rw [List.length_take,Nat.min_eq_left (by omega)];exact hown5) happ5;have hb5:=bk_byo HB4.out.bk happ5.grown (Ne.symm (own_ne_bk HB4.out.own.own HB4.out.bk (by decide)));have z155:w5.cell? ⟨g,15,none⟩=some (.slice Ab b.length cb):=hb5.cell 15;have f155:w5.frozen? ⟨g,15,none⟩=false:=hb5.free 15 (.inr (Nat.zero_le _));have HP5:=hid (HP4.out.tr hx5.2.1);have HU5:=hid (HU.out.stp HP5.out hN);have HF5:=hid (HFA4.out.by happ5.grown (Ne.symm (own_ne_bk HB4.out.own.own HFA4.out.fr (by decide))) (Ne.symm (own_ne_bk HB4.out.own.own HFA4.out.ck (by decide))));have HX5:=hid hx5;clear hx5 hb5 hown5 happ5)
     | (refine wpList_slLoB _ _ rfl rfl rfl rfl HU5.out.1 ?_ ?_ ?_;omega;omega;intro A6 hA6 ho6;rw [Int.toNat_natCast] at hA6 ho6;have HA6:=hid hA6;have HO6:=hid ho6;clear hA6 ho6))
    go_ret
    have HX6:=HX6.out
    rw [Int.toNat_natCast] at HX6
    refine ⟨_,l.drop n,.bad1 H (b++d.take rm),_,rfl,⟨HA6.out,HU5.out.2.imp (fun h=>by rw [h];simp) (fun h j hj=>h j (HO6.out▸hj))⟩,?_,HP5.out,HX6,by rw [List.length_drop];omega,fun _ h=>by cases h⟩
    refine ⟨⟨rfl,ln,fv,_,_,HX5.out.1⟩,List.mem_append_right _ HGS.out,HX5.out.2.2.1,HX5.out.2.2.2,HI.out.hd,fun _=>?_⟩
    rw [List.length_append,List.length_take,Nat.min_eq_left (by omega)]
    have:=HRM.out
    omega
   ·have d2:((H.kind:Int)==2)=false:=by simp;omega
    have HPC:=hid (show pieceC H l=l from by unfold pieceC;rw [if_neg h2])
    clear h2 h4
    go_enter Tryz.func94,Tryz.ntmps94
    go_upto_region 8 with (first
     | (go_at_call 165;refine HD.out.mono ?_;rintro e w1 ⟨rfl,hg1⟩)
     | (go_at_call 166;refine (HTK.out _ _ (HFA.out.gr hg1) (by rw [HPC.out];exact HU.out.1.gr hg1) hn1 hn2).mono ?_;rintro e w2 ⟨v2,rfl,hBy2,hFA2,hKr2,hFr2⟩))
    clear HPC
    have hB1:=HBD.out.blk HGS.out (fun b hb=>hg1.block b (HHI.out b hb)) hg1.size
    have hB2:=hB1.frame (HFA.out.gr hg1) HFD.out hKr2
    have HP2:=hid (show Stp w S w2 S from (Stp.of_gr S hg1).tr ⟨hKr2.more (fun j hj=>by simp only [List.mem_cons,List.not_mem_nil,or_false] at hj;rcases hj with rfl | rfl;exact hgfS;exact hgcS),fun k hk=>.inl hk⟩)
    have HHI2:=hid (show ∀k∈S,k < w2.heap.size from fun k hk=>Nat.lt_of_lt_of_le (HHI.out k hk) HP2.out.kr.size)
    have HG2:=hid (HP2.out.old hG HLO.out)
    have HNE1:=hid (bk_ne hB2.bk hFA2.fr (by decide))
    have HNE2:=hid (bk_ne hB2.bk hFA2.ck (by decide))
    have HVG:=hid (show v2.ownBlock≠some g from fun e=>by have:=hFr2 g e;have:=hB1.bk.lt;omega)
    generalize frTk fr (pieceC H l)=R at *
    obtain ⟨d,n,er,fr2⟩:=R
    simp only at hBy2 hFA2 ⊢
    have HB2:=hid hB2
    have HFA2:=hid hFA2
    have HD2:=hid hBy2
    obtain ⟨Ad,cd,rfl,-,-,-⟩:=id hBy2.open
    have z11:w2.cell? ⟨g,11,none⟩=some (.int .i64 (H.tells:Nat)):=hB2.bk.cell 11
    have z12:w2.cell? ⟨g,12,none⟩=some (.int .i64 H.fro):=hB2.bk.cell 12
    have z13:w2.cell? ⟨g,13,none⟩=some (.int .i64 H.til):=hB2.bk.cell 13
    have z15:w2.cell? ⟨g,15,none⟩=some (.slice Ab b.length cb):=hB2.bk.cell 15
    have z16:w2.cell? ⟨g,16,none⟩=some (.bool false):=hB2.bk.cell 16
    have f15:w2.frozen? ⟨g,15,none⟩=false:=hB2.bk.free 15 (.inr (Nat.zero_le _))
    have f16:w2.frozen? ⟨g,16,none⟩=false:=hB2.bk.free 16 (.inr (Nat.zero_le _))
    clear hB1 hB2 hBy2 hFA2 hKr2 hFr2 hg1 HTK HD
    by_cases he:er=0
    case neg=>
     have de:((er:Int) != 0)=true:=by simp;omega
     have HX:=hid (HST.out.bad he)
     clear he
     go_wp2_with fail
     go_ret
     obtain ⟨h1,h2⟩:=body_bad HB2.out HI.out HGS.out HLO.out HHI2.out
     exact ⟨_,[],.bad1 H b,S,rfl,BytsF.nil _ _ _,h1,HP2.out.tr h2,HX.out,hpos,fun _ h=>by cases h⟩
    subst he
    obtain ⟨n1,n2,n3⟩:=HST.out.n1 rfl
    simp only at n1 n2 n3
    by_cases ht:H.tells=2
    case neg=>
     have dt:((H.tells:Int)==2)=false:=by simp;omega
     have hno:¬overC H b d:=fun h=>ht h.1
     clear ht z12 z13
     go_wp2_with (first
      | (at_builtin;refine wpList_appS (W0:=W0) (n:=b.length) (m:=d.length) (news:=(d).map byt) elemByte rfl _ _ rfl rfl rfl HG2.out.size HB2.out.own.own HD2.out (by simp) (one_byt _) (by omega) (by decide) ?_;intro v5 w5 hown5 happ5;obtain ⟨A5,c5,rfl⟩:=hown5.form;have hx5:=HB2.out.app (d:=d) HGS.out HLO.out HHI2.out hown5 happ5;have hb5:=bk_byo HB2.out.bk happ5.grown (Ne.symm (own_ne_bk HB2.out.own.own HB2.out.bk (by decide)));have z155:w5.cell? ⟨g,15,none⟩=some (.slice Ab b.length cb):=hb5.cell 15;have f155:w5.frozen? ⟨g,15,none⟩=false:=hb5.free 15 (.inr (Nat.zero_le _));have HP5:=hid (HP2.out.tr hx5.2.1);have HU5:=hid (HU.out.stp HP5.out hN);have HF5:=hid (HFA2.out.by happ5.grown (Ne.symm (own_ne_bk HB2.out.own.own HFA2.out.fr (by decide))) (Ne.symm (own_ne_bk HB2.out.own.own HFA2.out.ck (by decide))));have HX5:=hid hx5;clear hx5 hb5 hown5 happ5)
      | (refine wpList_slLoB _ _ rfl rfl rfl rfl HU5.out.1 ?_ ?_ ?_;omega;omega;intro A6 hA6 ho6;rw [Int.toNat_natCast] at hA6 ho6;have HA6:=hid hA6;have HO6:=hid ho6;clear hA6 ho6))
     go_ret
     obtain ⟨hi6,hf6⟩:=HST.out.fits rfl hno
     refine ⟨_,l.drop n,.body H fr2 (b++d),_,rfl,⟨HA6.out,HU5.out.2.imp (fun h=>by rw [h];simp) (fun h j hj=>h j (HO6.out▸hj))⟩,?_,HP5.out,hf6,by rw [List.length_drop];omega,fun _ h=>by cases h⟩
     refine ⟨⟨ln,fv,_,gf,gc,HX5.out.1,fun _=>⟨HF5.out.by (by_st ((Gr.refl w5).by (some g)) 15 _) (by simpa using HNE1.out.symm) (by simpa using HNE2.out.symm),List.mem_append_right _ hgfS,List.mem_append_right _ hgcS,HFD.out⟩⟩,List.mem_append_right _ HGS.out,HX5.out.2.2.1,HX5.out.2.2.2,hi6⟩
    obtain ⟨hs0,hs1,hs2⟩:=HI.out.span ht
    have hroom:=HI.out.room ht
    have dt:((H.tells:Int)==2)=true:=by simp;omega
    have e1:IntKind.i64.wrap (H.til-H.fro)=H.til-H.fro:=IntWalk.i64_in _ (by omega)
    have e2:IntKind.i64.wrap (H.til-H.fro-(b.length:Int))=H.til-H.fro-(b.length:Int):=IntWalk.i64_in _ (by omega)
    go_upto_region 12 with fail
    go_quiet (fail)
    have hd3:=Gr.drN (Gr.refl w2) nq
    have HB3:=hid (HB2.out.blk HGS.out (fun b hb=>hd3.block b (HHI2.out b hb)) hd3.size)
    have HP3:=hid (HP2.out.gr hd3)
    have HHI3:=hid (show ∀k∈S,k < (w2.drewN nq).heap.size from fun k hk=>HHI2.out k hk)
    have HG3:=hid (Gr.tr HG2.out hd3)
    have HFA3:=hid (HFA2.out.gr hd3)
    have HD3:=hid (HD2.out.gr hd3)
    clear z11 z12 z13 z15 z16 f15 f16 hd3 HB2 HP2 HHI2 HG2 HD2
    generalize w2.drewN nq=w3 at *
    have z15:w3.cell? ⟨g,15,none⟩=some (.slice Ab b.length cb):=HB3.out.bk.cell 15
    have z16:w3.cell? ⟨g,16,none⟩=some (.bool false):=HB3.out.bk.cell 16
    have f15:w3.frozen? ⟨g,15,none⟩=false:=HB3.out.bk.free 15 (.inr (Nat.zero_le _))
    have f16:w3.frozen? ⟨g,16,none⟩=false:=HB3.out.bk.free 16 (.inr (Nat.zero_le _))
    by_cases hov:H.til-H.fro-(b.length:Int) < (d.length:Int)
    case neg=>
     have do_:decide (H.til-H.fro-(b.length:Int) < (d.length:Int))=false:=decide_eq_false hov
     have hno:¬overC H b d:=fun h=>hov h.2
     clear hov
     go_wp2_with (first
      | (at_builtin;refine wpList_appS (W0:=W0) (n:=b.length) (m:=d.length) (news:=(d).map byt) elemByte rfl _ _ rfl rfl rfl HG3.out.size HB3.out.own.own HD3.out (by simp) (one_byt _) (by omega) (by decide) ?_;intro v5 w5 hown5 happ5;obtain ⟨A5,c5,rfl⟩:=hown5.form;have hx5:=HB3.out.app (d:=d) HGS.out HLO.out HHI3.out hown5 happ5;have hb5:=bk_byo HB3.out.bk happ5.grown (Ne.symm (own_ne_bk HB3.out.own.own HB3.out.bk (by decide)));have z155:w5.cell? ⟨g,15,none⟩=some (.slice Ab b.length cb):=hb5.cell 15;have f155:w5.frozen? ⟨g,15,none⟩=false:=hb5.free 15 (.inr (Nat.zero_le _));have HP5:=hid (HP3.out.tr hx5.2.1);have HU5:=hid (HU.out.stp HP5.out hN);have HF5:=hid (HFA3.out.by happ5.grown (Ne.symm (own_ne_bk HB3.out.own.own HFA3.out.fr (by decide))) (Ne.symm (own_ne_bk HB3.out.own.own HFA3.out.ck (by decide))));have HX5:=hid hx5;clear hx5 hb5 hown5 happ5)
      | (refine wpList_slLoB _ _ rfl rfl rfl rfl HU5.out.1 ?_ ?_ ?_;omega;omega;intro A6 hA6 ho6;rw [Int.toNat_natCast] at hA6 ho6;have HA6:=hid hA6;have HO6:=hid ho6;clear hA6 ho6))
     go_ret
     obtain ⟨hi6,hf6⟩:=HST.out.fits rfl hno
     refine ⟨_,l.drop n,.body H fr2 (b++d),_,rfl,⟨HA6.out,HU5.out.2.imp (fun h=>by rw [h];simp) (fun h j hj=>h j (HO6.out▸hj))⟩,?_,HP5.out,hf6,by rw [List.length_drop];omega,fun _ h=>by cases h⟩
     refine ⟨⟨ln,fv,_,gf,gc,HX5.out.1,fun _=>⟨HF5.out.by (by_st ((Gr.refl w5).by (some g)) 15 _) (by simpa using HNE1.out.symm) (by simpa using HNE2.out.symm),List.mem_append_right _ hgfS,List.mem_append_right _ hgcS,HFD.out⟩⟩,List.mem_append_right _ HGS.out,HX5.out.2.2.1,HX5.out.2.2.2,hi6⟩
    have do_:decide (H.til-H.fro-(b.length:Int) < (d.length:Int))=true:=decide_eq_true hov
    have hx6:=HST.out.over rfl ⟨ht,hov⟩
    obtain ⟨rm,hrm⟩:∃rm:Nat,H.til-H.fro-(b.length:Int)=rm:=⟨(H.til-H.fro-(b.length:Int)).toNat,by omega⟩
    rw [hrm] at hx6 do_ e2
    have hrl:rm < d.length:=by omega
    have HX6:=hid hx6
    have HRM:=hid hrm
    clear hx6
    have HB4:=hid HB3.out.wrong
    have HP4:=hid (HP3.out.st HGS.out 16 (.bool true))
    have HHI4:=hid (show ∀k∈S,k < (w3.setCell ⟨g,16,none⟩ (.bool true)).heap.size from fun k hk=>by have:=HHI3.out k hk;simpa [World.setCell] using this)
    have HG4:=hid (HP4.out.old hG HLO.out)
    have HFA4:=hid (HFA3.out.by (by_st ((Gr.refl w3).by (some g)) 16 (.bool true)) (by simpa using HNE1.out.symm) (by simpa using HNE2.out.symm))
    have z154:(w3.setCell ⟨g,16,none⟩ (.bool true)).cell? ⟨g,15,none⟩=some (.slice Ab b.length cb):=HB4.out.bk.cell 15
    go_upto_region 14 with fail
    rw [hrm]
    clear hrm
    go_wp2_with (first
     | (refine wpList_slHiB _ _ rfl rfl rfl rfl HD3.out ?_ ?_ ?_;omega;omega;intro A7 hA7 ho7;rw [Int.toNat_natCast] at hA7 ho7;have HD7:=hid (show Byts (w3.setCell ⟨g,16,none⟩ (.bool true)) (.slice A7 rm cd) (d.take rm) from hA7.st (by rw [ho7];exact HVG.out) 16 _);clear hA7 ho7)
     | (at_builtin;refine wpList_appS (W0:=W0) (n:=b.length) (m:=rm) (news:=(d.take rm).map byt) elemByte rfl _ _ rfl rfl rfl HG4.out.size HB4.out.own.own (by have h:=HD7.out;unfold Byts at h;rw [List.length_take,Nat.min_eq_left (by omega)] at h;exact h) (by simp;omega) (one_byt _) (by omega) (by decide) ?_;intro v5 w5 hown5 happ5;obtain ⟨A5,c5,rfl⟩:=hown5.form;have hx5:=HB4.out.app (d:=d.take rm) HGS.out HLO.out HHI4.out (by rw [List.length_take,Nat.min_eq_left (by omega)];exact hown5) happ5;have hb5:=bk_byo HB4.out.bk happ5.grown (Ne.symm (own_ne_bk HB4.out.own.own HB4.out.bk (by decide)));have z155:w5.cell? ⟨g,15,none⟩=some (.slice Ab b.length cb):=hb5.cell 15;have f155:w5.frozen? ⟨g,15,none⟩=false:=hb5.free 15 (.inr (Nat.zero_le _));have HP5:=hid (HP4.out.tr hx5.2.1);have HU5:=hid (HU.out.stp HP5.out hN);have HF5:=hid (HFA4.out.by happ5.grown (Ne.symm (own_ne_bk HB4.out.own.own HFA4.out.fr (by decide))) (Ne.symm (own_ne_bk HB4.out.own.own HFA4.out.ck (by decide))));have HX5:=hid hx5;clear hx5 hb5 hown5 happ5)
     | (refine wpList_slLoB _ _ rfl rfl rfl rfl HU5.out.1 ?_ ?_ ?_;omega;omega;intro A6 hA6 ho6;rw [Int.toNat_natCast] at hA6 ho6;have HA6:=hid hA6;have HO6:=hid ho6;clear hA6 ho6))
    go_ret
    have HX6:=HX6.out
    rw [Int.toNat_natCast] at HX6
    refine ⟨_,l.drop n,.bad1 H (b++d.take rm),_,rfl,⟨HA6.out,HU5.out.2.imp (fun h=>by rw [h];simp) (fun h j hj=>h j (HO6.out▸hj))⟩,?_,HP5.out,HX6,by rw [List.length_drop];omega,fun _ h=>by cases h⟩
    refine ⟨⟨rfl,ln,fv,_,_,HX5.out.1⟩,List.mem_append_right _ HGS.out,HX5.out.2.2.1,HX5.out.2.2.2,HI.out.hd,fun _=>?_⟩
    rw [List.length_append,List.length_take,Nat.min_eq_left (by omega)]
    have:=HRM.out
    omega
def ClS.sz:ClS→Nat
 | .head raw=>raw.length
 | .bad0=>0
 | .body _ _ b=>b.length
 | .bad1 _ b=>b.length
theorem frTk_one {fr:FrT} (c:UInt8):(frTk fr [c]).1.length≤1:=by
 unfold frTk
 split
 ·simp
 ·split
  ·simp;omega
  ·split
   ·cases ho:(ckTake fr.ck [c]).2.2.2 with
    | false=>simp
    | true=>
      simp only [if_true]
      by_cases h9:fr.ck.pos=9
      ·rw [ckTake_end h9];simp
      ·exact (ckTake_one c h9 ho).2
   ·split <;> simp
theorem byte_sz (asked:List UInt8) (s:ClS) (c:UInt8):(clByte asked s c).sz≤s.sz+1:=by
 cases s with
 | head raw=>
   rw [clByte_head]
   split
   ·simp [ClS.sz]
   ·split
    ·rcases heed_new asked (tellR (raw++[c])).1.2.2.1 (tellR (raw++[c])).1.2.2.2 with h | ⟨_,_,_,h,_⟩
     ·rw [h];simp [ClS.sz]
     ·rw [h];simp [ClS.sz]
    ·simp [ClS.sz]
 | bad0=>simp [clByte,ClS.sz]
 | body h fr b=>
   show (bodyB1 h fr b c).sz≤_
   unfold bodyB1
   have:=frTk_one (fr:=fr) c
   split
   ·simp [ClS.sz]
   ·split
    ·simp [ClS.sz]
    ·split
     ·simp [ClS.sz]
     ·simp [ClS.sz];omega
 | bad1 h b=>simp [clByte,ClS.sz]
theorem fold_sz (asked:List UInt8):∀(l:List UInt8) (s:ClS),(l.foldl (clByte asked) s).sz≤s.sz+l.length
 | [],s=>by simp
 | c::l,s=>by
   have h1:=fold_sz asked l (clByte asked s c)
   have h2:=byte_sz asked s c
   simp only [List.foldl_cons,List.length_cons]
   omega
theorem fold_grow (asked:List UInt8):∀(l:List UInt8) (h:ClH) (fr:FrT) (b:List UInt8),b.length≤(l.foldl (clByte asked) (.body h fr b)).sz
 | [],_,_,b=>Nat.le_refl _
 | c::l,h,fr,b=>by
   show b.length≤(l.foldl (clByte asked) (bodyB1 h fr b c)).sz
   unfold bodyB1
   split
   ·rw [fold_bad1];exact Nat.le_refl _
   ·split
    ·rw [fold_bad1];exact Nat.le_refl _
    ·split
     ·rw [fold_bad1];exact Nat.le_refl _
     ·have:=fold_grow asked l h (frTk fr [c]).2.2.2 (b++(frTk fr [c]).1)
      rw [List.length_append] at this
      omega
def ClS.inBody:ClS→Bool
 | .head _=>false
 | _=>true
theorem ClR.flags {W0 w:World} {g:Nat} {S:List Nat} {asked:List UInt8} {en wh:Bool} {s:ClS} (h:ClR W0 w g S asked en wh s):∃rd:Bool,w.cell? ⟨g,3,none⟩=some (.bool rd)∧w.cell? ⟨g,16,none⟩=some (.bool s.wrong)∧w.cell? ⟨g,18,none⟩=some (.bool en)∧(s.wrong=false→rd=s.inBody):=by
 have ha:=h.at_
 cases s with
 | head raw=>
   obtain ⟨_,rv,_,hb⟩:=ha
   exact ⟨false,hb.cell 3,hb.cell 16,hb.cell 18,fun _=>rfl⟩
 | bad0=>
   obtain ⟨_,rd,c0,c1,c2,c4,c5,c6,c7,c8,c9,c10,c11,c12,c13,c14,hb⟩:=ha
   exact ⟨rd,hb.cell 3,hb.cell 16,hb.cell 18,fun h=>by cases h⟩
 | body hh fr b=>
   obtain ⟨ln,fv,bv,gf,gc,hb,_⟩:=ha
   exact ⟨true,hb.bk.cell 3,hb.bk.cell 16,hb.bk.cell 18,fun _=>rfl⟩
 | bad1 hh b=>
   obtain ⟨_,ln,fv,fp,bv,hb⟩:=ha
   exact ⟨true,hb.bk.cell 3,hb.bk.cell 16,hb.bk.cell 18,fun _=>rfl⟩
def TakeC (W0 w:World) (g:Nat) (S:List Nat) (asked:List UInt8) (s:ClS) (e:Ending) (w':World):Prop:=
 e=.returned (.int .i64 (if s.wrong then 2 else 0))∧∃S',ClR W0 w' g S' asked false false s∧Stp w S w' S'
def LoopC (W0 w:World) (g N:Nat) (S:List Nat) (asked:List UInt8) (F:ClS) (M:Nat) (v:Value) (wr:World) (l':List UInt8) (s':ClS) (S':List Nat):Prop:=
 BytsF N S' wr v l'∧ClR W0 wr g S' asked false false s'∧Stp w S wr S'∧F=l'.foldl (clByte asked) s'∧l'.length≤M∧(∀raw,s'=.head raw→raw.length+l'.length≤M)
theorem LoopC.form {W0 w:World} {g N:Nat} {S:List Nat} {asked:List UInt8} {F:ClS} {M:Nat} {v:Value} {wr:World} {l':List UInt8} {s':ClS} {S':List Nat} (h:LoopC W0 w g N S asked F M v wr l' s' S'):∃A c,v=.slice A l'.length c∧l'.length≤c∧l'.length≤9223372036854775807:=by
 obtain ⟨A,c,h1,h2,h3,_⟩:=h.1.1
 exact ⟨A,c,h1,h2,h3⟩
theorem take_any (W0 w:World) (g N:Nat) (S:List Nat) (asked:List UInt8) (s:ClS) (l:List UInt8) (u:Value) (hR:ClR W0 w g S asked false false s) (hG:Gr W0 w) (hv:Vars W0) (hu:BytsF N S w u l) (hN:N≤w.heap.size) (hsz:s.sz+l.length≤60000) :
  Calls Tryz.prog 31 #[.pointer (some ⟨g,0,none⟩),u] w (TakeC W0 w g S asked (l.foldl (clByte asked) s)):=by
 obtain ⟨rd0,z3,z16,z18,hrd0⟩:=hR.flags
 obtain ⟨A,c,rfl,hc,hm,-⟩:=id hu.1.open
 have HR:=hid hR
 have HLO:=hid hR.lo
 cases hw:s.wrong with
 | true=>
   rw [hw] at z16
   have HX:=hid (fold_wrong asked hw l)
   have HW:=hid hw
   clear hrd0 hR hu hw
   go_enter Tryz.func31,Tryz.ntmps31
   go_wp2_with fail
   go_ret
   rw [HX.out]
   exact ⟨ret_int (by rw [HW.out];rfl),S,HR.out,Stp.refl _ _⟩
 | false=>
   rw [hw] at z16
   have hF:∃F,F=l.foldl (clByte asked) s:=⟨_,rfl⟩
   obtain ⟨F,hF⟩:=hF
   rw [←hF]
   have hFz:F.sz≤60000:=by have:=fold_sz asked l s;rw [←hF] at this;omega
   have HG:=hid hG
   have HV:=hid hv
   have hS0:LoopC W0 w g N S asked F 60000 (.slice A l.length c) w l s S:=⟨hu,hR,Stp.refl _ _,hF,by omega,fun raw h=>by subst h;exact hsz⟩
   have HS0:=hid hS0
   clear hrd0 hR hu hw hS0 hF hG hv hc hm
   go_enter Tryz.func31,Tryz.ntmps31
   go_wp2_with fail
   go_loopw [1] (fun v wr=>∃(l':List UInt8) (s':ClS) (S':List Nat),LoopC W0 w g N S asked F 60000 v wr l' s' S') (fun v _=>lenV v)
   case atStart=>exact ⟨l,s,S,HS0.out⟩
   case round=>
    clear z3 z16 z18 HS0 HR
    obtain ⟨l',s',S',hL⟩:=hrel
    obtain ⟨A1,c1,rfl,-,-⟩:=hL.form
    obtain ⟨rd,z3,z16,z18,hrd⟩:=hL.2.1.flags
    have HL:=hid hL
    have HRD:=hid hrd
    clear hL hrd
    generalize hwr:s'.wrong=wq at *
    have HWR:=hid hwr
    clear hwr
    go_upto_region 5 with fail
    go_cut [29] (fun s29 wx=>s29=.bool (decide (0 < l'.length)&&(!rd&&!wq))∧LoopC W0 w g N S asked F 60000 (.slice A1 l'.length c1) wx l' s' S')
    case first=>
     by_cases hlt:0 < l'.length
     ·cases rd <;> cases wq
      all_goals
       go_wp2_with fail
       go_meet
       exact ⟨by simp [hlt],HL.out⟩
     ·have d0:decide ((0:Int) < (l'.length:Int))=false:=decide_eq_false (by omega)
      go_wp2_with fail
      go_meet
      exact ⟨by simp [hlt],HL.out⟩
    case rest=>
     obtain ⟨rfl,hLc⟩:=hcut
     clear HL z3 z16 z18
     have HL:=hid hLc
     clear hLc
     cases hc:(decide (0 < l'.length)&&(!rd&&!wq)) with
     | true=>
       simp only [Bool.and_eq_true,decide_eq_true_eq,Bool.not_eq_true'] at hc
       obtain ⟨hlt,hrd,hwq⟩:=hc
       subst hrd hwq
       have hib:=HRD.out (by simp)
       obtain ⟨raw,rfl⟩:∃raw,s'=.head raw:=by
        cases s' with
        | head raw=>exact ⟨raw,rfl⟩
        | bad0=>cases hib
        | body _ _ _=>cases hib
        | bad1 _ _=>cases hib
       obtain ⟨c0,t,rfl⟩:∃c0 t,l'=c0::t:=by cases l' with
        | nil=>simp at hlt
        | cons c0 t=>exact ⟨c0,t,rfl⟩
       have hsize:=HL.out.2.2.2.2.2 raw rfl
       have hlen:=HL.out.2.2.2.2.1
       simp only [List.length_cons] at hsize hlen
       have HGR:=hid (HL.out.2.2.1.old HG.out HLO.out)
       have hNr:N≤wc.heap.size:=Nat.le_trans hN HL.out.2.2.1.kr.size
       have HHB:=hid (headByte_any W0 wc g S' asked raw c0 HL.out.2.1 HGR.out HV.out (by omega))
       obtain ⟨bb,oo,rfl,hbl,hcell⟩:=HL.out.1.1.cellAt 0 (by simp)
       have hcell:wc.cell? ⟨bb,oo,none⟩=some (byt c0):=hcell
       have d0:decide ((0:Int) < ((t.length:Nat):Int)+1)=true:=decide_eq_true (by omega)
       clear hib hlt
       go_wp2_with (first
        | (go_at_call 93;refine HHB.out.mono ?_;rintro e w4 ⟨rfl,S4,hR4,hP4⟩;have HR4:=hid hR4;have HP4:=hid hP4;have HU4:=hid (HL.out.1.stp hP4 hNr);clear hR4 hP4)
        | (refine wpList_slLoB _ _ rfl rfl rfl rfl HU4.out.1 ?_ ?_ ?_;decide;(rw [List.length_cons];omega);intro A6 hA6 ho6;have HA6:=hid hA6;have HO6:=hid ho6;clear hA6 ho6))
       have hb4:=byte_sz asked (.head raw) c0
       refine ⟨⟨t,clByte asked (.head raw) c0,S4,⟨HA6.out,HU4.out.2.elim (fun h=>by cases h) (fun h=>.inr fun j hj=>h j (HO6.out.symm.trans hj))⟩,HR4.out,HL.out.2.2.1.tr HP4.out,HL.out.2.2.2.1,by omega,fun raw' h=>?_⟩,?_⟩
       ·rw [h] at hb4
        simp only [ClS.sz] at hb4
        omega
       ·simp [lenV]
     | false=>
       have HEX:=hid (show ∀raw,s'=.head raw→l'=[] from fun raw h=>by
        subst h
        have hw0:wq=false:=HWR.out.symm
        have hr0:rd=false:=HRD.out (by simp [hw0])
        rw [hw0,hr0] at hc
        cases l' with
        | nil=>rfl
        | cons _ _=>simp at hc)
       clear hc HRD HWR
       go_wp2_with fail
       go_loopw [1] (fun v wz=>∃(l':List UInt8) (s':ClS) (S':List Nat),LoopC W0 w g N S asked F 60000 v wz l' s' S'∧∀raw,s'=.head raw→l'=[]) (fun v _=>lenV v)
       case atStart=>exact ⟨l',s',S',HL.out,HEX.out⟩
       case round=>
        clear HL HEX
        obtain ⟨l2,s2,S2,hL2,hex2⟩:=hrel
        obtain ⟨A2,c2,rfl,-,-⟩:=hL2.form
        obtain ⟨rd2,z3,z16,z18,-⟩:=hL2.2.1.flags
        have HL2:=hid hL2
        have HEX2:=hid hex2
        clear hL2 hex2 z3 z18
        generalize hwr2:s2.wrong=wq2 at *
        have HWR2:=hid hwr2
        clear hwr2
        go_upto_region 8 with fail
        go_cut [46] (fun s46 wx=>s46=.bool (decide (0 < l2.length)&&!wq2)∧LoopC W0 w g N S asked F 60000 (.slice A2 l2.length c2) wx l2 s2 S2)
        case first=>
         by_cases hlt:0 < l2.length
         ·cases wq2
          all_goals
           go_wp2_with fail
           go_meet
           exact ⟨by simp [hlt],HL2.out⟩
         ·have d0:decide ((0:Int) < (l2.length:Int))=false:=decide_eq_false (by omega)
          go_wp2_with fail
          go_meet
          exact ⟨by simp [hlt],HL2.out⟩
        case rest=>
         obtain ⟨rfl,hLc⟩:=hcut
         clear HL2 z16
         have HL2:=hid hLc
         clear hLc
         cases hc2:(decide (0 < l2.length)&&!wq2) with
         | true=>
           simp only [Bool.and_eq_true,decide_eq_true_eq,Bool.not_eq_true'] at hc2
           obtain ⟨hlt,hwq⟩:=hc2
           subst hwq
           have hne:l2≠[]:=fun h=>by rw [h] at hlt;simp at hlt
           obtain ⟨H,fr,bb,rfl⟩:∃H fr bb,s2=.body H fr bb:=by
            cases hs2:s2 with
            | head raw=>exact absurd (HEX2.out raw hs2) hne
            | bad0=>have:=HWR2.out;rw [hs2] at this;cases this
            | body H fr bb=>exact ⟨H,fr,bb,rfl⟩
            | bad1 _ _=>have:=HWR2.out;rw [hs2] at this;cases this
           have HGR:=hid (HL2.out.2.2.1.old HG.out HLO.out)
           have hNr:N≤wc.heap.size:=Nat.le_trans hN HL2.out.2.2.1.kr.size
           have hgrow:=fold_grow asked l2 H fr bb
           rw [←HL2.out.2.2.2.1] at hgrow
           have hlen:=HL2.out.2.2.2.2.1
           have HBB:=hid (bodyBytes_any W0 wc g N S2 asked H fr bb l2 (.slice A2 l2.length c2) HL2.out.2.1 HGR.out HL2.out.1 hNr hne (by omega))
           clear hgrow hlt HEX2
           go_wp2_with (go_at_call 94;refine HBB.out.mono ?_;rintro e w5 ⟨v5,l5,s5,S5,rfl,hB5,hR5,hP5,hF5,hlt5,hnh5⟩)
           obtain ⟨A5,c5,rfl,-,-⟩:=(show LoopC W0 w g N S asked F 60000 v5 w5 l5 s5 S5 from ⟨hB5,hR5,HL2.out.2.2.1.tr hP5,HL2.out.2.2.2.1.trans hF5,by omega,fun raw h=>absurd h (hnh5 raw)⟩).form
           exact ⟨⟨l5,s5,S5,⟨hB5,hR5,HL2.out.2.2.1.tr hP5,HL2.out.2.2.2.1.trans hF5,by omega,fun raw h=>absurd h (hnh5 raw)⟩,fun raw h=>absurd h (hnh5 raw)⟩,by simpa [lenV] using hlt5⟩
         | false=>
           obtain ⟨rd3,-,z16,-,-⟩:=HL2.out.2.1.flags
           have HF:=hid (show F=s2 from by
            rw [HL2.out.2.2.2.1]
            by_cases hl0:l2=[]
            ·rw [hl0];rfl
            ·refine fold_wrong asked ?_ l2
             rw [HWR2.out]
             cases wq2 with
             | true=>rfl
             | false=>
               exfalso
               have:0 < l2.length:=by cases l2 with
                | nil=>exact absurd rfl hl0
                | cons _ _=>simp
               simp [this] at hc2)
           rw [HWR2.out] at z16
           clear hc2
           cases wq2 with
           | true=>
             go_wp2_with fail
             go_ret
             rw [HF.out]
             exact ⟨ret_int (by rw [HWR2.out];rfl),S2,HL2.out.2.1,HL2.out.2.2.1⟩
           | false=>
             go_wp2_with fail
             go_ret
             rw [HF.out]
             exact ⟨ret_int (by rw [HWR2.out];rfl),S2,HL2.out.2.1,HL2.out.2.2.1⟩
def reqC (q:ReqT):Bool:=((objB q.2.1&&decide (q.2.2.1.length≤64))&&condB q.2.2.2)&&q.2.2.1.all specB
def NewEnd (W0 w:World) (q:ReqT) (e:Ending) (w':World):Prop:=Gr w w'∧
 if reqC q then ∃g,e=.returned (.tuple #[.pointer (some ⟨g,0,none⟩),.int .i64 0])∧ClR W0 w' g [g] (if q.1 then headB else getB) false false (.head [])∧w.heap.size≤g
 else e=.returned (.tuple #[.pointer none,.int .i64 1])
theorem newEnd_no {W0 w w':World} {q:ReqT} (h:reqC q=false) (g:Gr w w'):NewEnd W0 w q (.returned (.tuple #[.pointer none,.int .i64 1])) w':=by
 unfold NewEnd;rw [h];exact ⟨g,rfl⟩
theorem newEnd_yes {W0 w w':World} {q:ReqT} {g:Nat} (h:reqC q=true) (gr:Gr w w') (h0:Gr W0 w) (hb:Bk w' g 165 (hdCs (if q.1 then headB else getB) (.slice none 0 0) 0 false) (0,0)) (hg:w.heap.size≤g):NewEnd W0 w q (.returned (.tuple #[.pointer (some ⟨g,0,none⟩),.int .i64 0])) w':=by
 unfold NewEnd;rw [h]
 refine ⟨gr,g,rfl,⟨⟨rfl,.slice none 0 0,OwnB.nil _ _ _,hb⟩,by simp,fun k hk=>?_,fun k hk=>?_,clInv_start⟩,hg⟩
 ·have:k=g:=by simpa using hk
  have:=h0.size;omega
 ·have:k=g:=by simpa using hk
  subst this;exact hb.lt
theorem kNew_any (W0 w:World) (hW:Gr W0 w) (q:ReqT) (vs vm vn:Value) (ha:ReqA w q vs vm vn) (hl:ReqLow q) (h1:q.2.2.2.mt.length≤1000000) (h2:q.2.2.2.no.length≤1000000) :
  Calls Tryz.prog 30 #[reqV q vs vm vn] w (NewEnd W0 w q):=by
 obtain ⟨hd,o,l,mt,no,am,an,si,un,rx,rk⟩:=q
 obtain ⟨ho,hrg,hmt,hno⟩:=hl
 simp only at ho hrg hmt hno
 obtain ⟨hs,hm,hn⟩:=ha
 simp only at hs hm hn
 obtain ⟨A1,a1,rfl,_,_,hA⟩:=id hs.open
 obtain ⟨A2,a2,rfl,_,_,_⟩:=id hm.open
 obtain ⟨A3,a3,rfl,_,_,_⟩:=id hn.open
 simp only at h1 h2
 have HOB:=hid (fun (x:World)=>object_any o x (by omega))
 have HCR:=hid (fun (x:World) (g:Gr w x)=>show Calls Tryz.prog 91 #[.agg #[.slice A2 mt.length a2,.slice A3 no.length a3,.bool am,.bool an,.int .i64 si,.int .i64 un,str rx,.bool rk]] x _ from condRight_any ⟨mt,no,am,an,si,un,(rx,rk)⟩ _ _ x (hm.gr g) (hn.gr g) hmt hno h1 h2 hrg)
 have HSR:=hid (fun (s:SpecT) (x:World)=>show Calls Tryz.prog 92 #[.agg #[.int .i64 s.1,.int .i64 s.2]] x (fun e w'=>e=.returned (.bool (specB s))∧Gr x w') from specRight_any s.1 s.2 x)
 have HA:=hid hA
 have hbr:=Bk.new w 29 #[.bool hd,str o,.slice A1 l.length a1,.slice A2 mt.length a2,.slice A3 no.length a3,.bool am,.bool an,.int .i64 si,.int .i64 un,str rx,.bool rk] (0,0)
 have hG0:=Gr.al (Gr.refl w) (Obj.cells #[.bool hd,str o,.slice A1 l.length a1,.slice A2 mt.length a2,.slice A3 no.length a3,.bool am,.bool an,.int .i64 si,.int .i64 un,str rx,.bool rk] 29)
 have HQ:=hid (show reqC (hd,o,l,⟨mt,no,am,an,si,un,(rx,rk)⟩)=(((objB o&&decide (l.length≤64))&&condB ⟨mt,no,am,an,si,un,(rx,rk)⟩)&&l.all specB) from rfl)
 generalize hRB:reqC (hd,o,l,⟨mt,no,am,an,si,un,(rx,rk)⟩)=RB at *
 have HRB:=hid hRB
 clear hRB
 generalize condB ⟨mt,no,am,an,si,un,(rx,rk)⟩=cb at *
 clear hs hm hn hA hmt hno
 unfold reqV
 simp only
 go_enter Tryz.func30,Tryz.ntmps30
 go_upto_region 1 with fail
 generalize w.alloc (Obj.cells #[.bool hd,str o,.slice A1 l.length a1,.slice A2 mt.length a2,.slice A3 no.length a3,.bool am,.bool an,.int .i64 si,.int .i64 un,str rx,.bool rk] 29)=w0 at *
 generalize w.heap.size=g at *
 have r0:∀x,Gr w0 x→x.cell? ⟨g,0,none⟩=some (.bool hd):=fun x h=>(hbr.gr h).cell 0
 have r1:∀x,Gr w0 x→x.cell? ⟨g,1,none⟩=some (str o):=fun x h=>(hbr.gr h).cell 1
 have r2:∀x,Gr w0 x→x.cell? ⟨g,2,none⟩=some (.slice A1 l.length a1):=fun x h=>(hbr.gr h).cell 2
 have r3:∀x,Gr w0 x→x.cell? ⟨g,3,none⟩=some (.slice A2 mt.length a2):=fun x h=>(hbr.gr h).cell 3
 have r4:∀x,Gr w0 x→x.cell? ⟨g,4,none⟩=some (.slice A3 no.length a3):=fun x h=>(hbr.gr h).cell 4
 have r5:∀x,Gr w0 x→x.cell? ⟨g,5,none⟩=some (.bool am):=fun x h=>(hbr.gr h).cell 5
 have r6:∀x,Gr w0 x→x.cell? ⟨g,6,none⟩=some (.bool an):=fun x h=>(hbr.gr h).cell 6
 have r7:∀x,Gr w0 x→x.cell? ⟨g,7,none⟩=some (.int .i64 si):=fun x h=>(hbr.gr h).cell 7
 have r8:∀x,Gr w0 x→x.cell? ⟨g,8,none⟩=some (.int .i64 un):=fun x h=>(hbr.gr h).cell 8
 have r9:∀x,Gr w0 x→x.cell? ⟨g,9,none⟩=some (str rx):=fun x h=>(hbr.gr h).cell 9
 have r10:∀x,Gr w0 x→x.cell? ⟨g,10,none⟩=some (.bool rk):=fun x h=>(hbr.gr h).cell 10
 have h00:Gr w0 w0:=Gr.refl w0
 have HG0:=hid hG0
 clear hbr hG0
 cases k0:objB o with
 | false=>
   rw [k0] at HOB HQ
   have HX:=hid (show RB=false from by rw [HQ.out];rfl)
   clear k0 HQ HCR HSR
   go_wp2_with (go_at_call 90;refine (HOB.out _).mono ?_;rintro e wn ⟨rfl,hgn⟩)
   go_ret2
   exact newEnd_no (HRB.out.trans HX.out) (Gr.tr HG0.out hgn)
 | true=>
   rw [k0] at HOB HQ
   by_cases k1:l.length≤64
   ·have d1:decide (64 < (l.length:Int))=false:=decide_eq_false (by omega)
    cases k2:cb with
    | false=>
      rw [k2] at HCR HQ
      have HX:=hid (show RB=false from by rw [HQ.out];simp)
      clear k0 k1 k2 HQ HSR
      go_wp2_with (first | (go_at_call 90;refine (HOB.out _).mono ?_;rintro e wn ⟨rfl,hgn⟩) | (go_at_call 91;refine (HCR.out _ (Gr.tr HG0.out (by assumption))).mono ?_;rintro e wm ⟨rfl,hgm⟩))
      go_ret2
      exact newEnd_no (HRB.out.trans HX.out) (Gr.tr HG0.out (Gr.tr hgn hgm))
    | true=>
      rw [k2] at HCR HQ
      have HX:=hid (show RB=l.all specB from by rw [HQ.out,decide_eq_true k1];rfl)
      clear k0 k2 HQ
      go_wp2_with (first | (go_at_call 90;refine (HOB.out _).mono ?_;rintro e wn ⟨rfl,hgn⟩) | (go_at_call 91;refine (HCR.out _ (Gr.tr HG0.out (by assumption))).mono ?_;rintro e wm ⟨rfl,hgm⟩;have hgnm:=Gr.tr hgn hgm))
      have hG2:=hgnm
      clear HCR HOB hgn hgm
      go_loopw [5,26] (fun x4 i wr=>∃k:Nat,k≤l.length∧i=.int .i64 k∧Gr w0 wr∧(l.take k).all specB=true) (fun _ i _=>l.length-(intOf i).toNat)
      case atStart=>exact ⟨0,Nat.zero_le _,rfl,hG2,rfl⟩
      case round=>
       obtain ⟨k,hk,rfl,hG,hE⟩:=hrel
       have HE:=hid hE
       clear hE
       by_cases hlt:k < l.length
       ·obtain ⟨b5,o5,rfl,hb5,p5,p6⟩:=HA.out k hlt
        have p5:=Gr.cell (Gr.tr HG0.out hG) p5
        have p6:=Gr.cell (Gr.tr HG0.out hG) p6
        have HT:=hid (HSR.out l[k])
        go_upto_region 6 with fail
        cases hz:specB l[k] with
        | true=>
          rw [hz] at HT
          have HS:=hid (all_take_succ _ l k hlt HE.out hz)
          have hGb:=Gr.al (Gr.refl wr) (Obj.cells #[.int .i64 l[k].1,.int .i64 l[k].2] 96)
          have hbb:=Bk.new wr 96 #[.int .i64 l[k].1,.int .i64 l[k].2] (0,0)
          have hG:=Gr.tr hG hGb
          generalize wr.alloc (Obj.cells #[.int .i64 l[k].1,.int .i64 l[k].2] 96)=wb at *
          obtain ⟨y0,y1⟩:=hbb.cells2
          clear hGb hbb
          go_wp2_with (go_at_call 92;refine (HT.out _).mono ?_;rintro e wn ⟨rfl,hgn⟩)
          exact ⟨⟨k+1,by omega,by go_num,Gr.tr hG hgn,HS.out⟩,by simp [intOf];omega⟩
        | false=>
          rw [hz] at HT
          have HX:=hid (show RB=false from by rw [HX.out,List.all_eq_false];exact ⟨l[k],List.getElem_mem hlt,by simp [hz]⟩)
          have hGb:=Gr.al (Gr.refl wr) (Obj.cells #[.int .i64 l[k].1,.int .i64 l[k].2] 96)
          have hbb:=Bk.new wr 96 #[.int .i64 l[k].1,.int .i64 l[k].2] (0,0)
          have hG:=Gr.tr hG hGb
          generalize wr.alloc (Obj.cells #[.int .i64 l[k].1,.int .i64 l[k].2] 96)=wb at *
          obtain ⟨y0,y1⟩:=hbb.cells2
          clear hGb hbb
          go_wp2_with (go_at_call 92;refine (HT.out _).mono ?_;rintro e wn ⟨rfl,hgn⟩)
          go_ret2
          exact newEnd_no (HRB.out.trans HX.out) (Gr.tr HG0.out (Gr.tr hG hgn))
       ·have hvk:l.take k=l:=List.take_of_length_le (by omega)
        have HX:=hid (show RB=true from by rw [HX.out];have:=HE.out;rwa [hvk] at this)
        clear hvk
        have hs:=(Gr.tr HG0.out hG).size
        go_upto_region 10 with fail
        have hb9:Bk (wr.alloc (Obj.cells (hdCs getB (.slice none 0 0) 0 false) 165)) wr.heap.size 165 (hdCs getB (.slice none 0 0) 0 false) (0,0):=Bk.new wr _ _ _
        have hg9:Gr w0 (wr.alloc (Obj.cells (hdCs getB (.slice none 0 0) 0 false) 165)):=Gr.al hG _
        refine at_world (P:=Code.wp _ _ _ _) (w0:=wr.alloc (Obj.cells (hdCs getB (.slice none 0 0) 0 false) 165)) ?_
        intro w9 hw9
        rw [←hw9] at hb9 hg9
        clear hw9
        generalize wr.heap.size=g9 at *
        have z0:w9.cell? ⟨g9,0,none⟩=some (str getB):=hb9.cell 0
        have f0:w9.frozen? ⟨g9,0,none⟩=false:=hb9.free 0 (.inr (Nat.zero_le _))
        have HB9:=hid hb9
        clear hb9
        cases hd with
        | false=>
          go_wp2_with fail
          go_ret2
          exact newEnd_yes (HRB.out.trans HX.out) (Gr.tr HG0.out hg9) hW HB9.out hs
        | true=>
          go_wp2_with fail
          go_ret2
          exact newEnd_yes (HRB.out.trans HX.out) (Gr.st (Gr.tr HG0.out hg9) (by exact hs) _) hW (HB9.out.set 0 (str headB)) hs
   ·have d1:decide (64 < (l.length:Int))=true:=decide_eq_true (by omega)
    have HX:=hid (show RB=false from by rw [HQ.out,decide_eq_false k1];simp)
    clear k0 k1 HQ HCR HSR
    go_wp2_with (go_at_call 90;refine (HOB.out _).mono ?_;rintro e wn ⟨rfl,hgn⟩)
    go_ret2
    exact newEnd_no (HRB.out.trans HX.out) (Gr.tr HG0.out hgn)
theorem ClR.whole {W0 w:World} {g:Nat} {S:List Nat} {asked:List UInt8} {en wh:Bool} {s:ClS} (h:ClR W0 w g S asked en wh s):w.cell? ⟨g,19,none⟩=some (.bool wh):=by
 have ha:=h.at_
 cases s with
 | head raw=>
   obtain ⟨h0,rv,_,hb⟩:=ha
   subst h0;exact hb.cell 19
 | bad0=>
   obtain ⟨h0,rd,c0,c1,c2,c4,c5,c6,c7,c8,c9,c10,c11,c12,c13,c14,hb⟩:=ha
   subst h0;exact hb.cell 19
 | body hh fr b=>
   obtain ⟨ln,fv,bv,gf,gc,hb,_⟩:=ha
   exact hb.bk.cell 19
 | bad1 hh b=>
   obtain ⟨h0,ln,fv,fp,bv,hb⟩:=ha
   subst h0;exact hb.bk.cell 19
theorem whole_any {W0 w:World} {g:Nat} {S:List Nat} {asked:List UInt8} {en wh:Bool} {s:ClS} (h:ClR W0 w g S asked en wh s):Calls Tryz.prog 33 #[.pointer (some ⟨g,0,none⟩)] w fun e w'=>e=.returned (.bool wh)∧Gr w w':=by
 have z19:=h.whole
 clear h
 go_enter Tryz.func33,Tryz.ntmps33
 go_wp2_with fail
 go_ret
 exact ⟨rfl,Gr.refl _⟩
theorem pieceL_ne {first:Bool} {tot:Int} {s:List UInt8} {e:Nat} (h:pieceL first tot s=.inl e):e=2∨e=13:=by
 unfold pieceL dataL at h
 repeat (first | split at h | (simp only [Sum.inl.injEq] at h;omega) | cases h)
theorem stepR_ne {bnd:List UInt8} {out:List PieceT} {s:List UInt8} {e:Nat} (h:stepR bnd out s=.inl (.inl e)):e=2∨e=13:=by
 unfold stepR at h
 split at h
 ·rename_i e' ha
  unfold aheadR at ha
  simp only [Sum.inl.injEq] at h
  subst h
  repeat (first | split at ha | (simp only [Sum.inl.injEq] at ha;omega) | cases ha)
 ·split at h
  ·simp only [Sum.inl.injEq] at h;omega
  ·split at h
   ·split at h
    ·cases h
    ·simp only [Sum.inl.injEq] at h;omega
   ·split at h
    ·split at h
     ·rename_i e' hp
      simp only [Sum.inl.injEq] at h
      subst h
      exact pieceL_ne hp
     ·cases h
    ·simp only [Sum.inl.injEq] at h;omega
theorem readF_ne (bnd:List UInt8):∀(n:Nat) (out:List PieceT) (s:List UInt8) (e:Nat),readF bnd n out s=.inl e→e≠0
 | 0,_,_,e,h=>by unfold readF at h;simp only [Sum.inl.injEq] at h;omega
 | n+1,out,s,e,h=>by
   unfold readF at h
   cases hs:stepR bnd out s with
   | inl r=>
     rw [hs] at h
     simp only at h
     subst h
     have:=stepR_ne hs
     omega
   | inr x=>
     obtain ⟨o,r⟩:=x
     rw [hs] at h
     exact readF_ne bnd n o r e h
theorem multiL_ne {bnd s:List UInt8} {e:Nat} (h:multiL bnd s=.inl e):e≠0:=by
 unfold multiL at h
 split at h
 ·exact readF_ne _ _ _ _ _ h
 ·simp only [Sum.inl.injEq] at h;omega
def EndC (W0 w:World) (g:Nat) (S:List Nat) (asked:List UInt8) (s:ClS) (e:Ending) (w':World):Prop:=
 e=.returned (.int .i64 (s.ends:Nat))∧ClR W0 w' g S asked (!s.wrong) (s.ends==0) s∧Stp w S w' S
theorem BodyAt.end_ {W0 w:World} {g:Nat} {S:List Nat} {asked:List UInt8} {ln:Nat} {h:ClH} {fv fp bv:Value} {b:List UInt8} {en wh:Bool} (i:BodyAt W0 w g S asked ln h fv fp bv b false en wh):BodyAt W0 (w.setCell ⟨g,18,none⟩ (.bool true)) g S asked ln h fv fp bv b false true wh:=
 ⟨i.bk.set 18 (.bool true),⟨i.fs.1.st i.fg 18 _,i.fs.2⟩,⟨own_kr i.own.own (by_st ((Gr.refl w).by (some g)) 18 _) (.inr (own_ne_bk i.own.own i.bk (by decide))),i.own.mem⟩,i.fg,i.fb⟩
theorem BodyAt.done_ {W0 w:World} {g:Nat} {S:List Nat} {asked:List UInt8} {ln:Nat} {h:ClH} {fv fp bv:Value} {b:List UInt8} {en wh:Bool} (i:BodyAt W0 w g S asked ln h fv fp bv b false en wh):BodyAt W0 (w.setCell ⟨g,19,none⟩ (.bool true)) g S asked ln h fv fp bv b false en true:=
 ⟨i.bk.set 19 (.bool true),⟨i.fs.1.st i.fg 19 _,i.fs.2⟩,⟨own_kr i.own.own (by_st ((Gr.refl w).by (some g)) 19 _) (.inr (own_ne_bk i.own.own i.bk (by decide))),i.own.mem⟩,i.fg,i.fb⟩
theorem end_body {W0 w:World} {g gf:Nat} {S:List Nat} {asked:List UInt8} {ln:Nat} {H:ClH} {fr:FrT} {fv bv:Value} {b:List UInt8} {wh:Bool} (i:BodyAt W0 w g S asked ln H fv (.pointer (some ⟨gf,0,none⟩)) bv b false true wh) (hg:g∈S) (lo:∀k∈S,W0.heap.size≤k) (hi:∀k∈S,k < w.heap.size) (hv:BodyInv H fr b):ClR W0 w g S asked true wh (.body H fr b):=
 ⟨⟨ln,fv,bv,gf,gf,i,fun h=>by cases h⟩,hg,lo,hi,hv⟩
theorem end_any (W0 w:World) (g:Nat) (S:List Nat) (asked:List UInt8) (s:ClS) (hR:ClR W0 w g S asked false false s) (hG:Gr W0 w) (hv:Vars W0) (hsz:s.sz≤60000) :
  Calls Tryz.prog 32 #[.pointer (some ⟨g,0,none⟩)] w (EndC W0 w g S asked s):=by
 obtain ⟨rd,y3,y16,z18,-⟩:=hR.flags
 have HR:=hid hR
 cases s with
 | bad0=>
   have z16:w.cell? ⟨g,16,none⟩=some (.bool true):=y16
   clear hR y3 y16
   go_enter Tryz.func32,Tryz.ntmps32
   go_wp2_with fail
   go_ret
   exact ⟨rfl,HR.out,Stp.refl _ _⟩
 | bad1 H b=>
   have z16:w.cell? ⟨g,16,none⟩=some (.bool true):=y16
   clear hR y3 y16
   go_enter Tryz.func32,Tryz.ntmps32
   go_wp2_with fail
   go_ret
   exact ⟨rfl,HR.out,Stp.refl _ _⟩
 | head raw=>
   have z16:w.cell? ⟨g,16,none⟩=some (.bool false):=y16
   clear y3 y16
   obtain ⟨⟨-,rv,hown,hb⟩,hgS,hlo,hhi,hinv⟩:=hR
   have z3:w.cell? ⟨g,3,none⟩=some (.bool false):=hb.cell 3
   have f18:w.frozen? ⟨g,18,none⟩=false:=hb.free 18 (.inr (Nat.zero_le _))
   have HB:=hid hb
   have HO:=hid hown
   clear hb hown
   go_enter Tryz.func32,Tryz.ntmps32
   go_wp2_with fail
   go_ret
   refine ⟨rfl,⟨⟨rfl,rv,⟨own_kr HO.out.own (by_st ((Gr.refl w).by (some g)) 18 _) (.inr (own_ne_bk HO.out.own HB.out (by decide))),HO.out.mem⟩,HB.out.set 18 (.bool true)⟩,hgS,hlo,fun k hk=>by have:=hhi k hk;simpa [World.setCell] using this,hinv⟩,(Stp.refl w S).st hgS 18 _⟩
 | body H fr b=>
   have z16:w.cell? ⟨g,16,none⟩=some (.bool false):=y16
   clear y3 y16
   obtain ⟨⟨ln,fv,bv,gf,gc,hB,hFr⟩,hgS,hlo,hhi,hinv⟩:=hR
   obtain ⟨hFA,hgfS,hgcS,hfvd⟩:=hFr rfl
   have hinv:BodyInv H fr b:=hinv
   have z3:w.cell? ⟨g,3,none⟩=some (.bool true):=hB.bk.cell 3
   have f18:w.frozen? ⟨g,18,none⟩=false:=hB.bk.free 18 (.inr (Nat.zero_le _))
   have z10:w.cell? ⟨g,10,none⟩=some (.pointer (some ⟨gf,0,none⟩)):=hB.bk.cell 10
   have HB1:=hid hB.end_
   have HNE1:=hid (bk_ne hB.bk hFA.fr (by decide))
   have HNE2:=hid (bk_ne hB.bk hFA.ck (by decide))
   have HFA1:=hid (hFA.by (by_st ((Gr.refl w).by (some g)) 18 (.bool true)) (by simpa using HNE1.out.symm) (by simpa using HNE2.out.symm))
   have HP1:=hid ((Stp.refl w S).st hgS 18 (.bool true))
   have HI:=hid hinv
   have HLO:=hid hlo
   have HHI:=hid hhi
   have HGS:=hid hgS
   have HFD:=hid hfvd
   have HG:=hid hG
   have HV:=hid hv
   have hb6:b.length≤60000:=hsz
   have hk1:=hinv.k1
   have hk4:=hinv.k4
   have hkf:=hinv.kind
   obtain ⟨Ab,cb,rfl⟩:=hB.own.own.form
   clear HR hB hFr hFA hinv hlo hhi hfvd hG hv hsz
   go_enter Tryz.func32,Tryz.ntmps32
   go_upto_region 8 with fail
   generalize w.setCell ⟨g,18,none⟩ (.bool true)=w1 at *
   have HE:=hid (frEnd_any fr w1 gf gc HFA1.out (by rw [hkf];exact ⟨hk1,hk4⟩))
   have z10:w1.cell? ⟨g,10,none⟩=some (.pointer (some ⟨gf,0,none⟩)):=HB1.out.bk.cell 10
   have HEN:=hid (show endBody H fr b=if frDone fr.stop=false then 13 else if H.kind=4 then 0 else if H.tells=2 then (if (b.length:Int) < H.til-H.fro then 13 else 0) else if H.tells=3 then (match multiL H.bnd b with | .inl e=>if e=13 then 13 else 2 | .inr _=>0) else 0 from rfl)
   clear hkf
   go_upto_region 9 with (go_at_call 95;refine HE.out.mono ?_;rintro e w2 ⟨rfl,-,hb2⟩)
   have HB2:=hid (HB1.out.frame HFA1.out HFD.out ((Kr.refl (Nat.le_refl _)).by hb2 (fun k e=>by cases e;exact .inl (by simp))))
   have HP2:=hid (HP1.out.tr ⟨(Kr.refl (Nat.le_refl _)).by hb2 (fun k e=>by cases e;exact .inl hgfS),fun k hk=>.inl hk⟩)
   have HHI2:=hid (show ∀k∈S,k < w2.heap.size from fun k hk=>Nat.lt_of_lt_of_le (HHI.out k hk) HP2.out.kr.size)
   have HG2:=hid (HP2.out.old HG.out HLO.out)
   clear hb2 HE HB1 HP1 HFA1
   have z8:w2.cell? ⟨g,8,none⟩=some (.int .i64 (H.kind:Nat)):=HB2.out.bk.cell 8
   have z11:w2.cell? ⟨g,11,none⟩=some (.int .i64 (H.tells:Nat)):=HB2.out.bk.cell 11
   have z12:w2.cell? ⟨g,12,none⟩=some (.int .i64 H.fro):=HB2.out.bk.cell 12
   have z13:w2.cell? ⟨g,13,none⟩=some (.int .i64 H.til):=HB2.out.bk.cell 13
   have z14:w2.cell? ⟨g,14,none⟩=some (str H.bnd):=HB2.out.bk.cell 14
   have z15:w2.cell? ⟨g,15,none⟩=some (.slice Ab b.length cb):=HB2.out.bk.cell 15
   have z19:w2.cell? ⟨g,19,none⟩=some (.bool false):=HB2.out.bk.cell 19
   have f19:w2.frozen? ⟨g,19,none⟩=false:=HB2.out.bk.free 19 (.inr (Nat.zero_le _))
   clear z3 z16 z18 f18 z10
   cases hd:frDone fr.stop with
   | false=>
     have HX:=hid (show endBody H fr b=13 from by rw [HEN.out,if_pos hd])
     simp only [Bool.false_eq_true,if_false]
     clear HEN hd
     go_wp2_with fail
     go_ret
     exact ⟨ret_int (by show (13:Int)=((endBody H fr b:Nat):Int);rw [HX.out];rfl),by show ClR W0 w2 g S asked true (endBody H fr b==0) _;rw [HX.out];exact end_body HB2.out HGS.out HLO.out HHI2.out HI.out,HP2.out⟩
   | true=>
     simp only [if_true]
     have HEN:=hid (HEN.out.trans (if_neg (by simp [hd])))
     clear hd
     by_cases h4:H.kind=4
     ·have d4:((H.kind:Int) != 4)=false:=by simp [h4]
      have HX:=hid (HEN.out.trans (if_pos h4))
      clear HEN h4
      go_wp2_with fail
      go_ret
      exact ⟨ret_int (by show (0:Int)=((endBody H fr b:Nat):Int);rw [HX.out];rfl),by show ClR W0 _ g S asked true (endBody H fr b==0) _;rw [HX.out];exact end_body HB2.out.done_ HGS.out HLO.out (fun k hk=>by have:=HHI2.out k hk;simpa [World.setCell] using this) HI.out,HP2.out.st HGS.out 19 _⟩
     ·have d4:((H.kind:Int) != 4)=true:=by simp;omega
      have HEN:=hid (HEN.out.trans (if_neg h4))
      clear h4
      by_cases t2:H.tells=2
      ·have dt:((H.tells:Int)==2)=true:=by simp [t2]
       have HEN:=hid (HEN.out.trans (if_pos t2))
       obtain ⟨hs0,hs1,hs2⟩:=HI.out.span t2
       have e1:IntKind.i64.wrap (H.til-H.fro)=H.til-H.fro:=IntWalk.i64_in _ (by omega)
       clear t2
       go_upto_region 14 with fail
       go_quiet (fail)
       have hd3:=Gr.drN (Gr.refl w2) nq
       have HB3:=hid (HB2.out.blk HGS.out (fun b hb=>hd3.block b (HHI2.out b hb)) hd3.size)
       have HP3:=hid (HP2.out.gr hd3)
       have HHI3:=hid (show ∀k∈S,k < (w2.drewN nq).heap.size from fun k hk=>HHI2.out k hk)
       clear hd3 HB2 HP2 HHI2 z8 z11 z12 z13 z14 z15 z19 f19
       generalize w2.drewN nq=w3 at *
       have z19:w3.cell? ⟨g,19,none⟩=some (.bool false):=HB3.out.bk.cell 19
       have f19:w3.frozen? ⟨g,19,none⟩=false:=HB3.out.bk.free 19 (.inr (Nat.zero_le _))
       by_cases hlt:(b.length:Int) < H.til-H.fro
       ·have dl:decide ((b.length:Int) < H.til-H.fro)=true:=decide_eq_true hlt
        have HX:=hid (HEN.out.trans (if_pos hlt))
        clear HEN
        go_wp2_with fail
        go_ret
        exact ⟨ret_int (by show (13:Int)=((endBody H fr b:Nat):Int);rw [HX.out];rfl),by show ClR W0 w3 g S asked true (endBody H fr b==0) _;rw [HX.out];exact end_body HB3.out HGS.out HLO.out HHI3.out HI.out,HP3.out⟩
       ·have dl:decide ((b.length:Int) < H.til-H.fro)=false:=decide_eq_false hlt
        have HX:=hid (HEN.out.trans (if_neg hlt))
        have hge:H.til-H.fro≤(b.length:Int):=Int.not_lt.mp hlt
        clear HEN hlt
        go_wp2_with fail
        go_ret
        exact ⟨ret_int (by show (0:Int)=((endBody H fr b:Nat):Int);rw [HX.out];rfl),by show ClR W0 _ g S asked true (endBody H fr b==0) _;rw [HX.out];exact end_body HB3.out.done_ HGS.out HLO.out (fun k hk=>by have:=HHI3.out k hk;simpa [World.setCell] using this) HI.out,HP3.out.st HGS.out 19 _⟩
      ·have dt2:((H.tells:Int)==2)=false:=by simp;omega
       have HEN:=hid (HEN.out.trans (if_neg t2))
       clear t2
       by_cases t3:H.tells=3
       ·have dt3:((H.tells:Int)==3)=true:=by simp [t3]
        have HEN:=hid (HEN.out.trans (if_pos t3))
        have hbd:H.bnd.length≤1000000:=by
         have h:=HI.out.bnd t3
         unfold boundB at h
         simp only [Bool.and_eq_true,decide_eq_true_eq] at h
         omega
        have HRD:=hid (fun (x:World) (hx:Gr w2 x)=>read_any (.slice Ab b.length cb) b H.bnd x (HV.out.gr (Gr.tr HG2.out hx)) ((own_byts HB2.out.own.own).gr hx) (by omega) hbd)
        clear t3
        go_upto_region 17 with fail
        have p14:=gx_cell (r:=none) z14 (by simp)
        have p15:=gx_cell (r:=none) z15 (by simp)
        refine wp_region_mix [0,1,2,3,4,5,6,7] none 6 (by kernel_rfl) rfl (by kernel_rfl) (fun o _ _ _ _ h=>by cases o <;> exact h) ?_
        simp only [pickOps,List.filterMap_cons,List.filterMap_nil,List.getElem?_cons_zero,List.getElem?_cons_succ]
        repeat (first | (refine wpGq_step (fun K hK=>?_);go_simp;refine hK _ ?_;clear hK K) | (refine wpGq_step (fun K hK=>?_);go_simp;simp only [↓IntWalk.iteOmega];go_simp;refine hK _ ?_;clear hK K) | (refine wpGq_step (fun K hK=>?_);go_simp;apply Exists.intro;refine ⟨fun _=>?_,hK _ ?_⟩;fail;clear hK K))
        refine wpGq_nil ?_
        clear p14 p15
        refine wpG_one 8 (by kernel_rfl) rfl rfl (fun K hK wa hga=>?_)
        go_simp
        refine (HRD.out wa hga).mono ?_
        rintro e wb ⟨hgb,hE⟩
        cases hm:multiL H.bnd b with
        | inl er=>
          rw [hm] at hE HEN
          subst hE
          refine hK _ _ ((Gr.tr hga hgb).by _) ?_
          clear hK K
          refine wpG_quiet [9,10,11,12,13] 0 ((Gr.tr hga hgb).by _) rfl (by kernel_rfl) (fun o _ _ _ _ h=>by cases o <;> exact h) ?_
          simp only [pickOps,List.filterMap_cons,List.filterMap_nil,List.getElem?_cons_zero,List.getElem?_cons_succ]
          repeat (first | (refine wpGq_step (fun K hK=>?_);go_simp;refine hK _ ?_;clear hK K) | (refine wpGq_step (fun K hK=>?_);go_simp;simp only [↓IntWalk.iteOmega];go_simp;refine hK _ ?_;clear hK K) | (refine wpGq_step (fun K hK=>?_);go_simp;apply Exists.intro;refine ⟨fun _=>?_,hK _ ?_⟩;fail;clear hK K))
          refine wpGq_nil ?_
          refine wpG_done (by kernel_rfl) (fun w5 hg5=>?_)
          have hgg:Gr w2 w5:=Gr.tr (Gr.tr hga hgb) hg5
          have HB5:=hid (HB2.out.blk HGS.out (fun b hb=>hgg.block b (HHI2.out b hb)) hgg.size)
          have HP5:=hid (HP2.out.gr hgg)
          have HHI5:=hid (show ∀k∈S,k < w5.heap.size from fun k hk=>Nat.lt_of_lt_of_le (HHI2.out k hk) hgg.size)
          have her:=multiL_ne hm
          have d0:((er:Int) != 0)=true:=by simp;omega
          clear z8 z11 z12 z13 z14 z15 z19 f19 hga hgb hg5 hgg HB2 HP2 HHI2 hm
          by_cases e13:er=13
          ·have d13:((er:Int) != 13)=false:=by simp [e13]
           have HX:=hid (HEN.out.trans (if_pos e13))
           clear e13 HEN
           go_wp2_with fail
           go_ret
           exact ⟨ret_int (by show (13:Int)=((endBody H fr b:Nat):Int);rw [HX.out];rfl),by show ClR W0 w5 g S asked true (endBody H fr b==0) _;rw [HX.out];exact end_body HB5.out HGS.out HLO.out HHI5.out HI.out,HP5.out⟩
          ·have d13:((er:Int) != 13)=true:=by simp;omega
           have HX:=hid (HEN.out.trans (if_neg e13))
           clear e13 HEN
           go_wp2_with fail
           go_ret
           exact ⟨ret_int (by show (2:Int)=((endBody H fr b:Nat):Int);rw [HX.out];rfl),by show ClR W0 w5 g S asked true (endBody H fr b==0) _;rw [HX.out];exact end_body HB5.out HGS.out HLO.out HHI5.out HI.out,HP5.out⟩
        | inr ps=>
          rw [hm] at hE HEN
          obtain ⟨vp,rfl,-⟩:=hE
          refine hK _ _ ((Gr.tr hga hgb).by _) ?_
          clear hK K
          refine wpG_quiet [9,10,11,12,13] 0 ((Gr.tr hga hgb).by _) rfl (by kernel_rfl) (fun o _ _ _ _ h=>by cases o <;> exact h) ?_
          simp only [pickOps,List.filterMap_cons,List.filterMap_nil,List.getElem?_cons_zero,List.getElem?_cons_succ]
          repeat (first | (refine wpGq_step (fun K hK=>?_);go_simp;refine hK _ ?_;clear hK K) | (refine wpGq_step (fun K hK=>?_);go_simp;simp only [↓IntWalk.iteOmega];go_simp;refine hK _ ?_;clear hK K) | (refine wpGq_step (fun K hK=>?_);go_simp;apply Exists.intro;refine ⟨fun _=>?_,hK _ ?_⟩;fail;clear hK K))
          refine wpGq_nil ?_
          refine wpG_done (by kernel_rfl) (fun w5 hg5=>?_)
          have hgg:Gr w2 w5:=Gr.tr (Gr.tr hga hgb) hg5
          have HB5:=hid (HB2.out.blk HGS.out (fun b hb=>hgg.block b (HHI2.out b hb)) hgg.size)
          have HP5:=hid (HP2.out.gr hgg)
          have HHI5:=hid (show ∀k∈S,k < w5.heap.size from fun k hk=>Nat.lt_of_lt_of_le (HHI2.out k hk) hgg.size)
          have HX:=hid (show endBody H fr b=0 from HEN.out)
          clear z8 z11 z12 z13 z14 z15 z19 f19 hga hgb hg5 hgg HB2 HP2 HHI2 hm HEN
          have z19:w5.cell? ⟨g,19,none⟩=some (.bool false):=HB5.out.bk.cell 19
          have f19:w5.frozen? ⟨g,19,none⟩=false:=HB5.out.bk.free 19 (.inr (Nat.zero_le _))
          go_wp2_with fail
          go_ret
          exact ⟨ret_int (by show (0:Int)=((endBody H fr b:Nat):Int);rw [HX.out];rfl),by show ClR W0 _ g S asked true (endBody H fr b==0) _;rw [HX.out];exact end_body HB5.out.done_ HGS.out HLO.out (fun k hk=>by have:=HHI5.out k hk;simpa [World.setCell] using this) HI.out,HP5.out.st HGS.out 19 _⟩
       ·have dt3:((H.tells:Int)==3)=false:=by simp;omega
        have HX:=hid (HEN.out.trans (if_neg t3))
        clear HEN t3
        go_wp2_with fail
        go_ret
        exact ⟨ret_int (by show (0:Int)=((endBody H fr b:Nat):Int);rw [HX.out];rfl),by show ClR W0 _ g S asked true (endBody H fr b==0) _;rw [HX.out];exact end_body HB2.out.done_ HGS.out HLO.out (fun k hk=>by have:=HHI2.out k hk;simpa [World.setCell] using this) HI.out,HP2.out.st HGS.out 19 _⟩
theorem elemFldC:ElemOk Tryz.prog 34 127 (.agg #[str [],str []]) 2 32:=⟨Tryz.underlying34,by kernel_rfl,rfl,by omega⟩
theorem one_flat2C (fs:List Fld):∀u∈flat2 fs,u.oneCell'=true:=by
 intro u hu
 unfold flat2 at hu
 simp only [List.mem_flatMap,List.mem_cons,List.not_mem_nil,or_false] at hu
 obtain ⟨f,_,rfl | rfl⟩:=hu <;> rfl
def ClS.hd?:ClS→Option ClH
 | .body h _ _=>some h
 | .bad1 h _=>some h
 | _=>none
def HeadC (w:World) (r:Option ClH) (e:Ending) (w':World):Prop:=Gr w w'∧match r with
 | none=>e=.returned (.tuple #[.agg #[.int .i64 0,.slice none 0 0,.slice none 0 0,.int .i64 0],.bool false])
 | some h=>∃A c,e=.returned (.tuple #[.agg #[.int .i64 h.st,.slice A h.fs.length c,.slice none 0 0,.int .i64 (sizeH h)],.bool true])∧Flds w' (.slice A h.fs.length c) h.fs
theorem headNo_any (w:World) (g:Nat) (rd by_:Bool) (h:rd=false∨by_=true) (z3:w.cell? ⟨g,3,none⟩=some (.bool rd)) (z17:w.cell? ⟨g,17,none⟩=some (.bool by_)):Calls Tryz.prog 35 #[.pointer (some ⟨g,0,none⟩)] w (HeadC w none):=by
 have hgl:g < w.heap.size:=by
  rcases Nat.lt_or_ge g w.heap.size with hl | hl
  ·exact hl
  ·simp [World.cell?,Array.getElem?_eq_none hl] at z3
 have hG0:=Gr.al (Gr.refl w) (Obj.cells #[.int .i64 0,.slice none 0 0,.slice none 0 0,.int .i64 0] 37)
 have hb:=Bk.new w 37 #[.int .i64 0,.slice none 0 0,.slice none 0 0,.int .i64 0] (0,0)
 have HG0:=hid hG0
 have HS:=hid (Nat.le_refl w.heap.size)
 have z3:=hG0.cell z3
 have z17:=hG0.cell z17
 clear hG0
 go_enter Tryz.func35,Tryz.ntmps35
 go_upto_region 1 with fail
 generalize w.alloc (Obj.cells #[.int .i64 0,.slice none 0 0,.slice none 0 0,.int .i64 0] 37)=w0 at *
 have hgr:w.heap.size≤w.heap.size:=Nat.le_refl _
 generalize hq:w.heap.size=gr at *
 have z0:w0.cell? ⟨gr,0,none⟩=some (.int .i64 0):=hb.cell 0
 have z1:w0.cell? ⟨gr,1,none⟩=some (.slice none 0 0):=hb.cell 1
 have z2:w0.cell? ⟨gr,2,none⟩=some (.slice none 0 0):=hb.cell 2
 have z3':w0.cell? ⟨gr,3,none⟩=some (.int .i64 0):=hb.cell 3
 have f0:w0.frozen? ⟨gr,0,none⟩=false:=hb.free 0 (.inr (Nat.zero_le _))
 have f1:w0.frozen? ⟨gr,1,none⟩=false:=hb.free 1 (.inr (Nat.zero_le _))
 have f2:w0.frozen? ⟨gr,2,none⟩=false:=hb.free 2 (.inr (Nat.zero_le _))
 have f3:w0.frozen? ⟨gr,3,none⟩=false:=hb.free 3 (.inr (Nat.zero_le _))
 have HB:=hid hb
 have hor:(!rd||by_)=true:=by rcases h with h | h <;> simp [h]
 clear hb h
 cases rd <;> cases by_
 all_goals first | (exfalso;revert hor;decide) | skip
 all_goals
  clear hor
  go_wp2_with fail
  refine at_world (P:=bodyPost _ _ _ _ _) (w0:=putCs w0 gr [.int .i64 0,.slice none 0 0,.slice none 0 0,.int .i64 0] 0) ?_
  intro wy hwy
  have hy:Bk wy gr 37 #[.int .i64 0,.slice none 0 0,.slice none 0 0,.int .i64 0] (0,0):=by rw [hwy];exact putCs_bk HB.out rfl
  have hgy:Gr w wy:=by rw [hwy];exact putCs_gr (by omega) _ _ _ HG0.out
  have yz0:wy.cell? ⟨gr,0,none⟩=some (.int .i64 0):=hy.cell 0
  have yz1:wy.cell? ⟨gr,1,none⟩=some (.slice none 0 0):=hy.cell 1
  have yz2:wy.cell? ⟨gr,2,none⟩=some (.slice none 0 0):=hy.cell 2
  have yz3:wy.cell? ⟨gr,3,none⟩=some (.int .i64 0):=hy.cell 3
  refine bodyPost_ret (v:=.tuple #[.agg #[.int .i64 0,.slice none 0 0,.slice none 0 0,.int .i64 0],.bool false]) (by simp [results,Tryz.results35,go_sem,yz0,yz1,yz2,yz3]) rfl ?_
  exact ⟨hgy,rfl⟩
theorem headYes_any {W0 w:World} {g:Nat} {S:List Nat} {asked:List UInt8} {ln:Nat} {h:ClH} {fv fp bv:Value} {b:List UInt8} {wr en wh:Bool} (i:BodyAt W0 w g S asked ln h fv fp bv b wr en wh) (hn:h.fs.length≤1000000):Calls Tryz.prog 35 #[.pointer (some ⟨g,0,none⟩)] w (HeadC w (some h)):=by
 have hgl:=i.bk.lt
 obtain ⟨A,c,rfl,-,-,-⟩:=id i.fs.1
 have hG0:=Gr.al (Gr.refl w) (Obj.cells #[.int .i64 0,.slice none 0 0,.slice none 0 0,.int .i64 0] 37)
 have hb:=Bk.new w 37 #[.int .i64 0,.slice none 0 0,.slice none 0 0,.int .i64 0] (0,0)
 have HG0:=hid hG0
 have HBG:=hid (i.bk.gr hG0)
 have HF:=hid (i.fs.1.gr hG0)
 clear hG0 i
 go_enter Tryz.func35,Tryz.ntmps35
 go_upto_region 1 with fail
 generalize w.alloc (Obj.cells #[.int .i64 0,.slice none 0 0,.slice none 0 0,.int .i64 0] 37)=w0 at *
 have hgr:g < w.heap.size:=hgl
 generalize hq:w.heap.size=gr at *
 have HB:=hid hb
 have HWQ:=hid hq
 clear hb hgl
 have y3:w0.cell? ⟨g,3,none⟩=some (.bool true):=HBG.out.cell 3
 have y17:w0.cell? ⟨g,17,none⟩=some (.bool false):=HBG.out.cell 17
 have y4:w0.cell? ⟨g,4,none⟩=some (.int .i64 h.st):=HBG.out.cell 4
 have y5:w0.cell? ⟨g,5,none⟩=some (.slice A h.fs.length c):=HBG.out.cell 5
 have y6:w0.cell? ⟨g,6,none⟩=some (.slice none 0 0):=HBG.out.cell 6
 have y7:w0.cell? ⟨g,7,none⟩=some (.int .i64 (sizeH h)):=HBG.out.cell 7
 go_upto_region 4 with fail
 have hb1:=Bk.new w0 37 #[.int .i64 h.st,.slice A h.fs.length c,.slice none 0 0,.int .i64 (sizeH h)] (0,0)
 have hg1:=Gr.al (Gr.refl w0) (Obj.cells #[.int .i64 h.st,.slice A h.fs.length c,.slice none 0 0,.int .i64 (sizeH h)] 37)
 have hge:gr < w0.heap.size:=HB.out.lt
 generalize w0.alloc (Obj.cells #[.int .i64 h.st,.slice A h.fs.length c,.slice none 0 0,.int .i64 (sizeH h)] 37)=w1 at *
 generalize w0.heap.size=ga at *
 have HB1:=hid hb1
 have HF1:=hid (HF.out.gr hg1)
 have HBR:=hid (HB.out.gr hg1)
 have HG1:=hid (Gr.tr HG0.out hg1)
 have HG01:=hid hg1
 have x1:w1.cell? ⟨ga,1,none⟩=some (.slice A h.fs.length c):=hb1.cell 1
 clear hb1 hg1 y3 y17 y4 y5 y6 y7
 go_upto_region 5 with (at_builtin;refine wpList_appS (W0:=w1) (n:=0) (m:=h.fs.length) (xs:=[]) (news:=flat2 h.fs) elemFldC rfl _ _ rfl rfl rfl (Nat.le_refl _) (Own.nil _ _ _ _) HF1.out (flat2_len _) (one_flat2C _) (by omega) (by decide) ?_;intro v5 w5 hown5 happ5;rw [Nat.zero_add,List.nil_append] at hown5;obtain ⟨A5,c5,rfl⟩:=hown5.form;have HG5:=hid (gr_none happ5.grown);have HB5:=hid (HB1.out.gr HG5.out);have x51:w5.cell? ⟨ga,1,none⟩=some (.slice A h.fs.length c):=HB5.out.cell 1;have f51:w5.frozen? ⟨ga,1,none⟩=false:=HB5.out.free 1 (.inr (Nat.zero_le _));have HO5:=hid hown5;clear hown5 happ5)
 have HF6:=hid (show Flds (w5.setCell ⟨ga,1,none⟩ (.slice A5 h.fs.length c5)) (.slice A5 h.fs.length c5) h.fs from (show Flds w5 (.slice A5 h.fs.length c5) h.fs from HO5.out.sl (by decide)).st (own_ne_bk HO5.out HB5.out (by decide)) 1 _)
 have HB6:=hid (show Bk (w5.setCell ⟨ga,1,none⟩ (.slice A5 h.fs.length c5)) ga 37 #[.int .i64 h.st,.slice A5 h.fs.length c5,.slice none 0 0,.int .i64 (sizeH h)] (0,0) from HB5.out.set 1 (.slice A5 h.fs.length c5))
 have hne:gr≠ga:=by omega
 have HR6:=hid ((HBR.out.gr HG5.out).far (p:=⟨ga,1,none⟩) hne (.slice A5 h.fs.length c5))
 have HG6:=hid ((Gr.tr HG1.out HG5.out).st (p:=⟨ga,1,none⟩) (by show w.heap.size≤ga;omega) (.slice A5 h.fs.length c5))
 have HNR:=hid (show (Value.slice A5 h.fs.length c5).ownBlock≠some gr from own_ne_bk HO5.out (HBR.out.gr HG5.out) (by decide))
 clear HB HBG HF HB1 HF1 HBR HG1 HG01 HG5 HB5 HO5 x1 x51 f51
 generalize w5.setCell ⟨ga,1,none⟩ (.slice A5 h.fs.length c5)=w6 at *
 have x0:w6.cell? ⟨ga,0,none⟩=some (.int .i64 h.st):=HB6.out.cell 0
 have x1:w6.cell? ⟨ga,1,none⟩=some (.slice A5 h.fs.length c5):=HB6.out.cell 1
 have x2:w6.cell? ⟨ga,2,none⟩=some (.slice none 0 0):=HB6.out.cell 2
 have x3:w6.cell? ⟨ga,3,none⟩=some (.int .i64 (sizeH h)):=HB6.out.cell 3
 have z0:w6.cell? ⟨gr,0,none⟩=some (.int .i64 0):=HR6.out.cell 0
 have z1:w6.cell? ⟨gr,1,none⟩=some (.slice none 0 0):=HR6.out.cell 1
 have z2:w6.cell? ⟨gr,2,none⟩=some (.slice none 0 0):=HR6.out.cell 2
 have z3:w6.cell? ⟨gr,3,none⟩=some (.int .i64 0):=HR6.out.cell 3
 have f0:w6.frozen? ⟨gr,0,none⟩=false:=HR6.out.free 0 (.inr (Nat.zero_le _))
 have f1:w6.frozen? ⟨gr,1,none⟩=false:=HR6.out.free 1 (.inr (Nat.zero_le _))
 have f2:w6.frozen? ⟨gr,2,none⟩=false:=HR6.out.free 2 (.inr (Nat.zero_le _))
 have f3:w6.frozen? ⟨gr,3,none⟩=false:=HR6.out.free 3 (.inr (Nat.zero_le _))
 go_wp2_with fail
 refine at_world (P:=bodyPost _ _ _ _ _) (w0:=putCs w6 gr [.int .i64 h.st,.slice A5 h.fs.length c5,.slice none 0 0,.int .i64 (sizeH h)] 0) ?_
 intro wy hwy
 have hy:Bk wy gr 37 #[.int .i64 h.st,.slice A5 h.fs.length c5,.slice none 0 0,.int .i64 (sizeH h)] (0,0):=by rw [hwy];exact putCs_bk HR6.out rfl
 have hgy:Gr w wy:=by rw [hwy];exact putCs_gr (by omega) _ _ _ HG6.out
 have hfy:Flds wy (.slice A5 h.fs.length c5) h.fs:=by rw [hwy];exact putCs_sl HNR.out _ _ _ HF6.out
 have yz0:wy.cell? ⟨gr,0,none⟩=some (.int .i64 h.st):=hy.cell 0
 have yz1:wy.cell? ⟨gr,1,none⟩=some (.slice A5 h.fs.length c5):=hy.cell 1
 have yz2:wy.cell? ⟨gr,2,none⟩=some (.slice none 0 0):=hy.cell 2
 have yz3:wy.cell? ⟨gr,3,none⟩=some (.int .i64 (sizeH h)):=hy.cell 3
 refine bodyPost_ret (v:=.tuple #[.agg #[.int .i64 h.st,.slice A5 h.fs.length c5,.slice none 0 0,.int .i64 (sizeH h)],.bool true]) (by simp [results,Tryz.results35,go_sem,yz0,yz1,yz2,yz3]) rfl ?_
 exact ⟨hgy,A5,c5,rfl,hfy⟩
theorem head_any {W0 w:World} {g:Nat} {S:List Nat} {asked:List UInt8} {en wh:Bool} {s:ClS} (h:ClR W0 w g S asked en wh s) (hn:∀H,s.hd?=some H→H.fs.length≤1000000):Calls Tryz.prog 35 #[.pointer (some ⟨g,0,none⟩)] w (HeadC w s.hd?):=by
 have ha:=h.at_
 cases s with
 | head raw=>
   obtain ⟨_,rv,_,hb⟩:=ha
   exact headNo_any w g false false (.inl rfl) (hb.cell 3) (hb.cell 17)
 | bad0=>
   obtain ⟨_,rd,c0,c1,c2,c4,c5,c6,c7,c8,c9,c10,c11,c12,c13,c14,hb⟩:=ha
   exact headNo_any w g rd true (.inr rfl) (hb.cell 3) (hb.cell 17)
 | body hh fr b=>
   obtain ⟨ln,fv,bv,gf,gc,hb,_⟩:=ha
   exact headYes_any hb (hn hh rfl)
 | bad1 hh b=>
   obtain ⟨_,ln,fv,fp,bv,hb⟩:=ha
   exact headYes_any hb (hn hh rfl)
theorem elemSpanC:ElemOk Tryz.prog 31 48 (.agg #[.int .i64 0,.int .i64 0]) 2 16:=⟨Tryz.underlying31,by kernel_rfl,rfl,by omega⟩
theorem elemBytsC:ElemOk Tryz.prog 88 30 (.slice none 0 0) 1 24:=⟨Tryz.underlying88,by kernel_rfl,rfl,by omega⟩
def Bods (w:World) (v:Value) (bs:List (List UInt8)):Prop:=∃L:List (List UInt8×Value),L.map (·.1)=bs∧Sl w v L.length (L.map (·.2))∧∀x∈L,Byts w x.2 x.1
theorem Bods.gr {w w':World} {v:Value} {bs:List (List UInt8)} (h:Bods w v bs) (g:Gr w w'):Bods w' v bs:=by
 obtain ⟨L,h1,h2,h3⟩:=h
 exact ⟨L,h1,Sl.gr h2 g,fun x hx=>(h3 x hx).gr g⟩
theorem Bods.nil (w:World):Bods w (.slice none 0 0) []:=⟨[],rfl,⟨none,0,rfl,Nat.le_refl _,by simp,.inl rfl⟩,by simp⟩
theorem Spans.nil (w:World):Spans w (.slice none 0 0) []:=⟨none,0,rfl,Nat.le_refl _,by simp,.inl rfl⟩
theorem Bods.open {w:World} {v:Value} {bs:List (List UInt8)} (h:Bods w v bs):∃A c,v=.slice A bs.length c∧bs.length≤c∧bs.length≤9223372036854775807∧∀(k:Nat) (hk:k < bs.length),∃b o u,A=some ⟨b,o,none⟩∧w.cell? ⟨b,o+k,none⟩=some u∧Byts w u bs[k]:=by
 obtain ⟨L,rfl,h2,h3⟩:=h
 obtain ⟨A,c,hv,hc,hm,ho⟩:=Sl.open h2
 refine ⟨A,c,by rw [List.length_map];exact hv,by rw [List.length_map];exact hc,by rw [List.length_map];exact hm,fun k hk=>?_⟩
 have hk':k < L.length:=by simpa using hk
 have he:(L.map (·.2))[k]?=some L[k].2:=by simp [List.getElem?_eq_getElem hk']
 obtain ⟨b,o,hA,_,hj⟩:=ho k _ he
 simp only [List.getElem_map]
 exact ⟨b,o,L[k].2,hA,hj k _ he,h3 _ (List.getElem_mem hk')⟩
def BytesC (w:World) (r:List ((Int×Int)×List UInt8)) (e:Ending) (w':World):Prop:=Gr w w'∧∃v1 v2,e=.returned (.tuple #[v1,v2])∧Spans w' v1 (r.map (·.1))∧Bods w' v2 (r.map (·.2))
theorem bytes_nil {w w':World} (g:Gr w w'):BytesC w [] (.returned (.tuple #[.slice none 0 0,.slice none 0 0])) w':=⟨g,_,_,rfl,Spans.nil _,Bods.nil _⟩
theorem bytes_one {w w':World} {f t:Int} {b:List UInt8} {v1 v2 u:Value} (hg:Gr w w') (h1:Sl w' v1 1 [.int .i64 f,.int .i64 t]) (h2:Sl w' v2 1 [u]) (h3:Byts w' u b):BytesC w [((f,t),b)] (.returned (.tuple #[v1,v2])) w':=
 ⟨hg,v1,v2,rfl,h1,[(b,u)],rfl,h2,fun x hx=>by
  have e:x=(b,u):=by simpa using hx
  subst e;exact h3⟩
theorem bClone_any (A:Option Addr) (c:Nat) (l:List UInt8) (w:World) (hb:Byts w (.slice A l.length c) l) (hn:l≠[]) (hl:l.length≤100000000):Calls Tryz.prog 96 #[.slice A l.length c] w fun e w'=>∃A' c',e=.returned (.slice A' l.length c')∧Byts w' (.slice A' l.length c') l∧Gr w w':=by
 have hA:∃a,A=some a:=by
  obtain ⟨A1,c1,e,_,_,h⟩:=hb
  cases e
  rcases h with h | ⟨b,o,h,_⟩
  ·cases l with
   | nil=>exact absurd rfl hn
   | cons _ _=>simp at h
  ·exact ⟨_,h⟩
 obtain ⟨a,rfl⟩:=hA
 have HB:=hid hb
 have kn:=fun (x:World)=>Lib.run_eql_slice_nil (P:=Tryz.prog) x 30 5 (some a) l.length c 0 0 Tryz.underlying30
 clear hb hn
 go_enter Tryz.func96,Tryz.ntmps96
 go_upto_region 3 with fail
 have hG3a:=Gr.al (Gr.refl w) (Obj.cells #[] 5)
 go_wp2_with (at_builtin;refine wpList_appS (W0:=w) (n:=0) (m:=l.length) (news:=l.map byt) elemByte rfl _ _ rfl rfl rfl hG3a.size (own_nil0 w 5 1) (HB.out.gr hG3a) (by simp) (one_byt l) (by omega) (by decide) ?_;intro v4 w4 hown4 happ4;rw [Nat.zero_add,List.nil_append] at hown4;obtain ⟨A4,c4,rfl⟩:=hown4.form;have hG4:=happ4.gr hG3a (own_nil0 w 5 1);have HO4:=hid hown4;clear hown4 happ4)
 go_ret
 exact ⟨A4,c4,rfl,HO4.out.sl (by decide),hG4⟩
structure BytAt (w:World) (g:Nat) (H:ClH) (bv:Value) (b:List UInt8):Prop where
 z11:w.cell? ⟨g,11,none⟩=some (.int .i64 (H.tells:Nat))
 z12:w.cell? ⟨g,12,none⟩=some (.int .i64 H.fro)
 z13:w.cell? ⟨g,13,none⟩=some (.int .i64 H.til)
 z14:w.cell? ⟨g,14,none⟩=some (str H.bnd)
 z15:w.cell? ⟨g,15,none⟩=some bv
 byts:Byts w bv b
theorem boundB_len {b:List UInt8} (h:boundB b=true):b.length≤1000000:=by
 unfold boundB at h
 simp only [Bool.and_eq_true,decide_eq_true_eq] at h
 omega
theorem Pieces.gr {w w':World} {v:Value} {ps:List PieceT} (h:Pieces w v ps) (g:Gr w w'):Pieces w' v ps:=by
 obtain ⟨L,h1,h2,h3⟩:=h
 exact ⟨L,h1,h2.gr g,fun x hx=>(h3 x hx).gr g⟩
theorem flatQ_consC (x:PieceT×Value) (L:List (PieceT×Value)):flatQ (x::L)=.int .i64 x.1.1.1::.int .i64 x.1.1.2.1::.int .i64 x.1.1.2.2::x.2::flatQ L:=rfl
theorem flatQ_atC (L:List (PieceT×Value)) (k:Nat) (h:k < L.length):(flatQ L)[k*4]?=some (.int .i64 L[k].1.1.1)∧(flatQ L)[k*4+1]?=some (.int .i64 L[k].1.1.2.1)∧(flatQ L)[k*4+2]?=some (.int .i64 L[k].1.1.2.2)∧(flatQ L)[k*4+3]?=some L[k].2:=by
 induction L generalizing k with
 | nil=>simp at h
 | cons f fs ih=>
   rw [flatQ_consC]
   cases k with
   | zero=>simp
   | succ k=>
     have:=ih k (by simpa using h)
     rw [show (k+1)*4=k*4+1+1+1+1 from by omega]
     simpa using this
def spL (L:List (PieceT×Value)):List (Int×Int):=L.map fun x=>(x.1.1.1,x.1.1.2.1)
theorem spL_snoc (L:List (PieceT×Value)) (k:Nat) (h:k < L.length):spansV (spL (L.take (k+1)))=spansV (spL (L.take k))++[.int .i64 L[k].1.1.1,.int .i64 L[k].1.1.2.1]:=by
 unfold spL spansV
 rw [List.take_succ_eq_append_getElem h,List.map_append,List.flatMap_append];rfl
theorem vaL_snoc (L:List (PieceT×Value)) (k:Nat) (h:k < L.length):(L.take (k+1)).map (·.2)=(L.take k).map (·.2)++[L[k].2]:=by
 rw [List.take_succ_eq_append_getElem h,List.map_append];rfl
theorem oneCell_sl {w:World} {v:Value} {n:Nat} {cs:List Value} (h:Sl w v n cs):v.oneCell'=true:=by
 obtain ⟨A,c,rfl,_⟩:=h;rfl
structure PcsAt (W0 w:World) (L:List (PieceT×Value)) (k:Nat) (v1 v2:Value):Prop where
 gr:Gr W0 w
 o1:Own W0 w 48 2 v1 k (spansV (spL (L.take k)))
 o2:Own W0 w 30 1 v2 k ((L.take k).map (·.2))
theorem PcsAt.start (W:World) (L:List (PieceT×Value)):PcsAt W W L 0 (.slice none 0 0) (.slice none 0 0):=⟨Gr.refl _,Own.nil _ _ _ _,Own.nil _ _ _ _⟩
theorem pcs_done {w W0 w':World} {L:List (PieceT×Value)} {ps:List PieceT} {v1 v2:Value} (hL:L.map (·.1)=ps) (hb:∀x∈L,Byts W0 x.2 x.1.2) (h:PcsAt W0 w' L L.length v1 v2) (g:Gr w W0):BytesC w (ps.map fun p=>((p.1.1,p.1.2.1),p.2)) (.returned (.tuple #[v1,v2])) w':=by
 have h1:=h.o1;have h2:=h.o2
 rw [List.take_length] at h1 h2
 refine ⟨Gr.tr g h.gr,v1,v2,rfl,?_,L.map fun x=>(x.1.2,x.2),?_,?_,?_⟩
 ·have e:(ps.map fun p=>((p.1.1,p.1.2.1),p.2)).map (·.1)=spL L:=by subst hL;simp [spL]
  rw [e]
  have:=h1.sl (by decide)
  unfold Spans
  rw [show (spL L).length=L.length from by simp [spL]]
  exact this
 ·subst hL;simp
 ·rw [List.length_map,List.map_map]
  exact h2.sl (by decide)
 ·intro x hx
  obtain ⟨y,hy,rfl⟩:=List.mem_map.1 hx
  exact (hb y hy).gr h.gr
theorem stepR_done {bnd:List UInt8} {out o:List PieceT} {s:List UInt8} (h:stepR bnd out s=.inl (.inr o)):o=out:=by
 unfold stepR at h
 repeat (first | split at h | (cases h;rfl) | cases h)
theorem readF_len (bnd:List UInt8):∀(n:Nat) (out:List PieceT) (s:List UInt8) (o:List PieceT),readF bnd n out s=.inr o→o.length≤out.length+n
 | 0,_,_,_,h=>by unfold readF at h;cases h
 | n+1,out,s,o,h=>by
   unfold readF at h
   cases hs:stepR bnd out s with
   | inl r=>
     rw [hs] at h
     simp only at h
     subst h
     have:=stepR_done hs
     subst this
     omega
   | inr x=>
     obtain ⟨o1,r⟩:=x
     rw [hs] at h
     have h1:=readF_len bnd n o1 r o h
     have h2:=(stepR_less hs).2
     omega
theorem multiL_len {bnd s:List UInt8} {o:List PieceT} (h:multiL bnd s=.inr o):o.length≤s.length+1:=by
 unfold multiL at h
 split at h
 ·have:=readF_len _ _ _ _ _ h
  simpa using this
 ·cases h
theorem bytesOf_any (w:World) (g:Nat) (H:ClH) (bv:Value) (b:List UInt8) (i:BytAt w g H bv b) (hi:HeadInv H) (hr:H.tells=2→(b.length:Int)≤H.til-H.fro) (hb:b≠[]) (hl:b.length≤60000) (hv:Vars w) :
  Calls Tryz.prog 34 #[.pointer (some ⟨g,0,none⟩)] w (BytesC w (clBytes H b)):=by
 obtain ⟨z11,z12,z13,z14,z15,hY⟩:=i
 obtain ⟨Ab,cb,rfl,hc,hm,-⟩:=id hY.open
 have hgl:g < w.heap.size:=by
  rcases Nat.lt_or_ge g w.heap.size with hl | hl
  ·exact hl
  ·simp [World.cell?,Array.getElem?_eq_none hl] at z11
 have HY:=hid (fun (x:World) (k:Gr w x)=>hY.gr k)
 have HCL:=hid (fun (x:World) (k:Gr w x)=>bClone_any Ab cb b x (hY.gr k) hb (by omega))
 have HBND:=hid hi.bnd
 have HZ:=hid hi.zspan
 have hlt:0 < b.length:=List.length_pos_iff.2 hb
 have hsp:=hi.span
 have ht3:=hi.tells
 have HV:=hid (fun (x:World) (k:Gr w x)=>hv.gr k)
 have HE:=hid (show clBytes H b=if H.tells=3 then (match multiL H.bnd b with | .inl _=>[] | .inr ps=>ps.map fun p=>((p.1.1,p.1.2.1),p.2)) else if H.tells=0∨b=[] then [] else [((H.fro,H.fro+b.length),b)] from rfl)
 obtain h0 | h1 | h2 | h3:H.tells=0∨H.tells=1∨H.tells=2∨H.tells=3:=by omega
 ·rw [h0] at z11
  have z11:w.cell? ⟨g,11,none⟩=some (.int .i64 0):=z11
  have HX:=hid (show clBytes H b=[] from by rw [HE.out,if_neg (by omega),if_pos (.inl h0)])
  clear HE h0 hb hY hsp hr hi
  go_enter Tryz.func34,Tryz.ntmps34
  go_wp2_with fail
  go_ret2
  rw [HX.out]
  exact bytes_nil (Gr.refl _)
 ·rw [h1] at z11
  have z11:w.cell? ⟨g,11,none⟩=some (.int .i64 1):=z11
  have HX:=hid (show clBytes H b=[((0,(b.length:Int)),b)] from by rw [HE.out,if_neg (by omega),if_neg (by rintro (h | h);omega;exact hb h),(HZ.out (by omega)).1];simp)
  clear HE h1 hb hY hsp hr hi
  go_enter Tryz.func34,Tryz.ntmps34
  go_upto_region 5 with fail
  have p15:=gx_cell (r:=none) z15 (by simp)
  refine wp_region_mix [0,1,2,3,4,5,7,8,9,10] none 5 (by kernel_rfl) rfl (by kernel_rfl) (fun o _ _ _ _ h=>by cases o <;> exact h) ?_
  simp only [pickOps,List.filterMap_cons,List.filterMap_nil,List.getElem?_cons_zero,List.getElem?_cons_succ]
  repeat (first | (refine wpGq_step (fun K hK=>?_);go_simp;refine hK _ ?_;clear hK K) | (refine wpGq_step (fun K hK=>?_);go_simp;simp only [↓IntWalk.iteOmega];go_simp;refine hK _ ?_;clear hK K) | (refine wpGq_step (fun K hK=>?_);go_simp;apply Exists.intro;refine ⟨fun _=>?_,hK _ ?_⟩;fail;clear hK K))
  refine wpGq_nil ?_
  refine wpG_two 6 11 (by kernel_rfl) rfl rfl rfl rfl (fun K hK wa hga=>?_) (fun K hK wa hga=>?_)
  ·go_simp
   refine hK _ _ ((Gr.al hga _).by _) ?_
   clear hK K
   have hs:=sl_lit wa 48 [.int .i64 0,.int .i64 (b.length:Nat)] 1 (by decide)
   refine wpG_one 11 (by kernel_rfl) rfl rfl (fun K hK wb hgb=>?_)
   go_simp
   refine (HCL.out wb (Gr.tr (Gr.al hga _) hgb)).mono ?_
   rintro e wc ⟨A5,c5,rfl,hyb,hgc⟩
   refine hK _ _ ((Gr.tr (Gr.tr (Gr.al hga _) hgb) hgc).by _) ?_
   clear hK K
   refine wpG_quiet [13] 2 ((Gr.tr (Gr.tr (Gr.al hga _) hgb) hgc).by _) rfl (by kernel_rfl) (fun o _ _ _ _ h=>by cases o <;> exact h) ?_
   simp only [pickOps,List.filterMap_cons,List.filterMap_nil,List.getElem?_cons_zero,List.getElem?_cons_succ]
   repeat (first | (refine wpGq_step (fun K hK=>?_);go_simp;refine hK _ ?_;clear hK K) | (refine wpGq_step (fun K hK=>?_);go_simp;simp only [↓IntWalk.iteOmega];go_simp;refine hK _ ?_;clear hK K) | (refine wpGq_step (fun K hK=>?_);go_simp;apply Exists.intro;refine ⟨fun _=>?_,hK _ ?_⟩;fail;clear hK K))
   refine wpGq_nil ?_
   refine wpG_one 12 (by kernel_rfl) rfl rfl (fun K hK wd hgd=>?_)
   go_simp
   refine hK _ _ ((Gr.al hgd _).by _) ?_
   clear hK K
   have hv:=sl_lit wd 30 [.slice A5 b.length c5] 1 (by decide)
   refine wpG_quiet [14] 0 ((Gr.al hgd _).by _) rfl (by kernel_rfl) (fun o _ _ _ _ h=>by cases o <;> exact h) ?_
   simp only [pickOps,List.filterMap_cons,List.filterMap_nil,List.getElem?_cons_zero,List.getElem?_cons_succ]
   repeat (first | (refine wpGq_step (fun K hK=>?_);go_simp;refine hK _ ?_;clear hK K) | (refine wpGq_step (fun K hK=>?_);go_simp;simp only [↓IntWalk.iteOmega];go_simp;refine hK _ ?_;clear hK K) | (refine wpGq_step (fun K hK=>?_);go_simp;apply Exists.intro;refine ⟨fun _=>?_,hK _ ?_⟩;fail;clear hK K))
   refine wpGq_nil ?_
   refine wpG_done (by kernel_rfl) (fun we hge=>?_)
   go_wp2_with fail
   go_ret2
   rw [HX.out]
   exact bytes_one (Gr.tr (Gr.tr (Gr.tr (Gr.al hga _) hgb) hgc) (Gr.tr (Gr.al hgd _) hge)) (Sl.gr hs (Gr.tr (Gr.tr hgb hgc) (Gr.tr (Gr.al hgd _) hge))) (Sl.gr hv hge) (hyb.gr (Gr.tr (Gr.al hgd _) hge))
  ·go_simp
   refine (HCL.out wa hga).mono ?_
   rintro e wc ⟨A5,c5,rfl,hyb,hgc⟩
   refine hK _ _ ((Gr.tr hga hgc).by _) ?_
   clear hK K
   refine wpG_two 6 12 (by kernel_rfl) rfl rfl rfl rfl (fun K hK wb hgb=>?_) (fun K hK wb hgb=>?_)
   ·go_simp
    refine hK _ _ ((Gr.tr (Gr.tr hga hgc) (Gr.al hgb _)).by _) ?_
    clear hK K
    have hs:=sl_lit wb 48 [.int .i64 0,.int .i64 (b.length:Nat)] 1 (by decide)
    refine wpG_quiet [13] 2 ((Gr.tr (Gr.tr hga hgc) (Gr.al hgb _)).by _) rfl (by kernel_rfl) (fun o _ _ _ _ h=>by cases o <;> exact h) ?_
    simp only [pickOps,List.filterMap_cons,List.filterMap_nil,List.getElem?_cons_zero,List.getElem?_cons_succ]
    repeat (first | (refine wpGq_step (fun K hK=>?_);go_simp;refine hK _ ?_;clear hK K) | (refine wpGq_step (fun K hK=>?_);go_simp;simp only [↓IntWalk.iteOmega];go_simp;refine hK _ ?_;clear hK K) | (refine wpGq_step (fun K hK=>?_);go_simp;apply Exists.intro;refine ⟨fun _=>?_,hK _ ?_⟩;fail;clear hK K))
    refine wpGq_nil ?_
    refine wpG_one 12 (by kernel_rfl) rfl rfl (fun K hK wd hgd=>?_)
    go_simp
    refine hK _ _ ((Gr.al hgd _).by _) ?_
    clear hK K
    have hv:=sl_lit wd 30 [.slice A5 b.length c5] 1 (by decide)
    refine wpG_quiet [14] 0 ((Gr.al hgd _).by _) rfl (by kernel_rfl) (fun o _ _ _ _ h=>by cases o <;> exact h) ?_
    simp only [pickOps,List.filterMap_cons,List.filterMap_nil,List.getElem?_cons_zero,List.getElem?_cons_succ]
    repeat (first | (refine wpGq_step (fun K hK=>?_);go_simp;refine hK _ ?_;clear hK K) | (refine wpGq_step (fun K hK=>?_);go_simp;simp only [↓IntWalk.iteOmega];go_simp;refine hK _ ?_;clear hK K) | (refine wpGq_step (fun K hK=>?_);go_simp;apply Exists.intro;refine ⟨fun _=>?_,hK _ ?_⟩;fail;clear hK K))
    refine wpGq_nil ?_
    refine wpG_done (by kernel_rfl) (fun we hge=>?_)
    go_wp2_with fail
    go_ret2
    rw [HX.out]
    exact bytes_one (Gr.tr (Gr.tr (Gr.tr hga hgc) (Gr.al hgb _)) (Gr.tr (Gr.al hgd _) hge)) (Sl.gr hs (Gr.tr (Gr.al hgd _) hge)) (Sl.gr hv hge) (hyb.gr (Gr.tr (Gr.al hgb _) (Gr.tr (Gr.al hgd _) hge)))
   ·go_simp
    refine hK _ _ ((Gr.tr (Gr.tr hga hgc) (Gr.al hgb _)).by _) ?_
    clear hK K
    have hv:=sl_lit wb 30 [.slice A5 b.length c5] 1 (by decide)
    refine wpG_one 6 (by kernel_rfl) rfl rfl (fun K hK wd hgd=>?_)
    go_simp
    refine hK _ _ ((Gr.tr (Gr.tr (Gr.tr hga hgc) (Gr.al hgb _)) (Gr.al hgd _)).by _) ?_
    clear hK K
    have hs:=sl_lit wd 48 [.int .i64 0,.int .i64 (b.length:Nat)] 1 (by decide)
    refine wpG_quiet [13,14] 0 ((Gr.tr (Gr.tr (Gr.tr hga hgc) (Gr.al hgb _)) (Gr.al hgd _)).by _) rfl (by kernel_rfl) (fun o _ _ _ _ h=>by cases o <;> exact h) ?_
    simp only [pickOps,List.filterMap_cons,List.filterMap_nil,List.getElem?_cons_zero,List.getElem?_cons_succ]
    repeat (first | (refine wpGq_step (fun K hK=>?_);go_simp;refine hK _ ?_;clear hK K) | (refine wpGq_step (fun K hK=>?_);go_simp;simp only [↓IntWalk.iteOmega];go_simp;refine hK _ ?_;clear hK K) | (refine wpGq_step (fun K hK=>?_);go_simp;apply Exists.intro;refine ⟨fun _=>?_,hK _ ?_⟩;fail;clear hK K))
    refine wpGq_nil ?_
    refine wpG_done (by kernel_rfl) (fun we hge=>?_)
    go_wp2_with fail
    go_ret2
    rw [HX.out]
    exact bytes_one (Gr.tr (Gr.tr (Gr.tr hga hgc) (Gr.al hgb _)) (Gr.tr (Gr.al hgd _) hge)) (Sl.gr hs hge) (Sl.gr hv (Gr.tr hgd (Gr.tr (Gr.al (Gr.refl _) _) hge))) (hyb.gr (Gr.tr (Gr.al hgb _) (Gr.tr (Gr.al hgd _) hge)))
 ·rw [h2] at z11
  have z11:w.cell? ⟨g,11,none⟩=some (.int .i64 2):=z11
  have HX:=hid (show clBytes H b=[((H.fro,H.fro+b.length),b)] from by rw [HE.out,if_neg (by omega),if_neg (by rintro (h | h);omega;exact hb h)])
  obtain ⟨s1,s2,s3⟩:=hsp h2
  have s4:=hr h2
  have es:IntKind.i64.wrap (H.fro+b.length)=H.fro+b.length:=IntWalk.i64_in _ (by omega)
  have hbN:=Bk.new w 48 #[.int .i64 H.fro,.int .i64 (H.fro+b.length)] (0,0)
  clear HE h2 hb hY hsp hr hi
  go_enter Tryz.func34,Tryz.ntmps34
  go_upto_region 7 with fail
  go_region
  go_upto_region 8 with fail
  refine at_world (P:=Code.wp _ _ _ _) (w0:=(w.alloc (Obj.cells #[.int .i64 H.fro,.int .i64 (H.fro+b.length)] 48)).drew) ?_
  intro w8 hw8
  have hb8:Bk w8 w.heap.size 48 #[.int .i64 H.fro,.int .i64 (H.fro+b.length)] (0,0):=by rw [hw8];exact hbN
  have HG1:=hid (show Gr w w8 from by rw [hw8];exact (Gr.al (Gr.refl w) _).dr)
  clear hw8 hbN
  have y15:=HG1.out.cell z15
  have p15:=gx_cell (r:=none) y15 (by simp)
  have p0:=gx_cell (r:=none) (show w8.cell? ⟨w.heap.size,0,none⟩=some (.int .i64 H.fro) from hb8.cell 0) (by simp)
  have p1:=gx_cell (r:=none) (show w8.cell? ⟨w.heap.size,1,none⟩=some (.int .i64 (H.fro+b.length)) from hb8.cell 1) (by simp)
  clear hb8 y15 z11 z12 z13 z14 z15
  refine wp_region_mix [0,2,3,4,5] none 5 (by kernel_rfl) rfl (by kernel_rfl) (fun o _ _ _ _ h=>by cases o <;> exact h) ?_
  simp only [pickOps,List.filterMap_cons,List.filterMap_nil,List.getElem?_cons_zero,List.getElem?_cons_succ]
  repeat (first | (refine wpGq_step (fun K hK=>?_);go_simp;refine hK _ ?_;clear hK K) | (refine wpGq_step (fun K hK=>?_);go_simp;simp only [↓IntWalk.iteOmega];go_simp;refine hK _ ?_;clear hK K) | (refine wpGq_step (fun K hK=>?_);go_simp;apply Exists.intro;refine ⟨fun _=>?_,hK _ ?_⟩;fail;clear hK K))
  refine wpGq_nil ?_
  refine wpG_two 1 6 (by kernel_rfl) rfl rfl rfl rfl (fun K hK wa hga=>?_) (fun K hK wa hga=>?_)
  ·go_simp
   refine hK _ _ ((Gr.al hga _).by _) ?_
   clear hK K
   have hs:=sl_lit wa 48 [.int .i64 H.fro,.int .i64 (H.fro+b.length)] 1 (by decide)
   refine wpG_one 6 (by kernel_rfl) rfl rfl (fun K hK wb hgb=>?_)
   go_simp
   refine (HCL.out wb (Gr.tr HG1.out (Gr.tr (Gr.al hga _) hgb))).mono ?_
   rintro e wc ⟨A5,c5,rfl,hyb,hgc⟩
   refine hK _ _ ((Gr.tr (Gr.tr (Gr.al hga _) hgb) hgc).by _) ?_
   clear hK K
   refine wpG_quiet [8] 2 ((Gr.tr (Gr.tr (Gr.al hga _) hgb) hgc).by _) rfl (by kernel_rfl) (fun o _ _ _ _ h=>by cases o <;> exact h) ?_
   simp only [pickOps,List.filterMap_cons,List.filterMap_nil,List.getElem?_cons_zero,List.getElem?_cons_succ]
   repeat (first | (refine wpGq_step (fun K hK=>?_);go_simp;refine hK _ ?_;clear hK K) | (refine wpGq_step (fun K hK=>?_);go_simp;simp only [↓IntWalk.iteOmega];go_simp;refine hK _ ?_;clear hK K) | (refine wpGq_step (fun K hK=>?_);go_simp;apply Exists.intro;refine ⟨fun _=>?_,hK _ ?_⟩;fail;clear hK K))
   refine wpGq_nil ?_
   refine wpG_one 7 (by kernel_rfl) rfl rfl (fun K hK wd hgd=>?_)
   go_simp
   refine hK _ _ ((Gr.al hgd _).by _) ?_
   clear hK K
   have hv:=sl_lit wd 30 [.slice A5 b.length c5] 1 (by decide)
   refine wpG_quiet [9] 0 ((Gr.al hgd _).by _) rfl (by kernel_rfl) (fun o _ _ _ _ h=>by cases o <;> exact h) ?_
   simp only [pickOps,List.filterMap_cons,List.filterMap_nil,List.getElem?_cons_zero,List.getElem?_cons_succ]
   repeat (first | (refine wpGq_step (fun K hK=>?_);go_simp;refine hK _ ?_;clear hK K) | (refine wpGq_step (fun K hK=>?_);go_simp;simp only [↓IntWalk.iteOmega];go_simp;refine hK _ ?_;clear hK K) | (refine wpGq_step (fun K hK=>?_);go_simp;apply Exists.intro;refine ⟨fun _=>?_,hK _ ?_⟩;fail;clear hK K))
   refine wpGq_nil ?_
   refine wpG_done (by kernel_rfl) (fun we hge=>?_)
   go_wp2_with fail
   go_ret2
   rw [HX.out]
   exact bytes_one (Gr.tr HG1.out (Gr.tr (Gr.tr (Gr.tr (Gr.al hga _) hgb) hgc) (Gr.tr (Gr.al hgd _) hge))) (Sl.gr hs (Gr.tr (Gr.tr hgb hgc) (Gr.tr (Gr.al hgd _) hge))) (Sl.gr hv hge) (hyb.gr (Gr.tr (Gr.al hgd _) hge))
  ·go_simp
   refine (HCL.out wa (Gr.tr HG1.out hga)).mono ?_
   rintro e wc ⟨A5,c5,rfl,hyb,hgc⟩
   refine hK _ _ ((Gr.tr hga hgc).by _) ?_
   clear hK K
   refine wpG_two 1 7 (by kernel_rfl) rfl rfl rfl rfl (fun K hK wb hgb=>?_) (fun K hK wb hgb=>?_)
   ·go_simp
    refine hK _ _ ((Gr.tr (Gr.tr hga hgc) (Gr.al hgb _)).by _) ?_
    clear hK K
    have hs:=sl_lit wb 48 [.int .i64 H.fro,.int .i64 (H.fro+b.length)] 1 (by decide)
    refine wpG_quiet [8] 2 ((Gr.tr (Gr.tr hga hgc) (Gr.al hgb _)).by _) rfl (by kernel_rfl) (fun o _ _ _ _ h=>by cases o <;> exact h) ?_
    simp only [pickOps,List.filterMap_cons,List.filterMap_nil,List.getElem?_cons_zero,List.getElem?_cons_succ]
    repeat (first | (refine wpGq_step (fun K hK=>?_);go_simp;refine hK _ ?_;clear hK K) | (refine wpGq_step (fun K hK=>?_);go_simp;simp only [↓IntWalk.iteOmega];go_simp;refine hK _ ?_;clear hK K) | (refine wpGq_step (fun K hK=>?_);go_simp;apply Exists.intro;refine ⟨fun _=>?_,hK _ ?_⟩;fail;clear hK K))
    refine wpGq_nil ?_
    refine wpG_one 7 (by kernel_rfl) rfl rfl (fun K hK wd hgd=>?_)
    go_simp
    refine hK _ _ ((Gr.al hgd _).by _) ?_
    clear hK K
    have hv:=sl_lit wd 30 [.slice A5 b.length c5] 1 (by decide)
    refine wpG_quiet [9] 0 ((Gr.al hgd _).by _) rfl (by kernel_rfl) (fun o _ _ _ _ h=>by cases o <;> exact h) ?_
    simp only [pickOps,List.filterMap_cons,List.filterMap_nil,List.getElem?_cons_zero,List.getElem?_cons_succ]
    repeat (first | (refine wpGq_step (fun K hK=>?_);go_simp;refine hK _ ?_;clear hK K) | (refine wpGq_step (fun K hK=>?_);go_simp;simp only [↓IntWalk.iteOmega];go_simp;refine hK _ ?_;clear hK K) | (refine wpGq_step (fun K hK=>?_);go_simp;apply Exists.intro;refine ⟨fun _=>?_,hK _ ?_⟩;fail;clear hK K))
    refine wpGq_nil ?_
    refine wpG_done (by kernel_rfl) (fun we hge=>?_)
    go_wp2_with fail
    go_ret2
    rw [HX.out]
    exact bytes_one (Gr.tr HG1.out (Gr.tr (Gr.tr (Gr.tr hga hgc) (Gr.al hgb _)) (Gr.tr (Gr.al hgd _) hge))) (Sl.gr hs (Gr.tr (Gr.al hgd _) hge)) (Sl.gr hv hge) (hyb.gr (Gr.tr (Gr.al hgb _) (Gr.tr (Gr.al hgd _) hge)))
   ·go_simp
    refine hK _ _ ((Gr.tr (Gr.tr hga hgc) (Gr.al hgb _)).by _) ?_
    clear hK K
    have hv:=sl_lit wb 30 [.slice A5 b.length c5] 1 (by decide)
    refine wpG_one 1 (by kernel_rfl) rfl rfl (fun K hK wd hgd=>?_)
    go_simp
    refine hK _ _ ((Gr.tr (Gr.tr (Gr.tr hga hgc) (Gr.al hgb _)) (Gr.al hgd _)).by _) ?_
    clear hK K
    have hs:=sl_lit wd 48 [.int .i64 H.fro,.int .i64 (H.fro+b.length)] 1 (by decide)
    refine wpG_quiet [8,9] 0 ((Gr.tr (Gr.tr (Gr.tr hga hgc) (Gr.al hgb _)) (Gr.al hgd _)).by _) rfl (by kernel_rfl) (fun o _ _ _ _ h=>by cases o <;> exact h) ?_
    simp only [pickOps,List.filterMap_cons,List.filterMap_nil,List.getElem?_cons_zero,List.getElem?_cons_succ]
    repeat (first | (refine wpGq_step (fun K hK=>?_);go_simp;refine hK _ ?_;clear hK K) | (refine wpGq_step (fun K hK=>?_);go_simp;simp only [↓IntWalk.iteOmega];go_simp;refine hK _ ?_;clear hK K) | (refine wpGq_step (fun K hK=>?_);go_simp;apply Exists.intro;refine ⟨fun _=>?_,hK _ ?_⟩;fail;clear hK K))
    refine wpGq_nil ?_
    refine wpG_done (by kernel_rfl) (fun we hge=>?_)
    go_wp2_with fail
    go_ret2
    rw [HX.out]
    exact bytes_one (Gr.tr HG1.out (Gr.tr (Gr.tr (Gr.tr hga hgc) (Gr.al hgb _)) (Gr.tr (Gr.al hgd _) hge))) (Sl.gr hs hge) (Sl.gr hv (Gr.tr hgd (Gr.tr (Gr.al (Gr.refl _) _) hge))) (hyb.gr (Gr.tr (Gr.al hgb _) (Gr.tr (Gr.al hgd _) hge)))
 ·rw [h3] at z11
  have z11:w.cell? ⟨g,11,none⟩=some (.int .i64 3):=z11
  have HX:=hid (show clBytes H b=(match multiL H.bnd b with | .inl _=>[] | .inr ps=>ps.map fun p=>((p.1.1,p.1.2.1),p.2)) from by rw [HE.out,if_pos h3])
  have HRD:=hid (fun (x:World) (k:Gr w x)=>read_any (.slice Ab b.length cb) b H.bnd x (HV.out x k) (HY.out x k) (by omega) (boundB_len (HBND.out h3)))
  clear HE h3 hb hY hsp hr hi
  go_enter Tryz.func34,Tryz.ntmps34
  go_upto_region 10 with fail
  have p15:=gx_cell (r:=none) z15 (by simp)
  have p14:=gx_cell (r:=none) z14 (by simp)
  refine wp_region_mix [0,1,2,3,4,5,6,7] none 6 (by kernel_rfl) rfl (by kernel_rfl) (fun o _ _ _ _ h=>by cases o <;> exact h) ?_
  simp only [pickOps,List.filterMap_cons,List.filterMap_nil,List.getElem?_cons_zero,List.getElem?_cons_succ]
  repeat (first | (refine wpGq_step (fun K hK=>?_);go_simp;refine hK _ ?_;clear hK K) | (refine wpGq_step (fun K hK=>?_);go_simp;simp only [↓IntWalk.iteOmega];go_simp;refine hK _ ?_;clear hK K) | (refine wpGq_step (fun K hK=>?_);go_simp;apply Exists.intro;refine ⟨fun _=>?_,hK _ ?_⟩;fail;clear hK K))
  refine wpGq_nil ?_
  refine wpG_one 8 (by kernel_rfl) rfl rfl (fun K hK wa hga=>?_)
  go_simp
  refine (HRD.out wa hga).mono ?_
  rintro e wb ⟨hgb,hE⟩
  cases hm:multiL H.bnd b with
  | inl er=>
    rw [hm] at hE HX
    subst hE
    refine hK _ _ ((Gr.tr hga hgb).by _) ?_
    clear hK K
    refine wpG_quiet [9,10,11,12,13] 0 ((Gr.tr hga hgb).by _) rfl (by kernel_rfl) (fun o _ _ _ _ h=>by cases o <;> exact h) ?_
    simp only [pickOps,List.filterMap_cons,List.filterMap_nil,List.getElem?_cons_zero,List.getElem?_cons_succ]
    repeat (first | (refine wpGq_step (fun K hK=>?_);go_simp;refine hK _ ?_;clear hK K) | (refine wpGq_step (fun K hK=>?_);go_simp;simp only [↓IntWalk.iteOmega];go_simp;refine hK _ ?_;clear hK K) | (refine wpGq_step (fun K hK=>?_);go_simp;apply Exists.intro;refine ⟨fun _=>?_,hK _ ?_⟩;fail;clear hK K))
    refine wpGq_nil ?_
    refine wpG_done (by kernel_rfl) (fun w5 hg5=>?_)
    have hgg:Gr w w5:=Gr.tr (Gr.tr hga hgb) hg5
    have her:=multiL_ne hm
    have d0:((er:Int) != 0)=true:=by simp;omega
    go_wp2_with fail
    go_ret2
    rw [HX.out]
    exact bytes_nil hgg
  | inr ps=>
    rw [hm] at hE HX
    obtain ⟨vp,rfl,hps⟩:=hE
    refine hK _ _ ((Gr.tr hga hgb).by _) ?_
    clear hK K
    refine wpG_quiet [9,10,11,12,13] 0 ((Gr.tr hga hgb).by _) rfl (by kernel_rfl) (fun o _ _ _ _ h=>by cases o <;> exact h) ?_
    simp only [pickOps,List.filterMap_cons,List.filterMap_nil,List.getElem?_cons_zero,List.getElem?_cons_succ]
    repeat (first | (refine wpGq_step (fun K hK=>?_);go_simp;refine hK _ ?_;clear hK K) | (refine wpGq_step (fun K hK=>?_);go_simp;simp only [↓IntWalk.iteOmega];go_simp;refine hK _ ?_;clear hK K) | (refine wpGq_step (fun K hK=>?_);go_simp;apply Exists.intro;refine ⟨fun _=>?_,hK _ ?_⟩;fail;clear hK K))
    refine wpGq_nil ?_
    refine wpG_done (by kernel_rfl) (fun w5 hg5=>?_)
    have HLE:=hid (multiL_len hm)
    have HGG:=hid (show Gr w w5 from Gr.tr (Gr.tr hga hgb) hg5)
    have hps5:=Pieces.gr hps hg5
    obtain ⟨L,hL,hSL,hBY⟩:=hps5
    obtain ⟨A,c,rfl,hcA,hmA,hO⟩:=Sl.open hSL
    have HO:=hid hO
    have HBY:=hid hBY
    have HLE:=hid (show L.length≤60001 from by have h1:=HLE.out;rw [←hL,List.length_map] at h1;omega)
    have HL:=hid hL
    have HX2:=hid (show clBytes H b=ps.map fun p=>((p.1.1,p.1.2.1),p.2) from HX.out)
    clear z11 z12 z13 z14 z15 p14 p15 hga hgb hg5 hps hO hBY hL HX HRD HCL HY hm hc
    go_upto_region 16 with fail
    go_loopw [7,8,81] (fun v1 v2 i wr=>∃k:Nat,k≤L.length∧i=.int .i64 k∧PcsAt w5 wr L k v1 v2) (fun _ _ i _=>L.length-(intOf i).toNat)
    case atStart=>exact ⟨0,Nat.zero_le _,rfl,PcsAt.start _ _⟩
    case round=>
     obtain ⟨k,hk,rfl,hP⟩:=hrel
     obtain ⟨B1,e1,rfl⟩:=hP.o1.form
     obtain ⟨B2,e2,rfl⟩:=hP.o2.form
     by_cases hlk:k < L.length
     ·obtain ⟨q0,q1,q2,q3⟩:=flatQ_atC L k hlk
      obtain ⟨bp,op,rfl,-,hj⟩:=HO.out _ _ q0
      have c0:=hP.gr.cell (hj _ _ q0)
      have c1:=hP.gr.cell (hj _ _ q1)
      have c2:=hP.gr.cell (hj _ _ q2)
      have c3:=hP.gr.cell (hj _ _ q3)
      rw [←Nat.add_assoc] at c1 c2 c3
      have hone:=oneCell_sl (HBY.out _ (List.getElem_mem hlk))
      have hvf:=HBY.out _ (List.getElem_mem hlk)
      obtain ⟨A7,n7,hA7,-,-,-⟩:=hvf.open
      have HS1:=hid (spL_snoc L k hlk)
      have HS2:=hid (vaL_snoc L k hlk)
      have HP:=hid hP
      generalize L[k]=y at *
      obtain ⟨⟨⟨yf,yt,yn⟩,yb⟩,yv⟩:=y
      simp only at c0 c1 c2 c3 hA7 HS1 HS2 hone
      subst hA7
      clear hP hj q0 q1 q2 q3 hvf HO
      have hbN:=Bk.new wr 62 #[.int .i64 yf,.int .i64 yt,.int .i64 yn,.slice A7 yb.length n7] (0,0)
      have hgN:=Gr.al (Gr.refl wr) (Obj.cells #[.int .i64 yf,.int .i64 yt,.int .i64 yn,.slice A7 yb.length n7] 62)
      go_upto_region 18 with fail
      generalize wr.alloc (Obj.cells #[.int .i64 yf,.int .i64 yt,.int .i64 yn,.slice A7 yb.length n7] 62)=w6 at *
      generalize wr.heap.size=gp at *
      have hG6:=Gr.tr HP.out.gr hgN
      have HO1:=hid (HP.out.o1.gr hgN)
      have HO2:=hid (HP.out.o2.gr hgN)
      have HBN:=hid hbN
      have x0:w6.cell? ⟨gp,0,none⟩=some (.int .i64 yf):=hbN.cell 0
      have x1:w6.cell? ⟨gp,1,none⟩=some (.int .i64 yt):=hbN.cell 1
      have HG6:=hid hG6
      have HK:=hid (show k≤1000000 from by have:=HLE.out;omega)
      clear hbN hgN c0 c1 c2 c3 HP hG6
      go_upto_region 19 with (at_builtin;refine wpList_app1x (W0:=w5) (W:=w6) (v:=.slice B1 k e1) (n:=k) (xs:=spansV (spL (L.take k))) (news:=[.int .i64 yf,.int .i64 yt]) elemSpanC rfl _ _ rfl rfl rfl HG6.out.size HO1.out rfl (by simp [Value.oneCell']) (by have:=HK.out;omega) (by omega) ?_;intro v7 w7 hown7 happ7;rw [←HS1.out] at hown7;obtain ⟨B7,e7,rfl⟩:=hown7.form;have HO7:=hid hown7;have HA7:=hid happ7;clear hown7 happ7)
      have HG7:=hid (HA7.out.gr HG6.out HO1.out)
      have HB7:=hid (bk_byo HBN.out HA7.out.grown (Ne.symm (own_ne_bk HO1.out HBN.out (by decide))))
      have HO27:=hid (own_kr HO2.out HA7.out.grown (own_own HO2.out HO1.out (by decide)))
      have x2:w7.cell? ⟨gp,3,none⟩=some (.slice A7 yb.length n7):=HB7.out.cell 3
      clear x0 x1 HBN HO1 HO2 HA7
      go_wp2_with (at_builtin;refine wpList_app1x (W0:=w5) (W:=w7) (v:=.slice B2 k e2) (n:=k) (xs:=(L.take k).map (·.2)) (news:=[.slice A7 yb.length n7]) elemBytsC rfl _ _ rfl rfl rfl HG7.out.size HO27.out rfl (by simpa using hone) (by have:=HK.out;omega) (by omega) ?_;intro v8 w8 hown8 happ8;rw [←HS2.out] at hown8;obtain ⟨B8,e8,rfl⟩:=hown8.form;have HO8:=hid hown8;have HA8:=hid happ8;clear hown8 happ8)
      exact ⟨⟨k+1,by omega,by go_num,HA8.out.gr HG7.out HO27.out,own_kr HO7.out HA8.out.grown (own_own HO7.out HO27.out (by decide)),HO8.out⟩,by simp [intOf];omega⟩
     ·have hk:k=L.length:=by omega
      subst hk
      go_wp2_with fail
      go_ret2
      rw [HX2.out]
      exact pcs_done HL.out HBY.out hP HGG.out
theorem bytesNil_any (w:World) (g c:Nat) (A:Option Addr) (z15:w.cell? ⟨g,15,none⟩=some (.slice A 0 c)):Calls Tryz.prog 34 #[.pointer (some ⟨g,0,none⟩)] w (BytesC w []):=by
 go_enter Tryz.func34,Tryz.ntmps34
 go_wp2_with fail
 go_ret2
 exact bytes_nil (Gr.refl _)
theorem clBytes_nil (H:ClH):clBytes H []=[]:=by
 unfold clBytes
 split
 ·cases hb:boundB H.bnd with
  | false=>rw [multiL_no hb]
  | true=>rw [multiL_eq hb,readG_end (show stepR H.bnd [] []=.inl (.inl 13) from rfl)]
 ·rw [if_pos (.inr rfl)]
theorem bytesB_any {W0 w:World} {g:Nat} {S:List Nat} {asked:List UInt8} {ln:Nat} {H:ClH} {fv fp bv:Value} {b:List UInt8} {wr en wh:Bool} (i:BodyAt W0 w g S asked ln H fv fp bv b wr en wh) (hi:HeadInv H) (hr:H.tells=2→(b.length:Int)≤H.til-H.fro) (hl:b.length≤60000) (hv:Vars w):Calls Tryz.prog 34 #[.pointer (some ⟨g,0,none⟩)] w (BytesC w (clBytes H b)):=by
 by_cases hb:b=[]
 ·subst hb
  obtain ⟨A,c,rfl⟩:=i.own.own.form
  rw [clBytes_nil]
  exact bytesNil_any w g c A (i.bk.cell 15)
 ·exact bytesOf_any w g H bv b ⟨i.bk.cell 11,i.bk.cell 12,i.bk.cell 13,i.bk.cell 14,i.bk.cell 15,i.own.own.sl (by decide)⟩ hi hr hb hl hv
theorem bytes_any {W0 w:World} {g:Nat} {S:List Nat} {asked:List UInt8} {en wh:Bool} {s:ClS} (h:ClR W0 w g S asked en wh s) (hv:Vars w) (hsz:s.sz≤60000):Calls Tryz.prog 34 #[.pointer (some ⟨g,0,none⟩)] w (BytesC w s.came):=by
 have ha:=h.at_
 have hi:=h.inv
 cases s with
 | head raw=>
   obtain ⟨_,rv,_,hb⟩:=ha
   exact bytesNil_any w g 0 none (hb.cell 15)
 | bad0=>
   obtain ⟨_,rd,c0,c1,c2,c4,c5,c6,c7,c8,c9,c10,c11,c12,c13,c14,hb⟩:=ha
   exact bytesNil_any w g 0 none (hb.cell 15)
 | body hh fr b=>
   obtain ⟨ln,fv,bv,gf,gc,hb,_⟩:=ha
   exact bytesB_any hb (BodyInv.hd hi) (BodyInv.room hi) hsz hv
 | bad1 hh b=>
   obtain ⟨_,ln,fv,fp,bv,hb⟩:=ha
   exact bytesB_any hb hi.1 hi.2 hsz hv
end Go.Proofs.YtflepnkpihfidaaGreatDoor
