/- Parts. No conditions but those that each theorem names. -/
import Derived.WalkKit
import Derived.WalkSpells
import Derived.WalkLawsBesides
import Derived.Deep.QuietTactic
import Derived.Deep.Draws
import Derived.BigQuiet
import Derived.Lib.Hide
import Derived.Lib.TrimByte
import Derived.Lib.Slices
import Derived.Lib.Strings
import Derived.Deep.RegionHeld3
import Derived.Deep.DeepCutAuto
import Derived.Maps.AppendAt
import Derived.RangeFuncLeaves
import Derived.RangeFuncOwn
import Derived.RangeFuncCalls
import Derived.TacticsIn
import Derived.OrdersIn
import Derived.Sort.CutIn
import Derived.StillTail
set_option linter.unusedVariables false
set_option linter.unusedSimpArgs false
namespace Go.Proofs.YtflepnkpihfidaaGreatDoor
open Go.RowKit
abbrev str (l:List UInt8):Value:=.string ⟨l.toArray⟩
theorem ba_get (l : List UInt8) (k : Nat) (h : k < (⟨l.toArray⟩ : ByteArray).size) : (⟨l.toArray⟩ : ByteArray)[k]'h = l[k]'h := rfl
theorem ba_extract (l:List UInt8) (a b:Nat):(⟨l.toArray⟩:ByteArray).extract a b=⟨((l.drop a).take (b-a)).toArray⟩:=ByteArray.extract_mk l a b
theorem take_drop_end (l:List UInt8) (n:Nat):(l.drop n).take (l.length-n)=l.drop n:=List.take_of_length_le (by simp)
theorem ba_append (a b:List UInt8):(⟨a.toArray⟩:ByteArray)++(⟨b.toArray⟩:ByteArray)=⟨(a++b).toArray⟩:=by
 apply ByteArray.ext;simp
attribute [go_sem] ba_get ba_extract take_drop_end ba_append
theorem nil_or_snoc {α:Type} (l:List α):l=[]∨∃t c,l=t++[c]:=by
 rcases List.eq_nil_or_concat l with h | ⟨t,c,h⟩
 ·exact .inl h
 ·exact .inr ⟨t,c,by rw [h,List.concat_eq_append]⟩
abbrev Gr (w w':World):Prop:=Below w.heap.size w w'
theorem Gr.refl (w:World):Gr w w:=Below.refl _ _
theorem Gr.tr {a b c:World} (h:Gr a b) (k:Gr b c):Gr a c:=Below.trans h (Below.mono k h.size)
theorem Gr.dr {a b:World} (h:Gr a b):Gr a b.drew:=Below.drew h
theorem Gr.drN {a b:World} (h:Gr a b) (n:Nat):Gr a (b.drewN n):=⟨h.os,h.tape,h.output,h.size,h.block⟩
theorem Gr.al {a b:World} (h:Gr a b) (o:Obj):Gr a (b.alloc o):=Below.alloc h h.size o
theorem Gr.st {a b:World} (h:Gr a b) {p:Addr} (hp:a.heap.size≤p.block) (u:Value):Gr a (b.setCell p u):=Below.setCell h hp u
theorem Gr.cell {a b:World} (h:Gr a b) {p:Addr} {v:Value} (hc:a.cell? p=some v):b.cell? p=some v:=by
 rw [Below.cell h ?_];exact hc
 rcases Nat.lt_or_ge p.block a.heap.size with hl | hg
 ·exact hl
 ·simp [World.cell?,Array.getElem?_eq_none hg] at hc
theorem Gr.by {a b:World} (h:Gr a b) (r:Option Nat):a.grownBy b r:=⟨h.os,h.tape,h.output,h.size,fun k hk _=>h.block k hk⟩
def Bk (w:World) (g:Nat) (t:TypeId) (cs:Array Value) (fr:Nat×Nat):Prop:=w.heap[g]?=some (.cells cs t fr)
theorem Bk.lt {w:World} {g t cs fr} (h:Bk w g t cs fr):g < w.heap.size:=by
 rcases Nat.lt_or_ge g w.heap.size with hl | hl
 ·exact hl
 ·unfold Bk at h;rw [Array.getElem?_eq_none hl] at h;cases h
theorem Bk.cell {w:World} {g t cs fr} (h:Bk w g t cs fr) (i:Nat):w.cell? ⟨g,i,none⟩=cs[i]?:=by
 unfold Bk at h;simp [World.cell?,h]
theorem Bk.free {w:World} {g t cs fr} (h:Bk w g t cs fr) (i:Nat) (hi:i < fr.1∨fr.2≤i):w.frozen? ⟨g,i,none⟩=false:=by
 unfold Bk at h;obtain ⟨lo,hi'⟩:=fr;simp [World.frozen?,h];intro;omega
theorem Bk.new (w:World) (t:TypeId) (cs:Array Value) (fr:Nat×Nat):Bk (w.alloc (.cells cs t fr)) w.heap.size t cs fr:=by
 show (w.heap.push _)[w.heap.size]?=_;simp
theorem Bk.set {w:World} {g t cs fr} (h:Bk w g t cs fr) (i:Nat) (u:Value):Bk (w.setCell ⟨g,i,none⟩ u) g t (cs.setIfInBounds i u) fr:=by
 unfold Bk at *;simp [World.setCell,Array.getElem?_modify,h]
theorem Bk.far {w:World} {g t cs fr} (h:Bk w g t cs fr) {p:Addr} (hp:g≠p.block) (u:Value):Bk (w.setCell p u) g t cs fr:=(Below.heap_setCell w p u g hp).trans h
theorem Bk.al {w:World} {g t cs fr} (h:Bk w g t cs fr) (o:Obj):Bk (w.alloc o) g t cs fr:=(Below.heap_alloc w o g h.lt).trans h
theorem Bk.gr {w w':World} {g t cs fr} (h:Bk w g t cs fr) (k:Gr w w'):Bk w' g t cs fr:=(k.block g h.lt).trans h
def Sl (w:World) (v:Value) (n:Nat) (cs:List Value):Prop:=
 ∃A c,v=.slice A n c∧n≤c∧n≤9223372036854775807∧(cs=[]∨∃b o,A=some ⟨b,o,none⟩∧b < w.heap.size∧∀(j:Nat) u,cs[j]?=some u→w.cell? ⟨b,o+j,none⟩=some u)
theorem Sl.gr {w w':World} {v:Value} {n:Nat} {cs:List Value} (h:Sl w v n cs) (g:Gr w w'):Sl w' v n cs:=by
 obtain ⟨A,c,hv,hc,hm,h⟩:=h
 refine ⟨A,c,hv,hc,hm,?_⟩
 rcases h with h | ⟨b,o,hA,hb,hj⟩
 ·exact .inl h
 ·exact .inr ⟨b,o,hA,Nat.lt_of_lt_of_le hb g.size,fun j u hu=>Gr.cell g (hj j u hu)⟩
structure Grw (w:World) where
 val:World
 gr:Gr w val
instance (w:World):Nonempty (Grw w):=⟨⟨w,Gr.refl w⟩⟩
def gw (w:World) (i:Grw w):World:=i.val
theorem gw_gr (w:World) (i:Grw w):Gr w (gw w i):=i.gr
theorem gw_ex {w w':World} (h:Gr w w'):∃i,w'=gw w i:=⟨⟨w',h⟩,rfl⟩
theorem wp_region_gw {P:Program} {id:Nat} {Q:Exit→Act→World→Prop} {a:Act} {w:World} {l:List Oper} (hm:P.follows .mixedOrders=true) (hB:Region.lexB .any l.toArray=true)
  (h:wpQuiet P l.toArray (fun w'=>∃i,w'=gw w i) (fun a'=>∀w',(∃i,w'=gw w i)→Q .normal a' w') l a):(Code.region id l.toArray true).wp P Q a w:=
 wp_region_quiet (C:=fun w'=>∃i,w'=gw w i) hm hB (gw_ex (Gr.dr (Gr.refl w))) (by simpa using h)
theorem gw_call {P:Program} {f:FuncId} {args:Array Value} {w:World} {i:Grw w} {v:Value}
  (h:Calls P f args (gw w i) fun e w'=>e=.returned v∧Gr (gw w i) w'):Calls P f args (gw w i) fun e w''=>e=.returned v∧∃j,w''=gw w j:=
 h.mono fun _ _ ⟨he,hm⟩=>⟨he,gw_ex (Gr.tr (gw_gr w i) hm)⟩
def Strs (w:World) (v:Value) (xs:List (List UInt8)):Prop:=Sl w v xs.length (xs.map str)
def flat2 (fs:List (List UInt8×List UInt8)):List Value:=fs.flatMap fun f=>[str f.1,str f.2]
def Flds (w:World) (v:Value) (fs:List (List UInt8×List UInt8)):Prop:=Sl w v fs.length (flat2 fs)
theorem Strs.gr {w w':World} {v:Value} {xs} (h:Strs w v xs) (g:Gr w w'):Strs w' v xs:=Sl.gr h g
theorem Flds.gr {w w':World} {v:Value} {xs} (h:Flds w v xs) (g:Gr w w'):Flds w' v xs:=Sl.gr h g
end Go.Proofs.YtflepnkpihfidaaGreatDoor
namespace Go.Proofs.YtflepnkpihfidaaGreatDoor
open Go.RowKit
theorem Sl.open {w:World} {v:Value} {n:Nat} {cs:List Value} (h:Sl w v n cs):∃A c,v=.slice A n c∧n≤c∧n≤9223372036854775807∧(∀(j:Nat) (u:Value),cs[j]?=some u→∃b o,A=some ⟨b,o,none⟩∧b < w.heap.size∧∀(j:Nat) u,cs[j]?=some u→w.cell? ⟨b,o+j,none⟩=some u):=by
 obtain ⟨A,c,hv,hc,hm,h⟩:=h
 refine ⟨A,c,hv,hc,hm,fun j u hu=>?_⟩
 rcases h with h | h
 ·rw [h] at hu;simp at hu
 ·exact h
theorem flat2_len (fs:List (List UInt8×List UInt8)):(flat2 fs).length=fs.length*2:=by
 induction fs with
 | nil=>rfl
 | cons f fs ih=>simp only [flat2,List.flatMap_cons,List.length_append,List.length_cons,List.length_nil] at *;omega
theorem flat2_cons (f:List UInt8×List UInt8) (fs:List (List UInt8×List UInt8)):flat2 (f::fs)=str f.1::str f.2::flat2 fs:=rfl
theorem flat2_append (a b:List (List UInt8×List UInt8)):flat2 (a++b)=flat2 a++flat2 b:=by simp [flat2]
theorem flat2_at (fs:List (List UInt8×List UInt8)) (k:Nat) (h:k < fs.length):(flat2 fs)[k*2]?=some (str fs[k].1)∧(flat2 fs)[k*2+1]?=some (str fs[k].2):=by
 induction fs generalizing k with
 | nil=>simp at h
 | cons f fs ih=>
   rw [flat2_cons]
   cases k with
   | zero=>simp
   | succ k=>
     have:=ih k (by simpa using h)
     rw [show (k+1)*2=k*2+1+1 from by omega]
     simpa using this
theorem Strs.open {w:World} {v:Value} {xs:List (List UInt8)} (h:Strs w v xs):∃A c,v=.slice A xs.length c∧xs.length≤c∧xs.length≤9223372036854775807∧∀(k:Nat) (hk:k < xs.length),∃b o,A=some ⟨b,o,none⟩∧b < w.heap.size∧w.cell? ⟨b,o+k,none⟩=some (str xs[k]):=by
 obtain ⟨A,c,hv,hc,hm,ho⟩:=Sl.open h
 refine ⟨A,c,hv,hc,hm,fun k hk=>?_⟩
 have he:(xs.map str)[k]?=some (str xs[k]):=by simp [List.getElem?_eq_getElem hk]
 obtain ⟨b,o,hA,hb,hj⟩:=ho k _ he
 exact ⟨b,o,hA,hb,hj k _ he⟩
theorem Flds.open {w:World} {v:Value} {xs:List (List UInt8×List UInt8)} (h:Flds w v xs):∃A c,v=.slice A xs.length c∧xs.length≤c∧xs.length≤9223372036854775807∧∀(k:Nat) (hk:k < xs.length),∃b o,A=some ⟨b,o,none⟩∧b < w.heap.size∧w.cell? ⟨b,o+k*2,none⟩=some (str xs[k].1)∧w.cell? ⟨b,o+k*2+1,none⟩=some (str xs[k].2):=by
 obtain ⟨A,c,hv,hc,hm,ho⟩:=Sl.open h
 refine ⟨A,c,hv,hc,hm,fun k hk=>?_⟩
 obtain ⟨e1,e2⟩:=flat2_at xs k hk
 obtain ⟨b,o,hA,hb,hj⟩:=ho _ _ e1
 exact ⟨b,o,hA,hb,hj _ _ e1,by rw [Nat.add_assoc];exact hj _ _ e2⟩
def Short (xs:List (List UInt8)):Prop:=∀x∈xs,x.length≤140737488355328
def Short2 (xs:List (List UInt8×List UInt8)):Prop:=∀x∈xs,x.1.length≤140737488355328∧x.2.length≤140737488355328
theorem Short2.at {xs} (h:Short2 xs) (k:Nat) (hk:k < xs.length):xs[k].1.length≤140737488355328∧xs[k].2.length≤140737488355328:=h _ (List.getElem_mem hk)
theorem Short.at {xs} (h:Short xs) (k:Nat) (hk:k < xs.length):xs[k].length≤140737488355328:=h _ (List.getElem_mem hk)
end Go.Proofs.YtflepnkpihfidaaGreatDoor
namespace Go.Proofs.YtflepnkpihfidaaGreatDoor
open Go.RowKit
structure ElemOk (P:Program) (t e:TypeId) (z:Value) (size bytes:Nat):Prop where
 ht:P.underlying t=some (.slice e)
 hi:(P.info? e).map (fun i=>(i.zero,i.size,i.bytes))=some (some z,size,bytes)
 hzs:z.cells.size=size
 hsz:0 < size
abbrev Own (W0 w:World) (e:TypeId) (size:Nat) (v:Value) (n:Nat) (xs:List Value):Prop:=w.ownsRow W0.heap.size e size v n xs
theorem Own.nil (W0 w:World) (e:TypeId) (size:Nat):Own W0 w e size (.slice none 0 0) 0 []:=⟨by simp,.inl ⟨rfl,rfl⟩⟩
theorem Own.gr {W0 w w':World} {e:TypeId} {size:Nat} {v:Value} {n:Nat} {xs:List Value} (h:Own W0 w e size v n xs) (g:Gr w w'):Own W0 w' e size v n xs:=by
 refine ⟨h.1,?_⟩
 rcases h.2 with hn | ⟨b,cap,cur,hv,hb,hh,r⟩
 ·exact .inl hn
 ·refine .inr ⟨b,cap,cur,hv,hb,?_,r⟩
  rw [g.block b (by rcases Nat.lt_or_ge b w.heap.size with hl | hl
                    ·exact hl
                    ·rw [Array.getElem?_eq_none hl] at hh;cases hh)]
  exact hh
theorem Own.al {W0 w:World} {e:TypeId} {size:Nat} {v:Value} {n:Nat} {xs:List Value} (h:Own W0 w e size v n xs) (o:Obj):Own W0 (w.alloc o) e size v n xs:=World.ownsRow.alloc h o
theorem Own.dr {W0 w:World} {e:TypeId} {size:Nat} {v:Value} {n:Nat} {xs:List Value} (h:Own W0 w e size v n xs):Own W0 w.drew e size v n xs:=h
theorem Own.sl {W0 w:World} {e:TypeId} {size:Nat} {v:Value} {n:Nat} {xs:List Value} (h:Own W0 w e size v n xs) (_hs:0 < size):Sl w v n xs:=by
 rcases h.2 with ⟨hv,hn⟩ | ⟨b,cap,cur,hv,hb,hh,hc,hm,hz,ht⟩
 ·subst hn
  have:xs=[]:=List.eq_nil_of_length_eq_zero (by rw [h.1];omega)
  exact ⟨none,0,hv,Nat.le_refl _,by omega,.inl this⟩
 ·refine ⟨_,cap,hv,hc,by unfold maxLen at hm;omega,.inr ⟨b,0,rfl,?_,fun j u hu=>?_⟩⟩
  ·rcases Nat.lt_or_ge b w.heap.size with hl | hl
   ·exact hl
   ·rw [Array.getElem?_eq_none hl] at hh;cases hh
  ·rw [Nat.zero_add,(show Bk w b e cur (0,0) from hh).cell j,←Array.getElem?_toList]
   rw [←ht] at hu
   rw [List.getElem?_take] at hu
   split at hu
   ·exact hu
   ·cases hu
theorem Own.form {W0 w:World} {e:TypeId} {size:Nat} {v:Value} {n:Nat} {xs:List Value} (h:Own W0 w e size v n xs):∃A c,v=.slice A n c:=by
 rcases h.2 with ⟨hv,hn⟩ | ⟨b,cap,cur,hv,_⟩
 ·subst hn;exact ⟨none,0,hv⟩
 ·exact ⟨_,cap,hv⟩
theorem gr_append {W0 w w':World} {e:TypeId} {size:Nat} {v:Value} {n:Nat} {xs:List Value} (g:Gr W0 w) (h:Own W0 w e size v n xs) (k:w.grownBy w' v.ownBlock):Gr W0 w':=
 Below.grown g k g.size (fun b hb=>(World.ownsRow.lt h b hb).1)
theorem wpList_app1 {P:Program} {ops:Array Oper} {rest:List Oper} {o:Oper} {a:Act} {Q:Exit→Act→World→Prop} {W0 W:World} {t e:TypeId} {z:Value} {size bytes:Nat} {v:Value} {n:Nat} {xs news:List Value}
  (hE:ElemOk P t e z size bytes) (hgd:o.guard=none) (s x:Operand) (ho:o.op=.call { callee:=.builtin .append,args:=#[s,x],argTypes:=#[t,t] })
  (hs:a.eval s=v) (hx:a.eval x=.slice (some ⟨W.heap.size,0,none⟩) 1 1) (hG:Gr W0 W) (hown:Own W0 W e size v n xs) (hl:news.length=size) (h1:∀u∈news,u.oneCell'=true)
  (hn:n≤1000000000) (hb:bytes≤1000)
  (h:∀v' w',Own W0 w' e size v' (n+1) (xs++news)→Gr W0 w'→wpList P ops Q rest (a.put o.dst v') w'):wpList P ops Q (o::rest) a (W.alloc (.cells news.toArray e)):=by
 obtain ⟨i,hi,hz0,hz1,hz2⟩:=info_parts hE.hi
 refine wpList_append_own (W.alloc (.cells news.toArray e)) hgd s x t ho W0.heap.size e i z size bytes hE.ht hi hz0 hz1 hz2 hE.hzs hE.hsz v n xs hs (hown.al _) ⟨W.heap.size,0,none⟩ 1 1 news hx (by omega) ?_ h1 (by unfold maxLen;omega) ?_ ?_ ?_
 ·intro j u hu
  have e1:(Addr.mk W.heap.size 0 none).add j=⟨W.heap.size,j,none⟩:=by unfold Addr.add;split <;> simp_all
  rw [e1,(Bk.new W e news.toArray (0,0)).cell j]
  simpa using hu
 ·have:(n+1)*bytes≤1000000001*1000:=Nat.mul_le_mul (by omega) hb
  omega
 ·have:=(Gr.al hG (.cells news.toArray e)).size;omega
 ·intro v' w' h2 h3 _
  exact h v' w' h2 (gr_append (Gr.al hG _) (hown.al _) h3)
structure App (v v':Value) (W w':World):Prop where
 grown:W.grownBy w' v.ownBlock
 at_:v'.ownBlock=v.ownBlock∨∃b,v'.ownBlock=some b∧W.heap.size≤b
theorem by_of_alloc {w w':World} {o:Obj} {r:Option Nat} (h:(w.alloc o).grownBy w' r):w.grownBy w' r:=by
 have hs:=(Gr.al (Gr.refl w) o)
 exact ⟨h.os,h.tape,h.output,Nat.le_trans hs.size h.size,fun k hk hr=>(h.block k (Nat.lt_of_lt_of_le hk hs.size) hr).trans (hs.block k hk)⟩
theorem wpList_app1x {P:Program} {ops:Array Oper} {rest:List Oper} {o:Oper} {a:Act} {Q:Exit→Act→World→Prop} {W0 W:World} {t e:TypeId} {z:Value} {size bytes:Nat} {v:Value} {n:Nat} {xs news:List Value}
  (hE:ElemOk P t e z size bytes) (hgd:o.guard=none) (s x:Operand) (ho:o.op=.call { callee:=.builtin .append,args:=#[s,x],argTypes:=#[t,t] })
  (hs:a.eval s=v) (hx:a.eval x=.slice (some ⟨W.heap.size,0,none⟩) 1 1) (hB:W0.heap.size≤W.heap.size) (hown:Own W0 W e size v n xs) (hl:news.length=size) (h1:∀u∈news,u.oneCell'=true)
  (hn:n≤1000000000) (hb:bytes≤1000)
  (h:∀v' w',Own W0 w' e size v' (n+1) (xs++news)→App v v' W w'→wpList P ops Q rest (a.put o.dst v') w'):wpList P ops Q (o::rest) a (W.alloc (.cells news.toArray e)):=by
 obtain ⟨i,hi,hz0,hz1,hz2⟩:=info_parts hE.hi
 obtain ⟨v',w',hr,h2,h3,_,h5⟩:=run_append_own_at (P:=P) (W.alloc (.cells news.toArray e)) W0.heap.size t o.type e i z size bytes hE.ht hi hz0 hz1 hz2 hE.hzs hE.hsz v n xs (hown.al _) ⟨W.heap.size,0,none⟩ 1 1 news (by omega)
  (by
   intro j u hu
   have e1:(Addr.mk W.heap.size 0 none).add j=⟨W.heap.size,j,none⟩:=by unfold Addr.add;split <;> simp_all
   rw [e1,(Bk.new W e news.toArray (0,0)).cell j]
   simpa using hu) h1 (by unfold maxLen;omega)
  (by have:(n+1)*bytes≤1000000001*1000:=Nat.mul_le_mul (by omega) hb
      omega)
  (by have:=(Gr.al (Gr.refl W) (.cells news.toArray e)).size;omega)
 refine wpList_plain hgd fun K hK=>?_
 unfold Oper.wp execOp
 simp only [ho,resolve,invoke,builtin,Sem.run_bind,Sem.run_pure,Result.andThen_ok,List.map_toArray,List.map_cons,List.map_nil,hs,hx,hr]
 refine hK _ _ (h v' w' h2 ⟨by_of_alloc h3,?_⟩)
 rcases h5 with h5 | h5
 ·exact .inl h5
 ·exact .inr ⟨_,h5,by have:=(Gr.al (Gr.refl W) (.cells news.toArray e)).size;omega⟩
theorem App.gr {W0 W w':World} {v v':Value} {e:TypeId} {size n:Nat} {xs:List Value} (h:App v v' W w') (g:Gr W0 W) (ho:Own W0 W e size v n xs):Gr W0 w':=gr_append g ho h.grown
theorem Sl.kept {w w':World} {v:Value} {n:Nat} {cs:List Value} {r:Option Nat} (h:Sl w v n cs) (g:w.grownBy w' r) (hr:v.ownBlock=none∨v.ownBlock≠r):Sl w' v n cs:=by
 obtain ⟨A,c,rfl,hc,hm,h⟩:=h
 refine ⟨A,c,rfl,hc,hm,?_⟩
 rcases h with h | ⟨b,o,hA,hb,hj⟩
 ·exact .inl h
 ·subst hA
  have hne:some b≠r:=by
   rcases hr with hr | hr
   ·simp [Value.ownBlock] at hr
   ·simpa [Value.ownBlock] using hr
  refine .inr ⟨b,o,rfl,Nat.lt_of_lt_of_le hb g.size,fun j u hu=>?_⟩
  rw [World.cell?_of_block (g.block b hb hne)];exact hj j u hu
theorem run_append_src {P:Program} {W0 W:World} {t ty e:TypeId} {z:Value} {size bytes:Nat} {v u:Value} {n m:Nat} {xs news:List Value}
  (hE:ElemOk P t e z size bytes) (hB:W0.heap.size≤W.heap.size) (hown:Own W0 W e size v n xs) (hu:Sl W u m news) (hl:news.length=m*size) (h1:∀u∈news,u.oneCell'=true)
  (hn:n+m≤1000000000) (hb:bytes≤1000) :
  ∃v' w',(Builtin.append_ #[t,t] ty #[v,u]).run P W=.ok v' w'∧Own W0 w' e size v' (n+m) (xs++news)∧App v v' W w':=by
 obtain ⟨i,hi,hz0,hz1,hz2⟩:=info_parts hE.hi
 have hsz:=hE.hsz
 obtain ⟨A,c,rfl,hc,hm,hh⟩:=hu
 have key:∀ad:Addr,A=some ad→(∀j u,news[j]?=some u→W.cell? (ad.add j)=some u)→∃v' w',(Builtin.append_ #[t,t] ty #[v,.slice A m c]).run P W=.ok v' w'∧Own W0 w' e size v' (n+m) (xs++news)∧App v v' W w':=by
  intro ad hA hcells
  subst hA
  obtain ⟨v',w',hr,h2,h3,_,h5⟩:=run_append_own_at (P:=P) W W0.heap.size t ty e i z size bytes hE.ht hi hz0 hz1 hz2 hE.hzs hsz v n xs hown ad m c news hl hcells h1 (by unfold maxLen;omega)
   (by have:(n+m)*bytes≤1000000000*1000:=Nat.mul_le_mul hn hb
       omega) hB
  refine ⟨v',w',hr,h2,h3,?_⟩
  rcases h5 with h5 | h5
  ·exact .inl h5
  ·exact .inr ⟨_,h5,Nat.le_refl _⟩
 cases A with
 | none=>
   have hnews:news=[]:=by
    rcases hh with hh | ⟨b,o,hA,_⟩
    ·exact hh
    ·cases hA
   subst hnews
   have hm0:m=0:=by
    simp only [List.length_nil] at hl
    rcases Nat.eq_zero_or_pos m with h | h
    ·exact h
    ·have:=Nat.mul_pos h hsz;omega
   subst hm0
   refine ⟨v,W,?_,by simpa using hown,(Gr.refl W).by _,.inl rfl⟩
   rcases hown.2 with ⟨rfl,rfl⟩ | ⟨g,cap,cur,rfl,_,_,hnc,_⟩
   ·simp [Builtin.append_,run_underlying hE.ht,sizeOf,typeInfo,hi,Builtin.lenOf,Builtin.firstCells]
   ·simp [Builtin.append_,run_underlying hE.ht,sizeOf,typeInfo,hi,Builtin.lenOf,Builtin.firstCells,hnc,storeCells]
 | some ad=>
   refine key ad rfl (fun j u hu=>?_)
   rcases hh with hh | ⟨b,o,hA,_,hj⟩
   ·rw [hh] at hu;simp at hu
   ·injection hA with hA
    subst hA
    have e1:(Addr.mk b o none).add j=⟨b,o+j,none⟩:=by unfold Addr.add;split <;> simp_all
    rw [e1];exact hj j u hu
theorem wpList_appS {P:Program} {ops:Array Oper} {rest:List Oper} {o:Oper} {a:Act} {Q:Exit→Act→World→Prop} {W0 W:World} {t e:TypeId} {z:Value} {size bytes:Nat} {v u:Value} {n m:Nat} {xs news:List Value}
  (hE:ElemOk P t e z size bytes) (hgd:o.guard=none) (s x:Operand) (ho:o.op=.call { callee:=.builtin .append,args:=#[s,x],argTypes:=#[t,t] })
  (hs:a.eval s=v) (hx:a.eval x=u) (hB:W0.heap.size≤W.heap.size) (hown:Own W0 W e size v n xs) (hu:Sl W u m news) (hl:news.length=m*size) (h1:∀u∈news,u.oneCell'=true)
  (hn:n+m≤1000000000) (hb:bytes≤1000)
  (h:∀v' w',Own W0 w' e size v' (n+m) (xs++news)→App v v' W w'→wpList P ops Q rest (a.put o.dst v') w'):wpList P ops Q (o::rest) a W:=by
 obtain ⟨v',w',hr,h2,h3⟩:=run_append_src (ty:=o.type) hE hB hown hu hl h1 hn hb
 refine wpList_plain hgd fun K hK=>?_
 unfold Oper.wp execOp
 simp only [ho,resolve,invoke,builtin,Sem.run_bind,Sem.run_pure,Result.andThen_ok,List.map_toArray,List.map_cons,List.map_nil,hs,hx,hr]
 exact hK _ _ (h v' w' h2 h3)
theorem op_appS {P:Program} {o:Oper} {a:Act} {K:Act→World→Prop} {Q:Exit→Act→World→Prop} {W0 W:World} {t e:TypeId} {z:Value} {size bytes:Nat} {v u:Value} {n m:Nat} {xs news:List Value}
  (hE:ElemOk P t e z size bytes) (s x:Operand) (ho:o.op=.call { callee:=.builtin .append,args:=#[s,x],argTypes:=#[t,t] })
  (hs:a.eval s=v) (hx:a.eval x=u) (hB:W0.heap.size≤W.heap.size) (hown:Own W0 W e size v n xs) (hu:Sl W u m news) (hl:news.length=m*size) (h1:∀u∈news,u.oneCell'=true)
  (hn:n+m≤1000000000) (hb:bytes≤1000)
  (h:∀v' w',Own W0 w' e size v' (n+m) (xs++news)→App v v' W w'→K (a.put o.dst v') w'):o.wp P a W K Q:=by
 obtain ⟨v',w',hr,h2,h3⟩:=run_append_src (P:=P) (ty:=o.type) hE hB hown hu hl h1 hn hb
 unfold Oper.wp execOp
 simp only [ho,resolve,invoke,builtin,Sem.run_bind,Sem.run_pure,Result.andThen_ok,List.map_toArray,List.map_cons,List.map_nil,hs,hx,hr]
 exact h v' w' h2 h3
end Go.Proofs.YtflepnkpihfidaaGreatDoor
namespace Go.Proofs.YtflepnkpihfidaaGreatDoor
open Go.RowKit
theorem by_tr {a b c:World} {r:Option Nat} (h:a.grownBy b r) (k:Gr b c):a.grownBy c r:=
 ⟨k.os.trans h.os,k.tape.trans h.tape,k.output.trans h.output,Nat.le_trans h.size k.size,fun i hi hr=>(k.block i (Nat.lt_of_lt_of_le hi h.size)).trans (h.block i hi hr)⟩
theorem by_cell {a b:World} {r:Option Nat} (h:a.grownBy b r) {p:Addr} {v:Value} (hc:a.cell? p=some v) (hr:some p.block≠r):b.cell? p=some v:=by
 have hl:p.block < a.heap.size:=by
  rcases Nat.lt_or_ge p.block a.heap.size with hl | hg
  ·exact hl
  ·simp [World.cell?,Array.getElem?_eq_none hg] at hc
 rw [World.cell?_of_block (h.block p.block hl hr)];exact hc
theorem by_st {a b:World} {g:Nat} (h:a.grownBy b (some g)) (i:Nat) (u:Value):a.grownBy (b.setCell ⟨g,i,none⟩ u) (some g):=
 ⟨h.os,h.tape,h.output,by simpa [World.setCell] using h.size,fun k hk hr=>(Below.heap_setCell b ⟨g,i,none⟩ u k (by rintro rfl;exact hr rfl)).trans (h.block k hk hr)⟩
structure Gxw (w:World) (r:Option Nat) where
 val:World
 ok:w.grownBy val r
instance (w:World) (r:Option Nat):Nonempty (Gxw w r):=⟨⟨w,(Gr.refl w).by r⟩⟩
def gx (w:World) (r:Option Nat) (i:Gxw w r):World:=i.val
theorem gx_by (w:World) (r:Option Nat) (i:Gxw w r):w.grownBy (gx w r i) r:=i.ok
theorem gx_cell {w:World} {r:Option Nat} {p:Addr} {v:Value} (hc:w.cell? p=some v) (hr:some p.block≠r) (i:Gxw w r):(gx w r i).cell? p=some v:=by_cell i.ok hc hr
def gqUpon (P:Program) (w:World) (v:Value):Result Next→Prop
 | .ok (.value u) w'=>w'=w∧u=v
 | .ok .skip w'=>w'=w∧v=undef
 | .ok (.enter f args) w'=>w'=w∧Calls P f args w (fun e w''=>e=.returned v∧Gr w w'')
 | _=>False
def gqOp (P:Program) (o:Oper) (a:Act) (w:World) (r:Option Nat) (next:Act→Prop):Prop:=
 ∃v,(∀i:Gxw w r,gqUpon P (gx w r i) v ((execOp a.eval o).run P (gx w r i)))∧next (a.put o.dst v)
def wpGq (P:Program) (ops:Array Oper) (w:World) (r:Option Nat) (Q:Act→Prop):List Oper→Act→Prop
 | [],a=>Q a
 | o::rest,a=>if Region.wanted o (yielded ops a.tmps) then gqOp P o a w r (wpGq P ops w r Q rest) else wpGq P ops w r Q rest (a.put o.dst undef)
attribute [go_sem] gqUpon gqOp
theorem wpGq_nil {P:Program} {ops:Array Oper} {w:World} {r:Option Nat} {Q:Act→Prop} {a:Act} (h:Q a):wpGq P ops w r Q [] a:=h
theorem wpGq_step {P:Program} {ops:Array Oper} {w:World} {r:Option Nat} {Q:Act→Prop} {a:Act} {o:Oper} {rest:List Oper}
  (h:∀K:Act→Prop,(∀a,wpGq P ops w r Q rest a→K a)→if Region.wanted o (yielded ops a.tmps) then gqOp P o a w r K else K (a.put o.dst undef)):wpGq P ops w r Q (o::rest) a:=h _ (fun _ h=>h)
section
variable {P : Program} {ops : Array Oper} {md : Region.Mode} {Q : Exit → Act → World → Prop} {w0 : World} {r : Option Nat}
def wpG (P:Program) (md:Region.Mode) (ops:Array Oper) (Q:Exit→Act→World→Prop) (w0:World) (r:Option Nat):Nat→Array Bool→Act→World→Prop
 | 0,listed,a,w=>∀w',Gr w w'→Region.ready md ops listed=[]∧Q .normal a w'
 | fuel+1,listed,a,w=>∀w',Gr w w'→(Region.ready md ops listed=[]→Q .normal a w')∧
   ∀i∈Region.ready md ops listed,wpOp P ops Q i (fun a'' w''=>w0.grownBy w'' r∧wpG P md ops Q w0 r fuel (listed.setIfInBounds i true) a'' w'') a w'
theorem wpG_any:∀(fuel:Nat) (listed:Array Bool) (a:Act) (w:World),wpG P md ops Q w0 r fuel listed a w→wpAny P md ops Q fuel listed a w
 | 0,_,_,w,h=>h w (Gr.refl w)
 | fuel+1,_,_,w,h=>⟨(h w (Gr.refl w)).1,fun i hi=>wpOp_mono (fun a' w' h'=>wpG_any fuel _ a' w' h'.2) ((h w (Gr.refl w)).2 i hi)⟩
theorem wpG_mono {fuel:Nat} {listed:Array Bool} {a:Act} {w w1:World} (hg:Gr w w1) (h:wpG P md ops Q w0 r fuel listed a w):wpG P md ops Q w0 r fuel listed a w1:=by
 cases fuel with
 | zero=>intro w' hw';exact h w' (Gr.tr hg hw')
 | succ fuel=>intro w' hw';exact h w' (Gr.tr hg hw')
def YieldsG (P:Program) (ops:Array Oper) (w0:World) (r:Option Nat) (o:Oper) (v:Value) (a:Act):Prop:=
 (Region.wanted o (yielded ops a.tmps)=true∧∀w',w0.grownBy w' r→gqUpon P w' v ((execOp a.eval o).run P w'))∨(Region.wanted o (yielded ops a.tmps)=false∧v=undef)
theorem YieldsG.of_same {o:Oper} {v:Value} {a a':Act} (hy:YieldsG P ops w0 r o v a) (he:execOp a'.eval o=execOp a.eval o)
  (hw:Region.wanted o (yielded ops a'.tmps)=Region.wanted o (yielded ops a.tmps)):YieldsG P ops w0 r o v a':=by
 unfold YieldsG at *;rw [he,hw];exact hy
theorem YieldsG.wpOp {i:Nat} {o:Oper} {v:Value} {a:Act} (hi:ops[i]?=some o) (hy:YieldsG P ops w0 r o v a) {K:Act→World→Prop} {w:World} (hw0:w0.grownBy w r)
  (h:∀w',Gr w w'→K (a.put o.dst v) w'):Go.wpOp P ops Q i K a w:=by
 unfold Go.wpOp
 simp only [hi]
 rcases hy with ⟨hw,hv⟩ | ⟨hw,rfl⟩
 ·simp only [hw,if_true]
  refine .inl ?_
  have h3:=hv w hw0
  unfold Oper.wp
  generalize (execOp a.eval o).run P w=res at *
  cases res with
  | ok n w'=>
    cases n <;> simp only [gqUpon] at h3 <;> simp only [Oper.upon]
    case value u=>
     obtain ⟨e1,e2⟩:=h3
     rw [e1,e2];exact h _ (Gr.refl _)
    case skip=>
     obtain ⟨e1,e2⟩:=h3
     rw [e1,←e2];exact h _ (Gr.refl _)
    case enter f args=>
     obtain ⟨e1,hc⟩:=h3
     rw [e1]
     exact hc.mono fun e w'' ⟨he,hw''⟩=>by subst he;exact h _ hw''
  | halt x w'=>simp only [gqUpon] at h3
 ·simp only [hw,Bool.false_eq_true,if_false];exact h _ (Gr.refl _)
theorem wpOp_putG {j:Nat} {oi oj:Oper} {v:Value} (hj:ops[j]?=some oj) (hap:oi.apart ops oj=true)
  (hsi:∀cs b,oi.op≠.select cs b) (hsj:∀cs b,oj.op≠.select cs b)
  (hQ:∀c a w,Q (.panic c) (a.put oi.dst v) w→Q (.panic c) a w) {K:Act→World→Prop} {a:Act} {w:World}
  (hy:YieldsG P ops w0 r oi v a) (h:wpOp P ops Q j K (a.put oi.dst v) w) :
  wpOp P ops Q j (fun a' w'=>YieldsG P ops w0 r oi v a'∧K (a'.put oi.dst v) w') a w:=by
 obtain ⟨h1,h2,h3⟩:=Oper.apart_spec hap
 have keep:∀(a:Act),YieldsG P ops w0 r oi v a→∀u,YieldsG P ops w0 r oi v (a.put oj.dst u):=fun a hy u=>
  hy.of_same (execOp_put oi hsi a oj.dst u h3) (wanted_put oi a oj.dst u h3)
 have keepD:∀d,YieldsG P ops w0 r oi v { a with defers:=d::a.defers }:=fun d=>hy.of_same rfl rfl
 unfold wpOp at *
 simp only [hj] at *
 rw [wanted_put oj a oi.dst v h1] at h
 split
 ·rename_i hw
  simp only [hw,if_true] at h
  rcases h with h | ⟨hasks,hlets⟩
  case inr=>exact .inr ⟨by unfold Oper.asks at *;rw [execOp_put oj hsj a oi.dst v h1] at hasks;exact hasks,hlets⟩
  refine .inl ?_
  unfold Oper.wp at *
  rw [execOp_put oj hsj a oi.dst v h1] at h
  generalize (execOp a.eval oj).run P w=res at *
  cases res with
  | ok n w'=>
    cases n <;> simp only [Oper.upon] at h ⊢
    case value u=>exact ⟨keep a hy u,by rw [←Act.put_comm a v u h2];exact h⟩
    case skip=>exact ⟨keep a hy _,by rw [←Act.put_comm a v undef h2];exact h⟩
    case defer d=>
     refine ⟨keep _ (keepD d) _,?_⟩
     rw [←Act.put_comm _ v undef h2,←Act.put_defers]
     exact h
    case enter f args=>
     refine Calls.mono h fun e w'' he=>?_
     cases e with
     | returned u=>exact ⟨keep a hy u,by rw [←Act.put_comm a v u h2];exact he⟩
     | panicked c=>exact hQ _ _ _ he
     | outgrown=>exact he
    case row row args=>exact Rows.mono h fun u w'' he=>⟨keep a hy u,by rw [←Act.put_comm a v u h2];exact he⟩
  | halt x w'=>
    cases x <;> simp only [Oper.upon] at h ⊢
    case panic u=>exact hQ _ _ _ h
 ·rename_i hw
  simp only [hw] at h
  exact ⟨keep a hy _,by rw [←Act.put_comm a v undef h2];exact h⟩
theorem wpG_first {i:Nat} {oi:Oper} {v:Value} (hi:ops[i]?=some oi) (hsel:∀(j:Nat) (o:Oper) cs b,ops[j]?=some o→o.op≠.select cs b)
  (hQ:∀c a w,Q (.panic c) (a.put oi.dst v) w→Q (.panic c) a w) :
  ∀(fuel:Nat) (listed:Array Bool) (a:Act) (w:World),
   (∀j oj,ops[j]?=some oj→j≠i→listed.getD j true=false→(∀e∈oj.after,Region.binds md e=true→e.on≠i)→oi.apart ops oj=true)→
   i∈Region.ready md ops listed→YieldsG P ops w0 r oi v a→w0.grownBy w r→
   wpG P md ops Q w0 r fuel (listed.setIfInBounds i true) (a.put oi.dst v) w→wpG P md ops Q w0 r (fuel+1) listed a w:=by
 intro fuel
 induction fuel with
 | zero=>
   intro listed a w _ hr hy hw0 H w' hw'
   refine ⟨fun h=>(by rw [h] at hr;cases hr),fun j hj=>?_⟩
   by_cases hji:j=i
   ·subst hji;exact hy.wpOp hi (by_tr hw0 hw') (fun w2 h2=>⟨by_tr (by_tr hw0 hw') h2,wpG_mono (Gr.tr hw' h2) H⟩)
   ·have:=ready_mono hj hji
    rw [(H w (Gr.refl w)).1] at this
    cases this
 | succ fuel ih=>
   intro listed a w hfree hr hy hw0 H w' hw'
   refine ⟨fun h=>(by rw [h] at hr;cases hr),fun j hj=>?_⟩
   by_cases hji:j=i
   ·subst hji;exact hy.wpOp hi (by_tr hw0 hw') (fun w2 h2=>⟨by_tr (by_tr hw0 hw') h2,wpG_mono (Gr.tr hw' h2) H⟩)
   ·have h1:=(H w' hw').2 j (ready_mono hj hji)
    obtain ⟨hjun,oj,hoj,hall⟩:=mem_ready.1 hj
    have hnot:∀e∈oj.after,Region.binds md e=true→e.on≠i:=fun e he hb heq=>by
     have h1:=hall e he hb
     have h0:=(mem_ready.1 hr).1
     rw [heq] at h1
     rcases Nat.lt_or_ge i listed.size with h' | h'
     ·simp [h'] at h0 h1;rw [h0] at h1;cases h1
     ·simp [Array.getElem?_eq_none h'] at h1
    have h2:=wpOp_putG hoj (hfree j oj hoj hji hjun hnot) (fun cs b=>hsel i oi cs b hi) (fun cs b=>hsel j oj cs b hoj) hQ hy h1
    have hfree':∀k ok,ops[k]?=some ok→k≠i→(listed.setIfInBounds j true).getD k true=false→
      (∀e∈ok.after,Region.binds md e=true→e.on≠i)→oi.apart ops ok=true:=fun k ok hk hki hun hno=>by
     refine hfree k ok hk hki ?_ hno
     by_cases hjk:j=k
     ·subst hjk;exact hjun
     ·rw [getD_set_ne true hjk] at hun;exact hun
    refine wpOp_mono (fun a' w2 h3=>⟨h3.2.1,ih (listed.setIfInBounds j true) a' w2 hfree' (ready_mono hr (Ne.symm hji)) h3.1 h3.2.1 ?_⟩) h2
    rw [Array.setIfInBounds_comm _ _ hji]
    exact h3.2.2
def mixGo (md:Region.Mode) (ops:Array Oper):List Nat→Array Bool→Bool
 | [],_=>true
 | k::idx,listed=>(Region.ready md ops listed).contains k&&Region.free md ops listed k&&mixGo md ops idx (listed.setIfInBounds k true)
def mixB (md:Region.Mode) (ops:Array Oper) (idx:List Nat):Bool:=Region.noSelect ops&&mixGo md ops idx (Array.replicate ops.size false)
def mixAt (idx:List Nat) (listed:Array Bool):Array Bool:=idx.foldl (fun l k=>l.setIfInBounds k true) listed
theorem wpG_lex (hs:Region.noSelect ops=true) (hQ:∀(o:Option Tmp) (v:Value) c a w,Q (.panic c) (a.put o v) w→Q (.panic c) a w) {w:World} (hw0:w0.grownBy w r) (n:Nat):∀(idx:List Nat) (lq:List Oper) (listed:Array Bool) (a:Act),
  idx.map (ops[·]?)=lq.map some→mixGo md ops idx listed=true→
  wpGq P ops w0 r (fun a'=>wpG P md ops Q w0 r n (mixAt idx listed) a' w) lq a→wpG P md ops Q w0 r (idx.length+n) listed a w
 | [],[],_,_,_,_,h=>by
   rw [List.length_nil,Nat.zero_add];exact h
 | k::idx,o::lq,listed,a,hl,hB,h=>by
   simp only [List.map_cons,List.cons.injEq] at hl
   simp only [mixGo,Bool.and_eq_true] at hB
   obtain ⟨⟨hr,hf⟩,hB'⟩:=hB
   have hstep:∃v,YieldsG P ops w0 r o v a∧wpGq P ops w0 r (fun a'=>wpG P md ops Q w0 r n (mixAt (k::idx) listed) a' w) lq (a.put o.dst v):=by
    unfold wpGq at h
    by_cases hw:Region.wanted o (yielded ops a.tmps)=true
    ·simp only [hw,if_true] at h
     obtain ⟨v,h1,h2⟩:=h
     exact ⟨v,.inl ⟨hw,fun w' hw'=>h1 ⟨w',hw'⟩⟩,h2⟩
    ·simp only [hw] at h
     exact ⟨undef,.inr ⟨by simpa using hw,rfl⟩,h⟩
   obtain ⟨v,hy,hK⟩:=hstep
   rw [List.length_cons,show idx.length+1+n=(idx.length+n)+1 from by omega]
   exact wpG_first hl.1 (Region.noSelect_spec hs) (hQ _ v) _ listed a w (Region.free_spec hl.1 hf) (by simpa using hr) hy hw0 (wpG_lex hs hQ hw0 n idx lq _ _ hl.2 hB' hK)
 | [],_::_,_,_,hl,_,_=>by simp at hl
 | _::_,[],_,_,hl,_,_=>by simp at hl
def pickOps (l:List Oper) (idx:List Nat):List Oper:=idx.filterMap (l[·]?)
theorem pick_some {l:List Oper}:∀{idx:List Nat} {listed:Array Bool},mixGo md l.toArray idx listed=true→idx.map (l.toArray[·]?)=(pickOps l idx).map some
 | [],_,_=>rfl
 | k::idx,listed,h=>by
   simp only [mixGo,Bool.and_eq_true] at h
   obtain ⟨⟨hr,_⟩,h'⟩:=h
   have hr':k∈Region.ready md l.toArray listed:=by simpa using hr
   obtain ⟨_,o,ho,_⟩:=mem_ready.1 hr'
   have ho':l[k]?=some o:=by simpa using ho
   rw [List.map_cons,pick_some h',ho]
   simp [pickOps,ho']
theorem wp_region_mix {id:Nat} {a:Act} {w:World} {l:List Oper} (idx:List Nat) (r:Option Nat) (n:Nat) (hm:P.follows .mixedOrders=true) (hn:l.toArray.size=idx.length+n) (hB:mixB .any l.toArray idx=true)
  (hQ:∀(o:Option Tmp) (v:Value) c a w,Q (.panic c) (a.put o v) w→Q (.panic c) a w)
  (h:wpGq P l.toArray w r (fun a'=>wpG P .any l.toArray Q w r n (mixAt idx (Array.replicate l.toArray.size false)) a' w) (pickOps l idx) a):(Code.region id l.toArray true).wp P Q a w:=by
 simp only [mixB,Bool.and_eq_true] at hB
 refine wp_region_any hm ?_
 have hlq:idx.map (l.toArray[·]?)=(pickOps l idx).map some:=pick_some hB.2
 have h1:=wpG_lex (P:=P) (md:=.any) (ops:=l.toArray) (Q:=Q) (w0:=w) (r:=r) hB.1 hQ (w:=w) ((Gr.refl w).by r) n idx (pickOps l idx) _ a hlq hB.2 h
 rw [hn]
 rw [hn] at h1
 exact wpG_any _ _ _ _ (wpG_mono (Gr.dr (Gr.refl w)) h1)
theorem wpG_one {fuel:Nat} {listed:Array Bool} {a:Act} {w:World} (i:Nat) {o:Oper} (hr:Region.ready md ops listed=[i]) (ho:ops[i]?=some o) (hg:o.guard=none)
  (h:∀(K:Act→World→Prop),(∀a'' w'',w0.grownBy w'' r→wpG P md ops Q w0 r fuel (listed.setIfInBounds i true) a'' w''→K a'' w'')→∀w',Gr w w'→o.wp P a w' K Q):wpG P md ops Q w0 r (fuel+1) listed a w:=by
 intro w' hw'
 rw [hr]
 refine ⟨fun h=>by simp at h,fun j hj=>?_⟩
 simp only [List.mem_singleton] at hj
 subst hj
 unfold wpOp
 simp only [ho]
 have:Region.wanted o (yielded ops a.tmps)=true:=by simp [Region.wanted,hg]
 rw [if_pos this]
 exact .inl (h _ (fun a'' w'' h1 h2=>⟨h1,h2⟩) w' hw')
theorem wpG_done {fuel:Nat} {listed:Array Bool} {a:Act} {w:World} (hr:Region.ready md ops listed=[]) (h:∀w',Gr w w'→Q .normal a w'):wpG P md ops Q w0 r fuel listed a w:=by
 cases fuel with
 | zero=>intro w' hw';exact ⟨hr,h w' hw'⟩
 | succ fuel=>intro w' hw';exact ⟨fun _=>h w' hw',fun i hi=>by rw [hr] at hi;cases hi⟩
end
end Go.Proofs.YtflepnkpihfidaaGreatDoor
namespace Go.Proofs.YtflepnkpihfidaaGreatDoor
open Go.RowKit
section
variable {P : Program} {ops : Array Oper} {md : Region.Mode} {Q : Exit → Act → World → Prop} {r : Option Nat}
theorem wpG_two {w0:World} {fuel:Nat} {listed:Array Bool} {a:Act} {w:World} (i j:Nat) {oi oj:Oper} (hr:Region.ready md ops listed=[i,j]) (hi:ops[i]?=some oi) (hj:ops[j]?=some oj) (hgi:oi.guard=none) (hgj:oj.guard=none)
  (h1:∀(K:Act→World→Prop),(∀a'' w'',w0.grownBy w'' r→wpG P md ops Q w0 r fuel (listed.setIfInBounds i true) a'' w''→K a'' w'')→∀w',Gr w w'→oi.wp P a w' K Q)
  (h2:∀(K:Act→World→Prop),(∀a'' w'',w0.grownBy w'' r→wpG P md ops Q w0 r fuel (listed.setIfInBounds j true) a'' w''→K a'' w'')→∀w',Gr w w'→oj.wp P a w' K Q):wpG P md ops Q w0 r (fuel+1) listed a w:=by
 intro w' hw'
 rw [hr]
 refine ⟨fun h=>by simp at h,fun k hk=>?_⟩
 simp only [List.mem_cons,List.not_mem_nil,or_false] at hk
 have t1:Region.wanted oi (yielded ops a.tmps)=true:=by simp [Region.wanted,hgi]
 have t2:Region.wanted oj (yielded ops a.tmps)=true:=by simp [Region.wanted,hgj]
 rcases hk with rfl | rfl
 ·unfold wpOp
  simp only [hi]
  rw [if_pos t1]
  exact .inl (h1 _ (fun a'' w'' h1 h2=>⟨h1,h2⟩) w' hw')
 ·unfold wpOp
  simp only [hj]
  rw [if_pos t2]
  exact .inl (h2 _ (fun a'' w'' h1 h2=>⟨h1,h2⟩) w' hw')
end
end Go.Proofs.YtflepnkpihfidaaGreatDoor
namespace Go.Proofs.YtflepnkpihfidaaGreatDoor
open Go.RowKit
def noDefer:List Oper→Bool:=fun l=>l.all fun o=>match o.op with | .defer _=>false | _=>true
theorem semAt_of {l:Nat} {ρ:Operand→Value} {o:Oper} (h:(match o.op with | .defer _=>false | _=>true)=true):Oper.semAt (some l) ρ o=execOp ρ o:=
 Oper.semAt_some l ρ o fun c hc=>by rw [hc] at h;cases h
theorem rowsIn_round {l n:Nat} {P:Program} {row:String} {args:Array Value} {w:World} {R:Value→World→Prop} (h:Rows P row args w R):RowsIn (Fence.wide.inRound l) n P row args w R:=
 fun c cs _=>let ⟨v,w',r,s⟩:=h c cs;⟨v,w',r,stepsIn_wide.2 s⟩
theorem callsIn_round {l n:Nat} {P:Program} {f:FuncId} {args:Array Value} {w:World} {R:Ending→World→Prop} (h:Calls P f args w R):CallsIn (Fence.wide.inRound l) n P f args w R:=
 CallsIn.inRound l (callsIn_wide.2 h)
theorem wpR_oper {l n:Nat} {P:Program} {o:Oper} {a:Act} {w:World} {K:Act→World→Prop} {Q:Exit→Act→World→Prop} (hd:(match o.op with | .defer _=>false | _=>true)=true)
  (h:o.wp P a w K Q):o.wpIn (Fence.wide.inRound l) n P a w K Q:=by
 refine ⟨fun _ _=>trivial,?_⟩
 rw [Fence.inRound_round,semAt_of hd]
 unfold Oper.wp at h
 generalize (execOp a.eval o).run P w=r at *
 cases r with
 | ok x w'=>
   cases x <;> simp only [Oper.upon] at h <;> simp only [Oper.uponIn] <;>
    first
     | exact h
     | exact ⟨fun hx=>by simp [Fence.inRound,Fence.wide] at hx,callsIn_round h⟩
     | exact ⟨fun hx=>by simp [Fence.inRound,Fence.wide] at hx,rowsIn_round h⟩
 | halt x w'=>cases x <;> simp only [Oper.upon] at h <;> simp only [Oper.uponIn] <;> exact h
theorem wpR_list {l n:Nat} {P:Program} {ops:Array Oper} {Q:Exit→Act→World→Prop} (hQ:∀a w,Q .outgrown a w→False):∀(os:List Oper),noDefer os=true→∀(a:Act) (w:World),wpList P ops Q os a w→wpListIn (Fence.wide.inRound l) n P ops Q os a w
 | [],_,_,_,h=>h
 | o::os,hd,a,w,h=>by
   simp only [noDefer,List.all_cons,Bool.and_eq_true] at hd
   simp only [wpList] at h
   simp only [wpListIn]
   by_cases hw:Region.wanted o (yielded ops a.tmps)=true
   ·simp only [hw,if_true] at h ⊢
    rcases h with h | ⟨_,a',w',h⟩
    ·exact Oper.wpIn_mono (fun a w=>wpR_list hQ os hd.2 a w) (wpR_oper hd.1 h)
    ·exact (hQ _ _ h).elim
   ·simp only [hw,if_false,Bool.false_eq_true] at h ⊢
    exact ⟨fun _ _=>trivial,wpR_list hQ os hd.2 _ _ h⟩
theorem wpR_region {l n id:Nat} {P:Program} {os:List Oper} {Q:Exit→Act→World→Prop} {a:Act} {w:World} (hd:noDefer os=true) (hQ:∀a w,Q .outgrown a w→False)
  (h:wpList P os.toArray Q os a w):(Code.region id os.toArray false).wpIn (Fence.wide.inRound l) n P Q a w:=wpIn_region_lit (wpR_list hQ os hd a w h)
def IterC {α:Type} (P:Program) (gf:Nat) (lb:Array Value) (enc:α→Array Value) (xs:List α) (w0:World) (bo:Option Nat) (G:World→Prop):Prop:=
 ∀(l:Nat) (J Jx:List α→World→Prop) (W:World),
  (∀pre A B,J pre A→A.grownBy B bo→J pre B)→(∀pre A B,Jx pre A→A.grownBy B bo→Jx pre B)→
  (∀pre A,J pre A→G A)→
  (∀pre x post A,xs=pre++x::post→J pre A→YieldAt Fence.wide 0 P l (enc x) A fun e B=>
   (e=.returned (.bool true)∧J (pre++[x]) B∧∀k,bo=some k→B.heap[k]?=A.heap[k]?)∨(e=.returned (.bool false)∧Jx (pre++[x]) B))→
  (∀k,bo=some k→W.heap[k]?=w0.heap[k]?)→J [] W→
  Calls P gf (#[.func (.yield l) #[] #[]]++lb) W fun e B=>(∃v,e=.returned v)∧(J xs B∨∃pre x post,xs=pre++x::post∧Jx (pre++[x]) B)
def itPost {α:Type} (D:Nat) (bo:Option Nat) (I:List α→World→Prop) (Ix:Code→List α→World→Prop) (xs:List α) (W:World):Exit→Act→World→Prop
 | .normal,_,B=>(∀k,(k=D∨k=D+1∨bo=some k)→B.heap[k]?=W.heap[k]?)∧I xs B
 | .ret,_,B=>(∀k,(k=D∨k=D+1∨bo=some k)→B.heap[k]?=W.heap[k]?)∧Ix .ret xs B
 | .exit id,_,B=>(∀k,(k=D∨k=D+1∨bo=some k)→B.heap[k]?=W.heap[k]?)∧Ix (.exit id) xs B
 | .goto t,_,B=>(∀k,(k=D∨k=D+1∨bo=some k)→B.heap[k]?=W.heap[k]?)∧Ix (.goto t) xs B
 | .panic _,_,_=>False
 | .outgrown,_,_=>False
theorem wp_rangeFunc_it {α:Type} {P:Program} {g:Operand} {ps:Array Tmp} {assign body:Code} {Q:Exit→Act→World→Prop} {a:Act} {w:World}
  {gf:Nat} {lb:Array Value} (hg:a.eval g=.func (.func gf) #[] lb) (eg:∀args w,(callFunc gf args).run P w=.ok (.enter gf args) w)
  {enc:α→Array Value} {xs:List α} {w0:World} {bo:Option Nat} {G:World→Prop} (hit:IterC P gf lb enc xs w0 bo G) (hps:∀x,(enc x).size=ps.size)
  (hw0:∀k,bo=some k→k < w.heap.size∧w.heap[k]?=w0.heap[k]?)
  (I:World→List α→World→Prop) (Ix:World→Code→List α→World→Prop)
  (hI:∀W1 pre A B,Gr w W1→W1.heap.size=w.heap.size+2→I W1 pre A→A.grownBy B bo→I W1 pre B) (hIx:∀W1 c pre A B,Gr w W1→W1.heap.size=w.heap.size+2→Ix W1 c pre A→A.grownBy B bo→Ix W1 c pre B)
  (hIL:∀W1 pre A k o,Gr w W1→W1.heap.size=w.heap.size+2→I W1 pre A→k=w.heap.size+1→I W1 pre (A.putObj k o)) (hIxL:∀W1 c pre A k o,Gr w W1→W1.heap.size=w.heap.size+2→Ix W1 c pre A→k=w.heap.size+1→Ix W1 c pre (A.putObj k o))
  (hI0:∀W1 pre A,Gr w W1→W1.heap.size=w.heap.size+2→I W1 pre A→G A)
  (h0:∀W1,Gr w W1→W1.heap.size=w.heap.size+2→I W1 [] W1) (a₁:α→Act)
  (hassign:∀(l:Nat) (x:α) (W:World) (K:Act→World→Prop),K (a₁ x) W→
   assign.wpIn (Fence.wide.inRound l) 0 P (Exit.then K (fun _ _ _=>False)) { tmps:=(ps.zip (enc x)).foldl (fun t (p,v)=>t.setIfInBounds p v) a.tmps,defers:=[] } W)
  (hbody:∀(W1:World) (l:Nat) (pre:List α) (x:α) (post:List α) (A:World),Gr w W1→W1.heap.size=w.heap.size+2→xs=pre++x::post→I W1 pre A→W1.heap.size≤A.heap.size→
   body.wpIn (Fence.wide.inRound l) 0 P (itPost w.heap.size bo (I W1) (Ix W1) (pre++[x]) A) (a₁ x) A)
  (hdone:∀(W1 A:World),Gr w W1→W1.heap.size=w.heap.size+2→I W1 xs A→A.heap[w.heap.size]?=some (.deferred (some []))→Q .normal { a with defers:={ target:=.collected w.heap.size,args:=#[] }::a.defers } A)
  (hstop:∀(W1 A:World) (c:Code) (pre:List α) (x:α) (post:List α),Gr w W1→W1.heap.size=w.heap.size+2→xs=pre++x::post→Ix W1 c (pre++[x]) A→A.heap[w.heap.size]?=some (.deferred (some []))→
   c.wp P Q { a with defers:={ target:=.collected w.heap.size,args:=#[] }::a.defers } A) :
  (Code.rangeFunc g ps assign body).wp P Q a w:=by
 refine (wpIn_wide (n:=0)).1 (wpIn_rangeFunc ?_)
 intro fn hfn
 rw [Fence.wide_round]
 obtain ⟨rec,hrec⟩:∃rec:LoopState→Option Code→Loop,rec=fun st pe=>{ state:=st,pending:=pe,fn,tmps:=a.tmps,params:=ps,assign,body,defers:=w.heap.size }:=⟨_,rfl⟩
 obtain ⟨W1,hW1⟩:∃W1,(w.alloc (.deferred (some []))).alloc (.loop (rec .ready none))=W1:=⟨_,rfl⟩
 have hL1:W1.heap[w.heap.size+1]?=some (.loop (rec .ready none)):=by
  rw [←hW1];have:=World.alloc_heap_new (w.alloc (.deferred (some []))) (.loop (rec .ready none));rwa [World.size_alloc] at this
 have hK1:W1.heap[w.heap.size]?=some (.deferred (some [])):=by
  rw [←hW1];exact (Below.heap_alloc _ _ _ (by simp)).trans (World.alloc_heap_new w _)
 have hG1:Gr w W1:=by rw [←hW1];exact Gr.al (Gr.al (Gr.refl w) _) _
 have hS1:W1.heap.size=w.heap.size+2:=by rw [←hW1];simp [World.size_alloc]
 have hI1:I W1 [] W1:=h0 W1 hG1 hS1
 have hbd:∀k,bo=some k→k≠w.heap.size∧k≠w.heap.size+1:=fun k hk=>by have:=(hw0 k hk).1;omega
 refine ⟨w.heap.size+1,[{ target:=.collected w.heap.size,args:=#[] }],W1,{ target:=.fn (.func gf) lb,args:=#[.func (.yield (w.heap.size+1)) #[] #[]] },W1,gf,
  #[.func (.yield (w.heap.size+1)) #[] #[]]++lb,W1,?_,?_,?_,?_,fun hx=>by simp [Fence.wide] at hx,?_⟩
 ·rw [←hW1,hrec];exact run_enterLoop_outer _ _ _ _ _
 ·simp only [resolve,hg]
  simp [go_sem]
 ·intro f' hf';trivial
 ·simp [invoke,go_sem,eg]
 ·refine callsIn_wide.2 ((hit (w.heap.size+1)
   (fun pre A=>I W1 pre A∧A.heap[w.heap.size+1]?=some (.loop (rec .ready none))∧A.heap[w.heap.size]?=some (.deferred (some []))∧W1.heap.size≤A.heap.size)
   (fun pre A=>∃c,Ix W1 c pre A∧A.heap[w.heap.size+1]?=some (.loop (rec .done (some c)))∧A.heap[w.heap.size]?=some (.deferred (some [])))
   W1 ?_ ?_ ?_ ?_ ?_ ⟨hI1,hL1,hK1,Nat.le_refl _⟩).mono ?_)
  ·rintro pre A B ⟨h1,h2,h3,h4⟩ hgr
   refine ⟨hI W1 pre A B hG1 hS1 h1 hgr,?_,?_,Nat.le_trans h4 hgr.size⟩
   ·rw [hgr.block _ (Array.getElem?_eq_some_iff.1 h2).1 (fun e=>(hbd _ e.symm).2 rfl)];exact h2
   ·rw [hgr.block _ (Array.getElem?_eq_some_iff.1 h3).1 (fun e=>(hbd _ e.symm).1 rfl)];exact h3
  ·rintro pre A B ⟨c,h1,h2,h3⟩ hgr
   refine ⟨c,hIx W1 c pre A B hG1 hS1 h1 hgr,?_,?_⟩
   ·rw [hgr.block _ (Array.getElem?_eq_some_iff.1 h2).1 (fun e=>(hbd _ e.symm).2 rfl)];exact h2
   ·rw [hgr.block _ (Array.getElem?_eq_some_iff.1 h3).1 (fun e=>(hbd _ e.symm).1 rfl)];exact h3
  ·rintro pre A ⟨h1,_⟩;exact hI0 W1 pre A hG1 hS1 h1
  ·rintro pre x post A hxs ⟨hi,hl,hk,hsz⟩
   have hlt:w.heap.size+1 < A.heap.size:=(Array.getElem?_eq_some_iff.1 hl).1
   have hy:=run_yield (P:=P) (args:=enc x) hl (by rw [hrec];exact hps x)
   rw [hrec] at hy
   refine ⟨fn,_,assign,body,hy,roundIn_of_wpIn hfn (hassign _ x A _ ⟨_,run_beginRound hl (by rw [hrec]),?_⟩)⟩
   have hl2:(A.putObj (w.heap.size+1) (.loop { rec .ready none with state:=.busy })).heap[w.heap.size+1]?=some (.loop { rec .ready none with state:=.busy }):=World.putObj_heap_same hlt
   have hk2:(A.putObj (w.heap.size+1) (.loop { rec .ready none with state:=.busy })).heap[w.heap.size]?=some (.deferred (some [])):=(World.putObj_heap_other (by omega)).trans hk
   have hb2:∀k,bo=some k→(A.putObj (w.heap.size+1) (.loop { rec .ready none with state:=.busy })).heap[k]?=A.heap[k]?:=fun k hk=>World.putObj_heap_other (hbd k hk).2
   have hsz2:W1.heap.size≤(A.putObj (w.heap.size+1) (.loop { rec .ready none with state:=.busy })).heap.size:=Nat.le_trans hsz (grownBy_putObj' _ _ _).size
   refine wpIn_mono (hbody W1 _ pre x post _ hG1 hS1 hxs (hIL W1 pre A _ _ hG1 hS1 hi rfl) hsz2) ?_
   have fin:∀(jump:Option Code) (W3:World),(∀k,(k=w.heap.size∨k=w.heap.size+1∨bo=some k)→W3.heap[k]?=(A.putObj (w.heap.size+1) (.loop { rec .ready none with state:=.busy })).heap[k]?)→
     (Instr.endRound (w.heap.size+1) jump).run P W3=.ok (.bool jump.isNone) (W3.putObj (w.heap.size+1) (.loop (rec (if jump.isNone then .ready else .done) jump)))∧
     (W3.putObj (w.heap.size+1) (.loop (rec (if jump.isNone then .ready else .done) jump))).heap[w.heap.size+1]?=some (.loop (rec (if jump.isNone then .ready else .done) jump))∧
     (W3.putObj (w.heap.size+1) (.loop (rec (if jump.isNone then .ready else .done) jump))).heap[w.heap.size]?=some (.deferred (some []))∧
     (∀k,bo=some k→(W3.putObj (w.heap.size+1) (.loop (rec (if jump.isNone then .ready else .done) jump))).heap[k]?=A.heap[k]?):=fun jump W3 hk3=>by
    have hl3:=(hk3 _ (.inr (.inl rfl))).trans hl2
    have:=run_endRound (P:=P) jump hl3
    have hlt3:=(Array.getElem?_eq_some_iff.1 hl3).1
    refine ⟨?_,World.putObj_heap_same hlt3,(World.putObj_heap_other (by omega)).trans ((hk3 _ (.inl rfl)).trans hk2),fun k hk=>(World.putObj_heap_other (hbd k hk).2).trans ((hk3 k (.inr (.inr hk))).trans (hb2 k hk))⟩
    rw [hrec] at this ⊢
    exact this
   have hsz3:∀(W3:World) (o:Obj),(∀k,(k=w.heap.size∨k=w.heap.size+1∨bo=some k)→W3.heap[k]?=(A.putObj (w.heap.size+1) (.loop { rec .ready none with state:=.busy })).heap[k]?)→W1.heap.size≤(W3.putObj (w.heap.size+1) o).heap.size:=fun W3 o hk3=>by
    have hl3:=(hk3 _ (.inr (.inl rfl))).trans hl2
    have:=(Array.getElem?_eq_some_iff.1 hl3).1
    have:=(grownBy_putObj' W3 (w.heap.size+1) o).size
    omega
   rintro e a3 W3 hp
   cases e with
   | normal=>
     obtain ⟨hk3,hi3⟩:=hp
     obtain ⟨hr,hl4,hk4,hb4⟩:=fin none W3 hk3
     exact ⟨_,_,hr,.inl ⟨rfl,⟨hIL W1 _ _ _ _ hG1 hS1 hi3 rfl,hl4,hk4,hsz3 _ _ hk3⟩,hb4⟩⟩
   | ret=>
     obtain ⟨hk3,hi3⟩:=hp
     obtain ⟨hr,hl4,hk4,hb4⟩:=fin (some .ret) W3 hk3
     exact ⟨_,_,hr,.inr ⟨rfl,.ret,hIxL W1 _ _ _ _ _ hG1 hS1 hi3 rfl,hl4,hk4⟩⟩
   | exit id=>
     obtain ⟨hk3,hi3⟩:=hp
     obtain ⟨hr,hl4,hk4,hb4⟩:=fin (some (.exit id)) W3 hk3
     exact ⟨_,_,hr,.inr ⟨rfl,.exit id,hIxL W1 _ _ _ _ _ hG1 hS1 hi3 rfl,hl4,hk4⟩⟩
   | goto t=>
     obtain ⟨hk3,hi3⟩:=hp
     obtain ⟨hr,hl4,hk4,hb4⟩:=fin (some (.goto t)) W3 hk3
     exact ⟨_,_,hr,.inr ⟨rfl,.goto t,hIxL W1 _ _ _ _ _ hG1 hS1 hi3 rfl,hl4,hk4⟩⟩
   | panic ch=>exact hp.elim
   | outgrown=>exact hp.elim
  ·intro k hk
   have hh:=hw0 k hk
   rw [hG1.block k hh.1];exact hh.2
  ·rintro e W2 ⟨⟨v,rfl⟩,(⟨hi,hl,hk,hsz⟩ | ⟨pre,x,post,hxs,c,hi,hl,hk⟩)⟩
   ·exact ⟨none,_,by have:=run_endLoop (P:=P) hl (by rw [hrec];simp);rw [hrec] at this;exact this,hdone W1 _ hG1 hS1 (hIL W1 _ _ _ _ hG1 hS1 hi rfl) ((World.putObj_heap_other (by omega)).trans hk)⟩
   ·exact ⟨some c,_,by have:=run_endLoop (P:=P) hl (by rw [hrec];simp);rw [hrec] at this;exact this,wpIn_wide.2 (hstop W1 _ c pre x post hG1 hS1 hxs (hIxL W1 _ _ _ _ _ hG1 hS1 hi rfl) ((World.putObj_heap_other (by omega)).trans hk))⟩
theorem calls_of_wp_marks {P:Program} {f:FuncId} {fn:Func} {c:Code} {args:Array Value} {w:World} {R:Ending→World→Prop}
  (hf:P.funcs[f]?=some fn) (hb:fn.body=some c)
  (h:c.wp P (bodyPostM Fence.wide 0 P fn R) { tmps:=args++Array.replicate (fn.ntmps-args.size) undef,defers:=[] } w):Calls P f args w R:=
 (callsIn_wide (n:=0)).1 (callsIn_of_wp_marks hf hb trivial (wpIn_wide.2 h))
theorem bodyM_ret {P:Program} {fn:Func} {R:Ending→World→Prop} {a:Act} {w:World} {v:Value} (hr:(results fn a.tmps).run P w=.ok v w) (hd:a.defers=[]) (h:R (.returned v) w):bodyPostM Fence.wide 0 P fn R .ret a w:=by
 show LeavesInM Fence.wide 0 P fn a.tmps R a.defers .returning w
 rw [hd];exact ⟨v,hr,h⟩
theorem bodyM_mark {P:Program} {fn:Func} {R:Ending→World→Prop} {a:Act} {w:World} {v:Value} {D:Nat} (hD:w.heap[D]?=some (.deferred (some []))) (hd:a.defers=[{ target:=.collected D,args:=#[] }])
  (hr:(results fn a.tmps).run P (w.putObj D (.deferred none))=.ok v (w.putObj D (.deferred none))) (h:R (.returned v) (w.putObj D (.deferred none))):bodyPostM Fence.wide 0 P fn R .ret a w:=by
 show LeavesInM Fence.wide 0 P fn a.tmps R a.defers .returning w
 rw [hd]
 exact ⟨by simp,.inl ⟨D,_,rfl,run_takeDeferred hD,v,hr,h⟩⟩
end Go.Proofs.YtflepnkpihfidaaGreatDoor
namespace Go.Proofs.YtflepnkpihfidaaGreatDoor
open Go.RowKit
end Go.Proofs.YtflepnkpihfidaaGreatDoor
namespace Go.Proofs.YtflepnkpihfidaaGreatDoor
open Go.RowKit
structure Kr (S:List Nat) (N:Nat) (A B:World):Prop where
 os:B.os=A.os
 tape:B.tape=A.tape
 output:B.output=A.output
 le:N≤A.heap.size
 size:A.heap.size≤B.heap.size
 block:∀k,k < N→k∉S→B.heap[k]?=A.heap[k]?
theorem Kr.refl {S:List Nat} {N:Nat} {A:World} (h:N≤A.heap.size):Kr S N A A:=⟨rfl,rfl,rfl,h,Nat.le_refl _,fun _ _ _=>rfl⟩
theorem Kr.more {S S':List Nat} {N:Nat} {A B:World} (h:Kr S N A B) (hs:∀k∈S,k∈S'):Kr S' N A B:=
 ⟨h.os,h.tape,h.output,h.le,h.size,fun i hi hn=>h.block i hi fun hm=>hn (hs i hm)⟩
theorem Kr.by {S:List Nat} {N:Nat} {A B C:World} {r:Option Nat} (h:Kr S N A B) (g:B.grownBy C r) (hr:∀k,r=some k→k∈S∨N≤k):Kr S N A C:=
 ⟨g.os.trans h.os,g.tape.trans h.tape,g.output.trans h.output,h.le,Nat.le_trans h.size g.size,fun i hi hs=>(g.block i (Nat.lt_of_lt_of_le hi (Nat.le_trans h.le h.size)) (fun e=>by rcases hr i e.symm with h | h;exact hs h;omega)).trans (h.block i hi hs)⟩
theorem Kr.gr {S:List Nat} {N:Nat} {A B C:World} (h:Kr S N A B) (g:Gr B C):Kr S N A C:=h.by (g.by none) (fun _ e=>by cases e)
theorem Kr.al {S:List Nat} {N:Nat} {A B:World} (h:Kr S N A B) (o:Obj):Kr S N A (B.alloc o):=h.gr (Gr.al (Gr.refl B) o)
theorem Kr.set {S:List Nat} {N:Nat} {A B:World} (h:Kr S N A B) {g:Nat} (hg:g∈S∨N≤g) (i:Nat) (u:Value):Kr S N A (B.setCell ⟨g,i,none⟩ u):=
 h.by (by_st ((Gr.refl B).by (some g)) i u) (fun k e=>by cases e;exact hg)
theorem Kr.bk {S:List Nat} {N:Nat} {A B:World} (h:Kr S N A B) {g:Nat} {t:TypeId} {cs:Array Value} {fr:Nat×Nat} (hb:Bk A g t cs fr) (hg:g < N) (hs:g∉S):Bk B g t cs fr:=(h.block g hg hs).trans hb
theorem Kr.old {S:List Nat} {N:Nat} {w A B:World} (h:Kr S N A B) (g:Gr w A) (hS:∀k∈S,w.heap.size≤k) (hN:w.heap.size≤N):Gr w B:=
 ⟨h.os.trans g.os,h.tape.trans g.tape,h.output.trans g.output,Nat.le_trans g.size h.size,fun k hk=>(h.block k (by omega) (fun hm=>by have:=hS k hm;omega)).trans (g.block k hk)⟩
theorem own_ne {W0 w:World} {e:TypeId} {size n g:Nat} {v:Value} {xs:List Value} (h:Own W0 w e size v n xs) (hg:g < W0.heap.size):v.ownBlock≠some g:=fun hb=>by
 have:=(World.ownsRow.lt h g hb).1;omega
theorem own_kr {W0 w w':World} {e:TypeId} {size n:Nat} {v:Value} {xs:List Value} (h:Own W0 w e size v n xs) {r:Option Nat} (g:w.grownBy w' r) (hne:v.ownBlock=none∨v.ownBlock≠r):Own W0 w' e size v n xs:=by
 refine ⟨h.1,?_⟩
 rcases h.2 with hn | ⟨b,cap,cur,hv,hb,hh,r'⟩
 ·exact .inl hn
 ·subst hv
  refine .inr ⟨b,cap,cur,rfl,hb,?_,r'⟩
  have hl:b < w.heap.size:=by
   rcases Nat.lt_or_ge b w.heap.size with hl | hl
   ·exact hl
   ·rw [Array.getElem?_eq_none hl] at hh;cases hh
  rw [g.block b hl (by rcases hne with h | h;simp [Value.ownBlock] at h;exact h)]
  exact hh
theorem own_put {W0 w:World} {e:TypeId} {size n b cap:Nat} {xs:List Value} (h:Own W0 w e size (.slice (some ⟨b,0,none⟩) n cap) n xs) (j:Nat) (u:Value):Own W0 (w.setCell ⟨b,j,none⟩ u) e size (.slice (some ⟨b,0,none⟩) n cap) n (xs.set j u):=by
 refine ⟨by rw [List.length_set];exact h.1,?_⟩
 rcases h.2 with ⟨hv,_⟩ | ⟨b',cap',cur,hv,hb,hh,h1,h2,h3,h4⟩
 ·cases hv
 ·cases hv
  refine .inr ⟨b,cap,cur.setIfInBounds j u,rfl,hb,(show Bk w b e cur (0,0) from hh).set j u,h1,h2,?_,?_⟩
  ·simpa using h3
  ·rw [Array.toList_setIfInBounds,List.take_set,h4]
end Go.Proofs.YtflepnkpihfidaaGreatDoor
