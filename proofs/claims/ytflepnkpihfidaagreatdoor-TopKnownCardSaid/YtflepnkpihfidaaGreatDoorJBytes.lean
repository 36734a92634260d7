/- Parts. No conditions but those that each theorem names. -/
import Derived.Test.YtflepnkpihfidaaGreatDoorJWords
import Derived.Test.YtflepnkpihfidaaGreatDoorJField2
import Derived.Lib.SlBytesConst
import Derived.Laws.BytesArg
import Derived.Laws.IdiomStrings
set_option linter.unusedVariables false
set_option linter.unusedSimpArgs false
namespace Go.Proofs.YtflepnkpihfidaaGreatDoor
open Go.RowKit
abbrev byt (c:UInt8):Value:=.int .u8 (c.toNat:Int)
def Byts (w:World) (v:Value) (l:List UInt8):Prop:=Sl w v l.length (l.map byt)
theorem Byts.gr {w w':World} {v:Value} {l} (h:Byts w v l) (g:Gr w w'):Byts w' v l:=Sl.gr h g
theorem Byts.open {w:World} {v:Value} {l:List UInt8} (h:Byts w v l):∃A c,v=.slice A l.length c∧l.length≤c∧l.length≤9223372036854775807∧∀(k:Nat) (hk:k < l.length),∃b o,A=some ⟨b,o,none⟩∧b < w.heap.size∧w.cell? ⟨b,o+k,none⟩=some (byt l[k]):=by
 obtain ⟨A,c,hv,hc,hm,ho⟩:=Sl.open h
 refine ⟨A,c,hv,hc,hm,fun k hk=>?_⟩
 have he:(l.map byt)[k]?=some (byt l[k]):=by simp [List.getElem?_eq_getElem hk]
 obtain ⟨b,o,hA,hb,hj⟩:=ho k _ he
 exact ⟨b,o,hA,hb,hj k _ he⟩
theorem Byts.nil (w:World):Byts w (.slice none 0 0) []:=⟨none,0,rfl,Nat.le_refl _,by simp,.inl rfl⟩
theorem Byts.cellAt {w:World} {A:Option Addr} {n c:Nat} {l:List UInt8} (h:Byts w (.slice A n c) l) (k:Nat) (hk:k < l.length):∃b o,A=some ⟨b,o,none⟩∧b < w.heap.size∧w.cell? ⟨b,o+k,none⟩=some (byt l[k]):=by
 obtain ⟨A',c',hv,_,_,ho⟩:=Byts.open h
 injection hv with h1
 subst h1
 exact ho k hk
theorem Byts.len {w:World} {A:Option Addr} {n c:Nat} {l:List UInt8} (h:Byts w (.slice A n c) l):n=l.length∧l.length≤c:=by
 obtain ⟨A',c',hv,hc,_,ho⟩:=Byts.open h
 injection hv with _ h2 h3
 exact ⟨h2,by rw [h3];exact hc⟩
theorem nums_at (l:List UInt8) (i:Nat) (hi:i < l.length):(l.map fun c=>(c.toNat:Int)).getD i 0=(l[i].toNat:Int):=by
 rw [List.getD_eq_getElem?_getD];simp [List.getElem?_eq_getElem hi]
theorem str_nums (l:List UInt8):Value.string (strOfNums (l.map fun c=>(c.toNat:Int)))=str l:=by
 have e:(strOfNums (l.map fun c=>(c.toNat:Int)))=⟨l.toArray⟩:=by
  unfold strOfNums
  congr 1
  rw [List.map_map]
  congr 1
  induction l with
  | nil=>rfl
  | cons c l ih=>rw [List.map_cons,ih];simp
 rw [e]
theorem bytesOf_nums (l:List UInt8):Lib.bytesOf (l.map fun c=>(c.toNat:Int))=l:=by
 unfold Lib.bytesOf
 rw [List.map_map]
 induction l with
 | nil=>rfl
 | cons c l ih=>rw [List.map_cons,ih];simp
theorem Byts.toStr {w:World} {v:Value} {l:List UInt8} (h:Byts w v l):(convert 30 9 v).run Tryz.prog w=.ok (str l) w:=by
 obtain ⟨A,c,rfl,hc,hm,ho⟩:=h.open
 cases l with
 | nil=>
   rw [List.length_nil]
   have e:str []=.string ByteArray.empty:=rfl
   rw [e]
   cases A with
   | none=>exact run_convert_bytes_nil w 30 5 Tryz.underlying30 Tryz.underlying5 0 c 9 Tryz.underlying9
   | some ad=>
     rw [run_convert_bytes_string w 30 9 5 _ 0 c Tryz.underlying30 Tryz.underlying5 Tryz.underlying9,run_bytesToString w _ 0 c [] rfl]
     rfl
 | cons x t=>
   obtain ⟨b,o,rfl,_,_⟩:=ho 0 (by simp)
   have hr:=run_convert_bytes_arg (P:=Tryz.prog) w 30 5 Tryz.underlying30 Tryz.underlying5 b o (x::t).length c ((x::t).map fun c=>(c.toNat:Int)) (by simp) (fun i hi=>by
    obtain ⟨b',o',hA,_,hcell⟩:=ho i hi
    injection hA with hA
    injection hA with h1 h2
    subst h1 h2
    rw [hcell,nums_at _ _ hi]) 9 Tryz.underlying9
   rw [hr,str_nums]
theorem wpList_run {P:Program} {ops:Array Oper} {rest:List Oper} {o:Oper} {a:Act} {Q:Exit→Act→World→Prop} {w w':World} {v:Value} (hgd:o.guard=none)
  (hr:(execOp a.eval o).run P w=.ok (.value v) w') (h:wpList P ops Q rest (a.put o.dst v) w'):wpList P ops Q (o::rest) a w:=by
 refine wpList_plain hgd fun K hK=>?_
 unfold Oper.wp
 rw [hr]
 exact hK _ _ h
theorem wpList_toStr {ops:Array Oper} {rest:List Oper} {o:Oper} {a:Act} {Q:Exit→Act→World→Prop} {w:World} {v:Value} {l:List UInt8} (x:Operand) (hgd:o.guard=none) (ho:o.op=.convert 30 9 x) (hx:a.eval x=v)
  (hb:Byts w v l) (h:wpList Tryz.prog ops Q rest (a.put o.dst (str l)) w):wpList Tryz.prog ops Q (o::rest) a w:=by
 refine wpList_run hgd ?_ h
 unfold execOp
 simp only [ho,hx,Sem.run_bind,hb.toStr,Result.andThen_ok,Sem.run_pure]
theorem elemByte:ElemOk Tryz.prog 30 5 (.int .u8 0) 1 1:=⟨Tryz.underlying30,by kernel_rfl,rfl,by decide⟩
theorem one_byt (l:List UInt8):∀u∈l.map byt,u.oneCell'=true:=by
 intro u hu;simp only [List.mem_map] at hu;obtain ⟨x,_,rfl⟩:=hu;rfl
theorem Byts.sliced {w:World} {A:Option Addr} {n c:Nat} {l:List UInt8} (h:Byts w (.slice A n c) l) (lo hi m:Nat) (h1:lo≤hi) (h2:hi≤l.length) (h3:hi≤m) (_h4:m≤c):∃A2,sliced A lo hi m 1=.slice A2 (hi-lo) (m-lo)∧Byts w (.slice A2 (hi-lo) (m-lo)) ((l.drop lo).take (hi-lo)):=by
 obtain ⟨A',c',hv,hc,hm,ho⟩:=h
 injection hv with e1 e2 e3
 subst e1 e2 e3
 refine ⟨_,rfl,_,_,by rw [List.length_take,List.length_drop,Nat.min_eq_left (by omega)],by rw [List.length_take];omega,by rw [List.length_take];omega,?_⟩
 rcases Nat.eq_zero_or_pos (hi-lo) with h0 | h0
 ·left;rw [h0];rfl
 ·right
  rcases ho with ho | ⟨b,o,rfl,hb,hj⟩
  ·exfalso
   have:l=[]:=List.map_eq_nil_iff.1 ho
   subst this
   simp at h2;omega
  ·rw [if_neg (by omega)]
   refine ⟨b,o+lo,?_,hb,fun j u hu=>?_⟩
   ·simp only [Option.map_some,Option.some.injEq]
    unfold Addr.add;split <;> simp_all
   ·rw [Nat.add_assoc]
    refine hj (lo+j) u ?_
    have hjl:=(List.getElem?_eq_some_iff.1 hu).1
    rw [List.length_map,List.length_take] at hjl
    rw [List.getElem?_map,List.getElem?_take,if_pos (by omega),List.getElem?_drop,←List.getElem?_map] at hu
    exact hu
theorem sizeByte (w:World):(sizeOf (Tryz.prog.elem 30)).run Tryz.prog w=.ok 1 w:=by
 simp [sizeOf,typeInfo];kernel_rfl
theorem elemT:Tryz.prog.underlying 30=some (.slice (Tryz.prog.elem 30)):=by kernel_rfl
theorem wpList_slLo {ops:Array Oper} {rest:List Oper} {o:Oper} {a:Act} {Q:Exit→Act→World→Prop} {w:World} {A:Option Addr} {n c:Nat} {l:List UInt8} {kd:IntKind} {k:Int} (x y:Operand) (hgd:o.guard=none) (ho:o.op=.slice 30 x (some y) none none) (hx:a.eval x=.slice A n c) (hy:a.eval y=.int kd k)
  (hb:Byts w (.slice A n c) l) (hk0:0≤k) (hk:k≤l.length)
  (h:∀A2,Byts w (.slice A2 (l.length-k.toNat) (c-k.toNat)) (l.drop k.toNat)→wpList Tryz.prog ops Q rest (a.put o.dst (.slice A2 (l.length-k.toNat) (c-k.toNat))) w):wpList Tryz.prog ops Q (o::rest) a w:=by
 obtain ⟨rfl,hc⟩:=hb.len
 obtain ⟨A2,e,h2⟩:=hb.sliced k.toNat l.length c (by omega) (Nat.le_refl _) hc (Nat.le_refl _)
 rw [List.take_of_length_le (by rw [List.length_drop];omega)] at h2
 refine wpList_run hgd ?_ (h A2 h2)
 unfold execOp
 simp only [ho,hx,hy,Option.map_some,Option.map_none,Sem.run_bind,run_sliceAt_slice w _ _ _ _ _ elemT,run_slice_l w _ _ _ _ elemT kd k hk0 hk,sizeByte,Result.andThen_ok,Sem.run_pure,e]
theorem wpList_slHi {ops:Array Oper} {rest:List Oper} {o:Oper} {a:Act} {Q:Exit→Act→World→Prop} {w:World} {A:Option Addr} {n c:Nat} {l:List UInt8} {kd:IntKind} {k:Int} (x y:Operand) (hgd:o.guard=none) (ho:o.op=.slice 30 x none (some y) none) (hx:a.eval x=.slice A n c) (hy:a.eval y=.int kd k)
  (hb:Byts w (.slice A n c) l) (hk0:0≤k) (hk:k≤l.length)
  (h:∀A2,Byts w (.slice A2 k.toNat c) (l.take k.toNat)→wpList Tryz.prog ops Q rest (a.put o.dst (.slice A2 k.toNat c)) w):wpList Tryz.prog ops Q (o::rest) a w:=by
 obtain ⟨rfl,hc⟩:=hb.len
 obtain ⟨A2,e,h2⟩:=hb.sliced 0 k.toNat c (Nat.zero_le _) (by omega) (by omega) (Nat.le_refl _)
 simp only [Nat.sub_zero,List.drop_zero] at h2 e
 refine wpList_run hgd ?_ (h A2 h2)
 unfold execOp
 simp only [ho,hx,hy,Option.map_some,Option.map_none,Sem.run_bind,run_sliceAt_slice w _ _ _ _ _ elemT,run_slice_h w _ _ _ _ elemT kd k hk0 (show k≤(c:Int) by omega),sizeByte,Result.andThen_ok,Sem.run_pure,e]
end Go.Proofs.YtflepnkpihfidaaGreatDoor
namespace Go.Proofs.YtflepnkpihfidaaGreatDoor
open Go.RowKit
end Go.Proofs.YtflepnkpihfidaaGreatDoor
namespace Go.Proofs.YtflepnkpihfidaaGreatDoor
open Go.RowKit
theorem Sl.st {w:World} {v:Value} {n:Nat} {cs:List Value} (h:Sl w v n cs) {g:Nat} (hne:v.ownBlock≠some g) (i:Nat) (u:Value):Sl (w.setCell ⟨g,i,none⟩ u) v n cs:=Sl.kept h (by_st ((Gr.refl w).by (some g)) i u) (.inr hne)
theorem by_trans {a b c:World} {r:Option Nat} (h:a.grownBy b r) (k:b.grownBy c r):a.grownBy c r:=
 ⟨k.os.trans h.os,k.tape.trans h.tape,k.output.trans h.output,Nat.le_trans h.size k.size,fun i hi hr=>(k.block i (Nat.lt_of_lt_of_le hi h.size) hr).trans (h.block i hi hr)⟩
theorem Bk.set4 {w:World} {g:Nat} {t:TypeId} {a b c d:Value} {fr:Nat×Nat} (h:Bk w g t #[a,b,c,d] fr) (x y z u:Value):Bk ((((w.setCell ⟨g,0,none⟩ x).setCell ⟨g,1,none⟩ y).setCell ⟨g,2,none⟩ z).setCell ⟨g,3,none⟩ u) g t #[x,y,z,u] fr:=by
 have:=(((h.set 0 x).set 1 y).set 2 z).set 3 u
 simpa using this
theorem Bk.cells4 {w:World} {g:Nat} {t:TypeId} {a b c d:Value} {fr:Nat×Nat} (h:Bk w g t #[a,b,c,d] fr):w.cell? ⟨g,0,none⟩=some a∧w.cell? ⟨g,1,none⟩=some b∧w.cell? ⟨g,2,none⟩=some c∧w.cell? ⟨g,3,none⟩=some d:=⟨h.cell 0,h.cell 1,h.cell 2,h.cell 3⟩
theorem Bk.free4 {w:World} {g:Nat} {t:TypeId} {a b c d:Value} (h:Bk w g t #[a,b,c,d] (0,0)):w.frozen? ⟨g,0,none⟩=false∧w.frozen? ⟨g,1,none⟩=false∧w.frozen? ⟨g,2,none⟩=false∧w.frozen? ⟨g,3,none⟩=false:=
 ⟨h.free 0 (.inr (Nat.zero_le _)),h.free 1 (.inr (Nat.zero_le _)),h.free 2 (.inr (Nat.zero_le _)),h.free 3 (.inr (Nat.zero_le _))⟩
theorem Gr.st4 {a b:World} (h:Gr a b) {g:Nat} (hg:a.heap.size≤g) (x y z u:Value):Gr a ((((b.setCell ⟨g,0,none⟩ x).setCell ⟨g,1,none⟩ y).setCell ⟨g,2,none⟩ z).setCell ⟨g,3,none⟩ u):=
 Gr.st (Gr.st (Gr.st (Gr.st h hg x) hg y) hg z) hg u
theorem gr_none {a b:World} (h:a.grownBy b none):Gr a b:=⟨h.os,h.tape,h.output,h.size,fun k hk=>h.block k hk (by simp)⟩
end Go.Proofs.YtflepnkpihfidaaGreatDoor
