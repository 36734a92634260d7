/- Parts. No conditions but those that each theorem names. -/
import Derived.Lib.FrozenHead
import Derived.Test.YtflepnkpihfidaaGreatDoorJHead3
import Derived.Test.YtflepnkpihfidaaGreatDoorJMulti
set_option linter.unusedVariables false
set_option linter.unusedSimpArgs false
set_option maxHeartbeats 64000000
set_option maxRecDepth 100000
namespace Go.Proofs.YtflepnkpihfidaaGreatDoor
open Lib (hid)
open Go.RowKit
def OwnM (W0 w:World) (v:Value) (l:List UInt8):Prop:=∃g cap cur fz,v=.slice (some ⟨g,0,none⟩) l.length cap∧W0.heap.size≤g∧w.heap[g]?=some (.cells cur 5 fz)∧(fz.2=0∨cur.size≤fz.1)∧l.length≤cap∧cap≤maxLen∧cur.size=cap∧cur.toList.take l.length=l.map byt
theorem OwnM.byts {W0 w:World} {v:Value} {l:List UInt8} (h:OwnM W0 w v l):Byts w v l:=by
 obtain ⟨g,cap,cur,fz,rfl,_,hg,_,hc,hm,hs,ht⟩:=h
 refine ⟨_,_,rfl,hc,by unfold maxLen at hm;omega,.inr ⟨g,0,rfl,(Array.getElem?_eq_some_iff.1 hg).1,fun j u hu=>?_⟩⟩
 rw [Nat.zero_add,cell_of_row w g j cur _ fz hg]
 rw [←ht,List.getElem?_take] at hu
 split at hu
 ·simpa using hu
 ·cases hu
theorem OwnM.form {W0 w:World} {v:Value} {l:List UInt8} (h:OwnM W0 w v l):∃A c,v=.slice A l.length c:=by
 obtain ⟨g,cap,cur,fz,rfl,_⟩:=h;exact ⟨_,_,rfl⟩
theorem OwnM.gr {W0 w w':World} {v:Value} {l:List UInt8} (h:OwnM W0 w v l) (g:Gr w w'):OwnM W0 w' v l:=by
 obtain ⟨b,cap,cur,fz,rfl,h0,hg,r⟩:=h
 exact ⟨b,cap,cur,fz,rfl,h0,(g.block b (Array.getElem?_eq_some_iff.1 hg).1).trans hg,r⟩
theorem OwnM.base {W0 W1 w:World} {v:Value} {l:List UInt8} (h:OwnM W1 w v l) (hb:W0.heap.size≤W1.heap.size):OwnM W0 w v l:=by
 obtain ⟨g,cap,cur,fz,hv,h0,r⟩:=h
 exact ⟨g,cap,cur,fz,hv,Nat.le_trans hb h0,r⟩
theorem OwnM.lt {W0 w:World} {v:Value} {l:List UInt8} (h:OwnM W0 w v l) (b:Nat) (hb:v.ownBlock=some b):W0.heap.size≤b∧b < w.heap.size:=by
 obtain ⟨g,cap,cur,fz,rfl,h0,hg,r⟩:=h
 simp [Value.ownBlock] at hb;subst hb
 exact ⟨h0,(Array.getElem?_eq_some_iff.1 hg).1⟩
theorem wpList_toBytsM {ops:Array Oper} {rest:List Oper} {o:Oper} {a:Act} {Q:Exit→Act→World→Prop} {w:World} {l:List UInt8} (x:Operand) (hgd:o.guard=none) (ho:o.op=.convert 9 30 x) (hx:a.eval x=str l) (hl:l.length≤1000000000)
  (h:∀A c n w',n=l.length→OwnM w w' (.slice A n c) l→Gr w w'→wpList Tryz.prog ops Q rest (a.put o.dst (.slice A n c)) w'):wpList Tryz.prog ops Q (o::rest) a w:=by
 have hr:=run_bytes_of_string (P:=Tryz.prog) w 9 30 5 ⟨l.toArray⟩ Tryz.underlying9 Tryz.underlying30 Tryz.underlying5
 have hg:=grownCap_ge w l.length 0 5
 have hg2:=grownCap_le_maxLen w l.length 0 5 (by unfold maxLen;omega)
 have hsz:(bytesRow ⟨l.toArray⟩ (grownCap w l.length 0 5)).size=grownCap w l.length 0 5:=by
  simp [bytesRow];show l.length+(grownCap w l.length 0 5-l.length)=_;omega
 refine wpList_run hgd (v:=.slice (some ⟨w.heap.size,0,none⟩) l.length (grownCap w l.length 0 5)) ?_ (h _ _ _ _ rfl ⟨w.heap.size,_,bytesRow ⟨l.toArray⟩ (grownCap w l.length 0 5),((bytesRow ⟨l.toArray⟩ (grownCap w l.length 0 5)).size,(bytesRow ⟨l.toArray⟩ (grownCap w l.length 0 5)).size+1),rfl,Nat.le_refl _,heap_alloc_new w.drew _,.inr (Nat.le_refl _),hg,hg2,hsz,?_⟩ (Gr.al (Gr.dr (Gr.refl w)) _))
 ·unfold execOp
  simp only [ho,hx,Sem.run_bind]
  rw [hr]
  rfl
 ·unfold bytesRow
  rw [Array.toList_append,List.take_append_of_le_length (by simp)]
  simp
  exact List.take_of_length_le (by simp)
theorem run_storeCells_atM (P:Program) (g o:Nat) (t:TypeId) (fz:Nat×Nat):∀(vs:List Value) (i:Nat) (cur:Array Value) (w:World),w.heap[g]?=some (.cells cur t fz)→(fz.2=0∨cur.size≤fz.1)→o+i+vs.length≤cur.size→(∀v∈vs,v.oneCell'=true)→
  (storeCells ⟨g,o,none⟩ vs i).run P w=.ok () (w.setRow g (cur.toList.take (o+i)++vs++cur.toList.drop (o+i+vs.length)).toArray)
 | [],i,cur,w,hg,_,_,_=>by
   simp only [storeCells,List.append_nil,List.length_nil,Nat.add_zero,List.take_append_drop,Array.toArray_toList]
   rw [setRow_self w g cur t fz hg]
   rfl
 | v::rest,i,cur,w,hg,hfz,hl,h1=>by
   have hi:o+i < cur.size:=by simp at hl;omega
   have hadd:(⟨g,o,none⟩:Addr).add i=⟨g,o+i,none⟩:=by unfold Addr.add;split <;> simp_all
   have hcell:w.cell? ⟨g,o+i,none⟩=some cur[o+i]:=by simp [World.cell?,hg,hi]
   have hfro:w.frozen? ⟨g,o+i,none⟩=false:=by
    obtain ⟨lo,hi'⟩:=fz
    simp only [World.frozen?,hg,Bool.and_eq_false_iff,decide_eq_false_iff_not]
    simp only at hfz
    omega
   have hst:(store ((⟨g,o,none⟩:Addr).add i) v).run P w=.ok () (w.setRow g (cur.setIfInBounds (o+i) v)):=by
    rw [hadd,run_store P w _ v _ (h1 v (by simp)),hcell]
    simp [hfro,setCell_eq_setRow w g (o+i) cur t fz v hg]
   have ih:=run_storeCells_atM P g o t fz rest (i+1) (cur.setIfInBounds (o+i) v) (w.setRow g (cur.setIfInBounds (o+i) v)) (setRow_heap w g cur _ t _ hg) (by simpa using hfz) (by simp at hl ⊢;omega) (fun x hx=>h1 x (by simp [hx]))
   simp only [storeCells,Sem.run_bind,hst,Result.andThen_ok,ih,setRow_setRow]
   congr 3
   have e:=list_seg_step cur.toList (o+i) v rest (by simp at hl ⊢;omega)
   simpa [Array.toList_setIfInBounds,Nat.add_assoc] using e
theorem run_append_srcM {W0 W:World} {ty:TypeId} {v u:Value} {l y:List UInt8} (hB:W0.heap.size≤W.heap.size) (hown:OwnM W0 W v l) (hu:Byts W u y) (hn:l.length+y.length≤1000000000) :
  ∃v' w',(Builtin.append_ #[30,30] ty #[v,u]).run Tryz.prog W=.ok v' w'∧OwnM W0 w' v' (l++y)∧W.grownBy w' v.ownBlock∧(v'.ownBlock=v.ownBlock∨v'.ownBlock=some W.heap.size):=by
 have hE:=elemByte
 obtain ⟨i,hi,hz0,hz1,hz2⟩:=info_parts hE.hi
 have hbs:=hown.byts
 obtain ⟨g,cap,cur,fz,rfl,h0,hg,hfz,hc,hm,hs,ht⟩:=hown
 obtain ⟨A,c,rfl,hyc,hym,hh⟩:=hu
 have hmx:cap≤maxLen:=hm
 have hlen:(l++y).length=l.length+y.length:=List.length_append
 cases A with
 | none=>
   have hy:y=[]:=by
    rcases hh with hh | ⟨b,o,hA,_⟩
    ·simpa using hh
    ·cases hA
   subst hy
   refine ⟨.slice (some ⟨g,0,none⟩) l.length cap,W,?_,⟨g,cap,cur,fz,by simp,h0,hg,hfz,by simpa using hc,hm,hs,by simpa using ht⟩,(Gr.refl W).by _,.inl rfl⟩
   simp [Builtin.append_,run_underlying hE.ht,sizeOf,typeInfo,hi,Builtin.lenOf,Builtin.firstCells,hc,storeCells]
 | some ad=>
   have hnews:∀j x,(y.map byt)[j]?=some x→W.cell? (ad.add j)=some x:=by
    intro j x hx
    rcases hh with hh | ⟨b,o,hA,_,hj⟩
    ·rw [hh] at hx;simp at hx
    ·injection hA with hA
     subst hA
     have e1:(Addr.mk b o none).add j=⟨b,o+j,none⟩:=by unfold Addr.add;split <;> simp_all
     rw [e1];exact hj j x hx
   have h1:∀x∈y.map byt,x.oneCell'=true:=one_byt y
   have hl:(y.map byt).length=y.length*i.size:=by rw [hz1,List.length_map,Nat.mul_one]
   by_cases hroom:l.length+y.length≤cap
   ·have hf:=run_firstCells_some (P:=Tryz.prog) W i.size y.length ad y.length c (y.map byt) hl hnews
    have hst:=run_storeCells_atM Tryz.prog g l.length 5 fz (y.map byt) 0 cur W hg hfz (by simp;omega) h1
    simp only [Nat.add_zero,List.length_map] at hst
    have hr:(Builtin.append_ #[30,30] ty #[.slice (some ⟨g,0,none⟩) l.length cap,.slice (some ad) y.length c]).run Tryz.prog W=.ok (.slice (some ⟨g,0,none⟩) (l.length+y.length) cap) (W.setRow g (cur.toList.take l.length++y.map byt++cur.toList.drop (l.length+y.length)).toArray):=by
     rw [hz1] at hf
     simp [Builtin.append_,run_underlying hE.ht,sizeOf,typeInfo,hi,hz1,Builtin.lenOf,hroom,hf,Addr.add_lit,hst]
    refine ⟨_,_,hr,⟨g,cap,_,fz,by rw [hlen],h0,setRow_heap W g cur _ _ _ hg,?_,by rw [hlen];exact hroom,hm,?_,?_⟩,⟨rfl,rfl,rfl,by simp,fun k _ hk=>setRow_other W g k _ (fun e=>hk (by simp [Value.ownBlock,e]))⟩,.inl rfl⟩
    ·have hsz:(cur.toList.take l.length++y.map byt++cur.toList.drop (l.length+y.length)).toArray.size=cur.size:=by
      simp only [List.size_toArray,List.length_append,List.length_take,List.length_drop,Array.length_toList,List.length_map];omega
     rw [hsz];exact hfz
    ·simp only [List.size_toArray,List.length_append,List.length_take,List.length_drop,Array.length_toList,List.length_map];omega
    ·rw [ht,List.map_append]
     have e:(l.map byt++y.map byt).length=(l++y).length:=by simp
     rw [←e];exact List.take_left
   ·have holds:∀j x,(l.map byt)[j]?=some x→W.cell? ((⟨g,0,none⟩:Addr).add j)=some x:=by
     intro j x hx
     have hadd:(⟨g,0,none⟩:Addr).add j=⟨g,j,none⟩:=by unfold Addr.add;split <;> simp_all
     rw [hadd,cell_of_row W g j cur _ fz hg]
     rw [←ht,List.getElem?_take] at hx
     split at hx
     ·simpa using hx
     ·cases hx
    have hr:=run_append_grow (P:=Tryz.prog) W 30 ty 5 i (.int .u8 0) hE.ht hi hz0 ⟨g,0,none⟩ l.length cap (l.map byt) (by rw [hz1];simp) holds ad y.length c (y.map byt) hl hnews (by omega) (by omega) (by rw [hz2];exact growslice_fits (by omega) (by omega))
    have hge:=grownCap_ge W (l.length+y.length) cap 5
    have hcm2:grownCap W (l.length+y.length) cap 5≤maxLen:=grownCap_le_maxLen W (l.length+y.length) cap _ (by unfold maxLen;omega)
    refine ⟨_,_,hr,⟨W.heap.size,_,_,(0,0),by rw [hlen],hB,heap_alloc_new W.drew _,.inl rfl,by rw [hlen];exact hge,hcm2,?_,?_⟩,⟨rfl,rfl,rfl,by simp,fun k hk _=>(Gr.al (Gr.dr (Gr.refl W)) _).block k hk⟩,.inr rfl⟩
    ·have hz1:(Value.int IntKind.u8 0).cells.size=1:=rfl
     simp only [Array.size_append,List.size_toArray,size_zeroCells,hz1,List.length_map]
     omega
    ·simp only [Array.toList_append,List.append_assoc]
     rw [←List.append_assoc,List.map_append]
     have e:(l.map byt++y.map byt).length=(l++y).length:=by simp
     rw [←e];exact List.take_left
theorem wpList_appM {ops:Array Oper} {rest:List Oper} {o:Oper} {a:Act} {Q:Exit→Act→World→Prop} {W0 W:World} {v u:Value} {l y:List UInt8}
  (hgd:o.guard=none) (s x:Operand) (ho:o.op=.call { callee:=.builtin .append,args:=#[s,x],argTypes:=#[30,30] })
  (hs:a.eval s=v) (hx:a.eval x=u) (hG:Gr W0 W) (hown:OwnM W0 W v l) (hu:Byts W u y) (hn:l.length+y.length≤1000000000)
  (h:∀A c n w',n=(l++y).length→OwnM W0 w' (.slice A n c) (l++y)→Gr W0 w'→wpList Tryz.prog ops Q rest (a.put o.dst (.slice A n c)) w'):wpList Tryz.prog ops Q (o::rest) a W:=by
 obtain ⟨v',w',hr,h2,h3,h4⟩:=run_append_srcM (ty:=o.type) hG.size hown hu hn
 obtain ⟨A,c,rfl⟩:=h2.form
 refine wpList_plain hgd fun K hK=>?_
 unfold Oper.wp execOp
 simp only [ho,resolve,invoke,builtin,Sem.run_bind,Sem.run_pure,Result.andThen_ok,List.map_toArray,List.map_cons,List.map_nil,hs,hx,hr]
 refine hK _ _ (h A c _ w' rfl h2 ?_)
 exact ⟨h3.os.trans hG.os,h3.tape.trans hG.tape,h3.output.trans hG.output,Nat.le_trans hG.size h3.size,fun k hk=>(h3.block k (Nat.lt_of_lt_of_le hk hG.size) (fun e=>by have:=(hown.lt k e.symm).1;omega)).trans (hG.block k hk)⟩
theorem by_tr2 {a b c:World} {r r':Option Nat} (h1:a.grownBy b r) (h2:b.grownBy c r') (h:r'=r∨∃k,r'=some k∧a.heap.size≤k):a.grownBy c r:=by
 refine ⟨h2.os.trans h1.os,h2.tape.trans h1.tape,h2.output.trans h1.output,Nat.le_trans h1.size h2.size,fun k hk hr=>?_⟩
 rw [h2.block k (Nat.lt_of_lt_of_le hk h1.size) (fun e=>?_),h1.block k hk hr]
 rcases h with h | ⟨j,hj,hjs⟩
 ·exact hr (e.trans h)
 ·rw [hj] at e;injection e with e;omega
theorem by_gr {a b c:World} {r:Option Nat} (h1:a.grownBy b r) (h2:Gr b c):a.grownBy c r:=by_tr2 h1 (h2.by r) (.inl rfl)
theorem put_w (u:Value) (xs:List Fld) (w:World) (hu:Flds w u xs) (hs:Short2 xs) (_h1:xs.length≤140) (_h2:bulk2 xs≤12400) :
  Calls Tryz.prog 128 #[u] w fun e w'=>e=.returned (.tuple #[str (put xs).1,.int .i64 (put xs).2])∧Gr w w':=by
 obtain ⟨A,c,rfl,hc,hx,hA⟩:=hu.open
 have HA:=hid hA;have HS:=hid hs;clear hA hu hs
 go_enter Tryz.func128,Tryz.ntmps128
 go_wp2_with fail
 go_loopw [2,3,4,6,12] (fun x2 x3 sm x6 i wr=>∃(k:Nat),k≤xs.length∧i=.int .i64 k∧Gr w wr∧sm=.int .i64 ((lines (xs.take k)).length+2)∧(xs.take k).all right=true) (fun _ _ _ _ i _=>xs.length-(intOf i).toNat)
 case atStart=>exact ⟨0,Nat.zero_le _,rfl,Gr.refl _,rfl,rfl⟩
 case round=>
  obtain ⟨k,hk,rfl,hG,rfl,hE⟩:=hrel
  have HE:=hid hE;clear hE
  have hln:(lines (xs.take k)).length≤20000:=by have:=lines_take_len xs k (by omega);omega
  by_cases hlt:k < xs.length
  ·obtain ⟨b1,o1,rfl,hb1,hc1,hc1'⟩:=HA.out k hlt
   obtain ⟨hB1,hB2⟩:=HS.out.at k hlt
   have hc2:=Gr.cell hG hc1
   have hc2':=Gr.cell hG hc1'
   have hls:=hid (congrArg List.length (lines_succ xs k hlt))
   clear HA HS
   go_upto_region 5 with fail
   obtain ⟨hGb,cf0,cf1⟩:=box2 wr (str xs[k].1) (str xs[k].2) 127
   have hG:=Gr.tr hG hGb
   generalize wr.alloc (Obj.cells #[str xs[k].1,str xs[k].2] 127)=wb at *
   clear hGb hc2 hc2'
   cases hr:right (xs[k].1,xs[k].2) with
   | false=>
     have hp:=hid (put_bad xs k hlt hr)
     go_wp2_with (go_at_call 185;refine (right_any _ _ _ (by omega) (by omega)).mono ?_;rintro e w1 ⟨rfl,hG1⟩)
     go_ret2
     exact ⟨by rw [hp.out];rfl,Gr.tr hG hG1⟩
   | true=>
     go_wp2_with (go_at_call 185;refine (right_any _ _ _ (by omega) (by omega)).mono ?_;rintro e w1 ⟨rfl,hG1⟩;have cf0:=Gr.cell hG1 cf0;have cf1:=Gr.cell hG1 cf1)
     exact ⟨⟨k+1,by omega,by go_num,Gr.tr hG hG1,by rw [hls.out];simp only [List.length_append,List.length_cons,List.length_nil];go_num,all_take_succ right xs k hlt HE.out hr⟩,by simp [intOf];omega⟩
  ·have hp:=put_all xs k hlt HE.out
   have htk:xs.take k=xs:=List.take_of_length_le (by omega)
   rw [htk] at hln ⊢
   have hbl:=block_len xs
   by_cases hc1:100 < xs.length
   ·rw [if_pos (.inl hc1)] at hp
    have hp:=hid hp
    have hd:decide (100 < (xs.length:Int))=true:=decide_eq_true (by omega)
    clear hbl htk
    go_wp2_with fail
    go_ret2
    exact ⟨by rw [hp.out];rfl,hG⟩
   ·have hd:decide (100 < (xs.length:Int))=false:=decide_eq_false (by omega)
    rw [if_neg (by omega)] at hp
    have hp:=hid hp
    have hd2:decide (65536 < ((lines xs).length:Int)+2)=false:=decide_eq_false (by omega)
    clear hbl htk
    obtain ⟨wo,hwo⟩:∃wo:World,wo=wr:=⟨_,rfl⟩
    subst hwo
    go_upto_region 12 with fail
    have hB0:=hid (bld_new w wo hG)
    generalize hwb:wo.alloc (.cells #[.pointer none,.slice none 0 0] 171)=wb at *
    clear hwb
    have hbg:w.heap.size≤wo.heap.size:=hG.size
    generalize wo.heap.size=bb at *
    clear hG HE
    go_wp2_with fail
    go_loopw [9,40] (fun x9 i wr=>∃(k:Nat),k≤xs.length∧i=.int .i64 k∧Bld w wr bb (lines (xs.take k))) (fun _ i _=>xs.length-(intOf i).toNat)
    case atStart=>exact ⟨0,Nat.zero_le _,rfl,hB0.out⟩
    case round=>
     clear hB0 hln hk hlt
     obtain ⟨k,hk,rfl,hB⟩:=hrel
     have HB:=hid hB;clear hB
     have hG:=HB.out.2.1
     have hln:(lines (xs.take k)).length≤20000:=by have:=lines_take_len xs k (by omega);omega
     by_cases hlt:k < xs.length
     ·obtain ⟨b1,o1,rfl,hb1,hc1,hc1'⟩:=HA.out k hlt
      have hq:xs[k].1.length+xs[k].2.length≤12400:=by have h1:=bulk2_succ xs k hlt;have h2:=bulk2_take_le xs (k+1);omega
      have hc2:=Gr.cell hG hc1
      have hc2':=Gr.cell hG hc1'
      have hls:=hid (lines_succ xs k hlt)
      have hgb:bb≠wr.heap.size:=by
       obtain ⟨_,_,_,_,_,hb,_⟩:=HB.out
       have:=hb.lt;omega
      clear HA HS
      go_upto_region 15 with fail
      have hbf:=Bk.new wr 127 #[str xs[k].1,str xs[k].2] (0,0)
      have HB:=hid (HB.out.gr (Gr.al (Gr.refl wr) (.cells #[str xs[k].1,str xs[k].2] 127)))
      generalize wr.alloc (Obj.cells #[str xs[k].1,str xs[k].2] 127)=wf at *
      clear hc2 hc2' hG
      generalize wr.heap.size=gf at *
      have cf0:wf.cell? ⟨gf,0,none⟩=some (str xs[k].1):=hbf.cell 0
      go_wp2_with fail
      refine (writeString_any w _ bb _ _ HB.out (by omega)).mono ?_
      rintro e w1 ⟨rfl,hB1',hO1⟩
      go_wp2_with fail
      refine (writeString_any w _ bb _ [58,32] hB1' (by simp;omega)).mono ?_
      rintro e w2 ⟨rfl,hB2',hO2⟩
      have hbf2:=(hO1.tr hO2) gf _ _ _ (Ne.symm hgb) fldNe hbf
      have cf1:w2.cell? ⟨gf,1,none⟩=some (str xs[k].2):=hbf2.cell 1
      have HB2:=hid hB2'
      clear hB1' hB2' hO1 hO2 hbf hbf2 cf0
      go_wp2_with fail
      refine (writeString_any w _ bb _ _ HB2.out (by simp;omega)).mono ?_
      rintro e w3 ⟨rfl,hB3,_⟩
      have HB3:=hid hB3;clear hB3
      go_wp2_with fail
      refine (writeString_any w _ bb _ [13,10] HB3.out (by simp;omega)).mono ?_
      rintro e w4 ⟨rfl,hB4,_⟩
      have HB4:=hid hB4;clear hB4
      go_wp2_with fail
      exact ⟨⟨k+1,by omega,by go_num,by rw [hls.out];exact HB4.out⟩,by simp [intOf];omega⟩
     ·rw [show xs.take k=xs from List.take_of_length_le (by omega)] at HB
      go_wp2_with fail
      refine (writeString_any w _ bb _ [13,10] HB.out (by rw [show xs.take k=xs from List.take_of_length_le (by omega)] at hln;simp;omega)).mono ?_
      rintro e w1 ⟨rfl,hB1,_⟩
      have HB1:=hid hB1;clear hB1
      go_wp2_with fail
      refine (string_any w _ bb _ HB1.out).mono ?_
      rintro e w2 ⟨rfl,hG2⟩
      go_wp2_with fail
      go_ret2
      exact ⟨by rw [hp.out];rfl,hG2⟩
def PutM (w:World) (r:List UInt8×Nat) (e:Ending) (w':World):Prop:=∃A c,e=.returned (.tuple #[.slice A r.1.length c,.int .i64 r.2])∧Gr w w'∧((r.2=0∧OwnM w w' (.slice A r.1.length c) r.1)∨(r.2≠0∧r.1=[]∧A=none∧c=0))
theorem put12_w (T:HeadT) (A:Option Addr) (c:Nat) (w:World) (hp:Pw w) (hu:Flds w (.slice A T.2.2.2.length c) T.2.2.2) (hs:Short2 T.2.2.2) (h1:T.1.length≤600) (h2:T.2.1.length≤600) (h3:T.2.2.2.length≤140) (h4:bulk2 T.2.2.2≤12400) :
  Calls Tryz.prog 64 #[.agg #[str T.1,str T.2.1,.int .i64 T.2.2.1,.slice A T.2.2.2.length c]] w (PutM w (putH T)):=by
 obtain ⟨m,o,st,fs⟩:=T
 simp only at hu hs h1 h2 h3 h4 ⊢
 have hG1:=Gr.al (Gr.refl w) (Obj.cells #[str m,str o,.int .i64 st,.slice A fs.length c] 123)
 have hb1:=hid (Bk.new w 123 #[str m,str o,.int .i64 st,.slice A fs.length c] (0,0))
 have HP:=hid hp;have HU:=hid hu
 have HT:=hid (fun (w:World)=>tells_any m o st A fs.length c w)
 have HA:=hid (fun (w:World)=>asks_any m o st A fs.length c w (by omega))
 have HF:=hid (fun (w:World) (h:Flds w (.slice A fs.length c) fs)=>put_w (.slice A fs.length c) fs w h hs h3 h4)
 have hpl:=put_len fs
 clear hu hs hp
 go_enter Tryz.func64,Tryz.ntmps64
 go_upto_region 1 with fail
 generalize w.alloc (Obj.cells #[str m,str o,.int .i64 st,.slice A fs.length c] 123)=w1 at *
 generalize w.heap.size=g at *
 obtain ⟨q0,q1,q2,q3⟩:=hb1.out.cells4
 cases ht:tellsB m o st with
 | true=>
   have hta:=tells_of ht
   obtain ⟨rfl,rfl,hs1,hs2⟩:=hta
   rw [ht] at HT
   have hil:(Lib.itoa st).length=3:=by rw [itoa3 st (by omega) (by omega)];rfl
   have hil':(Lib.itoa st).length≤10:=by omega
   have hrl:=reason_len st
   clear hil
   have HLN:=hid (show lineP ([],[],st,fs)=httpB++[32]++Lib.itoa st++[32]++reason st from lineP_tells ht)
   have HFL:=hid (show (tellsB [] [] st||asksB [] [] st)=true from by rw [ht];rfl)
   clear ht
   go_upto_region 3 with (go_at_call 124;refine (HT.out _).mono ?_;rintro e w2 ⟨rfl,hG2⟩)
   have q2':=fun i=>Gr.cell (gw_gr w2 i) (Gr.cell hG2 q2)
   have HP2:=hid (HP.out.gr (Gr.tr hG1 hG2))
   have i0:-9223372036854775808≤st:=by omega
   have i1:st≤9223372036854775807:=by omega
   refine wp_region_gw (by kernel_rfl) (by kernel_rfl) ?_
   repeat (first | go_big_quiet_step ((first | (go_at_call 125;exact gw_call (itoa_any _ _ (HP2.out.gr (gw_gr _ _)) i0 i1)) | (go_at_call 126;exact gw_call (reason_any _ _)))) | quiet_step ((first | (go_at_call 125;exact gw_call (itoa_any _ _ (HP2.out.gr (gw_gr _ _)) i0 i1)) | (go_at_call 126;exact gw_call (reason_any _ _)))))
   refine wpQuiet_nil ?_;intro wq hwq;obtain ⟨iq,rfl⟩:=hwq
   have hGW:=Gr.tr hG1 (Gr.tr hG2 (gw_gr w2 iq))
   have q3:=Gr.cell (gw_gr w2 iq) (Gr.cell hG2 q3)
   generalize gw w2 iq=w3 at *
   clear iq q2' q0 q1 q2
   have HGw3:=hGW
   rcases put_zero fs with hz | hz
   ·have HR:=hid (show putH ([],[],st,fs)=(lineP ([],[],st,fs)++[13,10]++(put fs).1,0) from putH_good HFL.out hz)
    rw [hz] at HF
    clear hz
    generalize (put fs).1=blk at *
    go_wp2_with (first
     | (go_at_call 128;refine (HF.out _ (HU.out.gr hGW)).mono ?_;rintro e w7 ⟨rfl,hG7⟩)
     | (refine wpList_toBytsM _ rfl rfl rfl ?_ ?_;(simp only [List.length_append,List.length_cons,List.length_nil];omega);intro A8 c8 n8 w8 hn8 hb8 hG8;subst hn8;have HB8:=hid hb8;clear hb8))
    go_ret2
    rw [HR.out,HLN.out]
    refine ⟨A8,c8,?_,Gr.tr hGW (Gr.tr hG7 hG8),.inl ⟨rfl,?_⟩⟩
    ·simp [httpB]
    ·simpa [httpB] using HB8.out.base (Gr.tr hGW hG7).size
   ·have HR:=hid (show putH ([],[],st,fs)=([],(put fs).2) from putH_bad HFL.out hz)
    have hne:(((put fs).2:Int) != 0)=true:=by simp;exact hz
    have HNZ:=hid hz
    generalize put fs=p at *
    go_wp2_with (go_at_call 128;refine (HF.out _ (HU.out.gr hGW)).mono ?_;rintro e w7 ⟨rfl,hG7⟩)
    go_ret2
    rw [HR.out]
    exact ⟨none,0,rfl,Gr.tr hGW hG7,.inr ⟨HNZ.out,rfl,rfl,rfl⟩⟩
 | false=>
   rw [ht] at HT
   cases ha:asksB m o st with
   | false=>
     have HR:=hid (show putH (m,o,st,fs)=([],1) from putH_none ht ha)
     rw [ha] at HA
     clear ha ht
     go_wp2_with (first
      | (go_at_call 124;refine (HT.out _).mono ?_;rintro e w2 ⟨rfl,hG2⟩;have q0:=Gr.cell hG2 q0;have q1:=Gr.cell hG2 q1;have q2:=Gr.cell hG2 q2;have q3:=Gr.cell hG2 q3)
      | (go_at_call 127;refine (HA.out _).mono ?_;rintro e w3 ⟨rfl,hG3⟩))
     go_ret2
     rw [HR.out]
     exact ⟨none,0,rfl,Gr.tr hG1 (Gr.tr hG2 hG3),.inr ⟨by decide,rfl,rfl,rfl⟩⟩
   | true=>
     have HLN:=hid (show lineP (m,o,st,fs)=m++[32]++o++[32]++httpB from lineP_asks ht)
     have HFL:=hid (show (tellsB m o st||asksB m o st)=true from by rw [ht,ha];rfl)
     rw [ha] at HA
     clear ha ht
     go_upto_region 6 with (first
      | (go_at_call 124;refine (HT.out _).mono ?_;rintro e w2 ⟨rfl,hG2⟩;have q0:=Gr.cell hG2 q0;have q1:=Gr.cell hG2 q1;have q2:=Gr.cell hG2 q2;have q3:=Gr.cell hG2 q3)
      | (go_at_call 127;refine (HA.out _).mono ?_;rintro e w3 ⟨rfl,hG3⟩;have q3:=Gr.cell hG3 q3))
     have hGW:=Gr.tr hG1 (Gr.tr hG2 hG3)
     have HGw3:=hGW
     rcases put_zero fs with hz | hz
     ·have HR:=hid (show putH (m,o,st,fs)=(lineP (m,o,st,fs)++[13,10]++(put fs).1,0) from putH_good HFL.out hz)
      rw [hz] at HF
      clear hz
      generalize (put fs).1=blk at *
      go_wp2_with (first
       | (go_at_call 128;refine (HF.out _ (HU.out.gr hGW)).mono ?_;rintro e w7 ⟨rfl,hG7⟩)
       | (refine wpList_toBytsM _ rfl rfl rfl ?_ ?_;(simp only [List.length_append,List.length_cons,List.length_nil];omega);intro A8 c8 n8 w8 hn8 hb8 hG8;subst hn8;have HB8:=hid hb8;clear hb8))
      go_ret2
      rw [HR.out,HLN.out]
      refine ⟨A8,c8,?_,Gr.tr hGW (Gr.tr hG7 hG8),.inl ⟨rfl,?_⟩⟩
      ·simp [httpB]
      ·simpa [httpB] using HB8.out.base (Gr.tr hGW hG7).size
     ·have HR:=hid (show putH (m,o,st,fs)=([],(put fs).2) from putH_bad HFL.out hz)
      have hne:(((put fs).2:Int) != 0)=true:=by simp;exact hz
      have HNZ:=hid hz
      generalize put fs=p at *
      go_wp2_with (go_at_call 128;refine (HF.out _ (HU.out.gr hGW)).mono ?_;rintro e w7 ⟨rfl,hG7⟩)
      go_ret2
      rw [HR.out]
      exact ⟨none,0,rfl,Gr.tr hGW hG7,.inr ⟨HNZ.out,rfl,rfl,rfl⟩⟩
theorem formatBits_app (n:Nat) (W0 w:World) (b cap:Nat) (hn:n < 18446744073709551616) (hz:Tz w) (hG0:Gr W0 w) (hv:Own W0 w 5 1 (.slice (some ⟨b,0,none⟩) 0 cap) 0 []) :
  Calls Tryz.prog 190 #[.slice (some ⟨b,0,none⟩) 0 cap,.int .u64 n,.int .i64 16,.bool false,.bool true] w fun e w'=>∃v',e=.returned (.tuple #[v',str []])∧Own W0 w' 5 1 v' (hexT n).length ((hexT n).map byt)∧Gr W0 w':=by
 have hne:(Value.slice (some ⟨b,0,none⟩) 0 cap).ownBlock≠some w.heap.size:=fun h=>by have:=(World.ownsRow.lt hv _ h).2;omega
 have HL:=hid (hexT_le n hn)
 have HNE:=hid hne
 have HV:=hid hv
 have HG0:=hid hG0
 clear hv hG0 hne
 go_enter Tryz.func190,Tryz.ntmps190
 go_wp2_with (first | (go_at_call 247;refine (pow2_16 _).mono ?_;rintro e w' ⟨rfl,rfl⟩) | (go_at_call 248;refine (tz_16 _ (hz.gr (Gr.al (Gr.refl w) _))).mono ?_;rintro e w' ⟨rfl,rfl⟩))
 go_loopw [1,13] (fun u i wr=>∃j p:Nat,p+j=65∧j≤15∧(j=0∨16 ^ j≤n)∧u=.int .u64 ((n / 16 ^ j:Nat):Int)∧i=.int .i64 (p:Int)∧Gr w wr∧Bk wr w.heap.size 319 ((hexRow p j n).map byt).toArray (0,0)∧Own W0 wr 5 1 (.slice (some ⟨b,0,none⟩) 0 cap) 0 []) (fun u _ _=>(intOf u).toNat)
 case atStart=>exact ⟨0,65,rfl,by omega,.inl rfl,by simp,rfl,Gr.al (Gr.refl w) _,by rw [hexRow_zero];exact Bk.new w _ _ _,HV.out.al _⟩
 case round=>
  obtain ⟨j,p,hpj,hj,hp,rfl,rfl,hG,hB,ho⟩:=hrel
  have HO:=hid (fun c=>own_set ho HNE.out (p-1) (.int .u8 ((UInt8.toNat c:Nat):Int)))
  clear ho
  have hm:n / 16 ^ j < 18446744073709551616:=Nat.lt_of_le_of_lt (Nat.div_le_self _ _) hn
  have hc:=hexRow_cell p j n (by omega) hB
  have hf:=(hB.free (p-1) (.inr (Nat.zero_le _)))
  by_cases h16:16≤n / 16 ^ j
  ·have HU:=hid (pow_up j n h16)
   have hj15:=pow_15 j n hn HU.out
   have HM:=hid (show n / 16 ^ (j+1)=n / 16 ^ j / 16 by rw [Nat.pow_succ,Nat.div_div_eq_div_mul])
   have HB:=hid (fun c=>hexRow_set p j n (by omega) hB c)
   clear hp hB
   generalize n / 16 ^ j=m at *
   have ha:=and15 m hm
   have hlt:=Nat.mod_lt m (show 16 > 0 by omega)
   have HD:=hid (digL (m % 16) hlt)
   go_wp2_with fail
   refine ⟨⟨j+1,p-1,by omega,by omega,.inr HU.out,?_,by congr 1;omega,hG.st (Nat.le_refl _) _,HB.out _ (HD.out _),HO.out _⟩,by simp [intOf];omega⟩
   rw [HM.out];simp
  ·have HT:=hid (hexT_of j n (pow_dn j n (by omega)) hp)
   have HM:=hid (show n / 16 ^ j % 16=n / 16 ^ j from Nat.mod_eq_of_lt (by omega))
   have HB:=hid (fun c=>hexRow_set p j n (by omega) hB c)
   have HGs:=hid (fun (u:Value)=>HG0.out.tr (hG.st (p:=⟨w.heap.size,p-1,none⟩) (Nat.le_refl _) u))
   have HLN:=hid (show (hexT n).length=65-(p-1) from by rw [←HT.out,hexW_len];omega)
   clear hp hB
   rw [HM.out] at HB
   clear HM
   generalize n / 16 ^ j=m at *
   have HD:=hid (digL m (by omega))
   have HI:=hid (show (p:Int)-1=((p-1:Nat):Int) by omega)
   go_wp2_with (first
    | (refine wpList_slArr (l:=hexRow (p-1) (j+1) n) (p:=p-1) _ _ rfl rfl rfl ?_ (HB.out _ (HD.out _)) ?_ ?_ ?_;exact congrArg (Value.int IntKind.i64) HI.out;rw [hexRow_len];omega;omega;intro hA2;rw [hexRow_drop,HT.out] at hA2;have HA2:=hid hA2;clear hA2)
    | (at_builtin;refine wpList_appS (W0:=W0) (n:=0) (xs:=[]) (m:=65-(p-1)) (news:=(hexT n).map byt) elemByte rfl _ _ rfl rfl rfl (HGs.out _).size (HO.out _) (sl_of HA2.out HLN.out) (by rw [List.length_map,HLN.out];omega) (one_byt _) (by omega) (by decide) ?_;intro v8 w8 hown8 happ8;rw [Nat.zero_add,List.nil_append,←HLN.out] at hown8;obtain ⟨A8,c8,rfl⟩:=hown8.form;have HO8:=hid hown8;have hG8:=happ8.gr (HGs.out _) (HO.out _);clear hown8 happ8))
   go_ret2
   exact ⟨_,rfl,HO8.out,hG8⟩
theorem appendUint_16 (n:Nat) (W0 w:World) (b cap:Nat) (hn:n < 18446744073709551616) (hz:Tz w) (hG0:Gr W0 w) (hv:Own W0 w 5 1 (.slice (some ⟨b,0,none⟩) 0 cap) 0 []) :
  Calls Tryz.prog 298 #[.slice (some ⟨b,0,none⟩) 0 cap,.int .u64 n,.int .i64 16] w fun e w'=>∃v',e=.returned v'∧Own W0 w' 5 1 v' (hexT n).length ((hexT n).map byt)∧Gr W0 w':=by
 have HF:=hid (formatBits_app n W0 w b cap hn hz hG0 hv)
 clear hv hG0
 go_enter Tryz.func298,Tryz.ntmps298
 go_wp2_with (go_at_call 190;refine HF.out.mono ?_;rintro e w' ⟨v',rfl,ho,hg⟩;obtain ⟨A8,c8,rfl⟩:=ho.form;have HO:=hid ho;clear ho)
 go_ret
 exact ⟨_,rfl,HO.out,hg⟩
theorem appendInt_16i (n:Nat) (W0 w:World) (b cap:Nat) (hn:n < 9223372036854775808) (hz:Tz w) (hG0:Gr W0 w) (hv:Own W0 w 5 1 (.slice (some ⟨b,0,none⟩) 0 cap) 0 []) :
  Calls Tryz.prog 264 #[.slice (some ⟨b,0,none⟩) 0 cap,.int .i64 n,.int .i64 16] w fun e w'=>∃v',e=.returned v'∧Own W0 w' 5 1 v' (hexT n).length ((hexT n).map byt)∧Gr W0 w':=by
 have HF:=hid (appendUint_16 n W0 w b cap (by omega) hz hG0 hv)
 clear hv hG0
 go_enter Tryz.func264,Tryz.ntmps264
 go_wp2_with (go_at_call 298;refine HF.out.mono ?_;rintro e w' ⟨v',rfl,ho,hg⟩;obtain ⟨A8,c8,rfl⟩:=ho.form;have HO:=hid ho;clear ho)
 go_ret
 exact ⟨_,rfl,HO.out,hg⟩
theorem appendInt_16 (n:Nat) (W0 w:World) (b cap:Nat) (hn:n < 9223372036854775808) (hz:Tz w) (hG0:Gr W0 w) (hv:Own W0 w 5 1 (.slice (some ⟨b,0,none⟩) 0 cap) 0 []) :
  Calls Tryz.prog 224 #[.slice (some ⟨b,0,none⟩) 0 cap,.int .i64 n,.int .i64 16] w fun e w'=>∃v',e=.returned v'∧Own W0 w' 5 1 v' (hexT n).length ((hexT n).map byt)∧Gr W0 w':=by
 have HF:=hid (appendInt_16i n W0 w b cap hn hz hG0 hv)
 clear hv hG0
 go_enter Tryz.func224,Tryz.ntmps224
 go_wp2_with (go_at_call 264;refine HF.out.mono ?_;rintro e w' ⟨v',rfl,ho,hg⟩;obtain ⟨A8,c8,rfl⟩:=ho.form;have HO:=hid ho;clear ho)
 go_ret
 exact ⟨_,rfl,HO.out,hg⟩
def chunkL (l:List UInt8):List UInt8:=if l=[] then [] else hexT l.length++[13,10]++l++[13,10]
def lastL:List UInt8:=[48,13,10,13,10]
theorem chunkPut_any (l:List UInt8) (v:Value) (w:World) (hz:Tz w) (hb:Byts w v l) (hl:l.length≤1000000) :
  Calls Tryz.prog 158 #[v] w fun e w'=>∃A c,e=.returned (.slice A (chunkL l).length c)∧Byts w' (.slice A (chunkL l).length c) (chunkL l)∧Gr w w':=by
 obtain ⟨A,c,rfl,hc,hm,_⟩:=id hb
 have HB:=hid hb
 have HZ:=hid hz
 clear hb hz
 by_cases h0:l=[]
 ·subst h0
  go_enter Tryz.func158,Tryz.ntmps158
  go_wp2_with fail
  go_ret
  exact ⟨none,0,rfl,Byts.nil _,Gr.refl _⟩
 ·have HC:=hid (show chunkL l=hexT l.length++[13,10]++l++[13,10] from if_neg h0)
  have hp:0 < l.length:=List.length_pos_iff.2 h0
  have HL:=hid (hexT_le l.length (by omega))
  obtain ⟨hT1,hT2⟩:=HL.out
  clear h0
  generalize chunkL l=R at *
  have HA:=hid (fun (x:World) (b k:Nat) (g:Gr w x) (h:Own w x 5 1 (.slice (some ⟨b,0,none⟩) 0 k) 0 [])=>appendInt_16 l.length w x b k (by omega) (HZ.out.gr g) g h)
  generalize hexT l.length=T at *
  go_enter Tryz.func158,Tryz.ntmps158
  go_upto_region 4 with (first
   | (at_make;refine wpList_mk0 (W0:=w) (l.length+20) elemByte rfl _ _ rfl rfl rfl ?_ ?_ ?_ ?_ ?_;omega;omega;omega;exact Nat.le_refl _;intro w3 hown3 hG3)
   | (go_at_call 224;refine (HA.out _ _ _ hG3 hown3).mono ?_;rintro e w4 ⟨v4,rfl,ho4,hG4⟩;obtain ⟨A4,c4,rfl⟩:=ho4.form;have HO4:=hid ho4;clear ho4 hown3 hG3))
  have hG4a:=Gr.al hG4 (Obj.cells #[byt 13,byt 10] 5)
  have HO4a:=hid (HO4.out.al (Obj.cells #[byt 13,byt 10] 5))
  have HS4:=hid (sl_lit w4 5 [byt 13,byt 10] 2 (by decide))
  go_upto_region 5 with (at_builtin;refine wpList_appS (W0:=w) (m:=2) (news:=[byt 13,byt 10]) elemByte rfl _ _ rfl rfl rfl hG4a.size HO4a.out HS4.out rfl (one_byt [13,10]) (by omega) (by decide) ?_;intro v5 w5 hown5 happ5)
  have hG5:=happ5.gr hG4a HO4a.out
  have hown5:Own w w5 5 1 v5 (T++[13,10]).length ((T++[13,10]).map byt):=by rw [List.length_append,List.map_append];exact hown5
  have hl5:(T++[13,10]).length≤18:=by simp;omega
  generalize T++[13,10]=L5 at *
  obtain ⟨A5,k5,rfl⟩:=hown5.form
  have HO5:=hid hown5
  clear hown5 happ5 hG4a HO4a HS4 HO4 hG4
  have HB5:=hid (HB.out.gr hG5)
  go_upto_region 6 with (at_builtin;refine wpList_appS (W0:=w) (m:=l.length) (news:=l.map byt) elemByte rfl _ _ rfl rfl rfl hG5.size HO5.out HB5.out (by simp) (one_byt _) (by omega) (by decide) ?_;intro v6 w6 hown6 happ6)
  have hG6:=happ6.gr hG5 HO5.out
  have hown6:Own w w6 5 1 v6 (L5++l).length ((L5++l).map byt):=by rw [List.length_append,List.map_append];exact hown6
  have hl6:(L5++l).length≤1000018:=by simp;omega
  generalize L5++l=L6 at *
  obtain ⟨A6,k6,rfl⟩:=hown6.form
  have HO6:=hid hown6
  clear hown6 happ6 HO5 hG5 HB5
  have hG6a:=Gr.al hG6 (Obj.cells #[byt 13,byt 10] 5)
  have HO6a:=hid (HO6.out.al (Obj.cells #[byt 13,byt 10] 5))
  have HS6:=hid (sl_lit w6 5 [byt 13,byt 10] 2 (by decide))
  go_wp2_with (at_builtin;refine wpList_appS (W0:=w) (m:=2) (news:=[byt 13,byt 10]) elemByte rfl _ _ rfl rfl rfl hG6a.size HO6a.out HS6.out rfl (one_byt [13,10]) (by omega) (by decide) ?_;intro v7 w7 hown7 happ7;have hown7:Own w w7 5 1 v7 (L6++[13,10]).length ((L6++[13,10]).map byt):=(by rw [List.length_append,List.map_append];exact hown7);obtain ⟨A7,k7,rfl⟩:=hown7.form;have HO7:=hid (own_byts hown7);have hG7:=happ7.gr hG6a HO6a.out;clear hown7 happ7)
  go_ret
  rw [HC.out]
  refine ⟨A7,k7,?_,HO7.out,hG7⟩
  simp only [List.length_append,List.length_cons,List.length_nil]
  rfl
theorem chunkLast_any (w:World):Calls Tryz.prog 159 #[] w fun e w'=>∃A c,e=.returned (.slice A 5 c)∧Byts w' (.slice A 5 c) lastL∧Gr w w':=by
 have kc:=fun (w:World) (C:Array Value) (n c:Nat)=>Lib.run_convert_bytes_const (P:=Tryz.prog) w 30 5 C n c Tryz.underlying30 Tryz.underlying5
 go_enter Tryz.func159,Tryz.ntmps159
 go_wp2_with fail
 go_ret
 exact ⟨_,_,rfl,byts_new w lastL 5 (5,6) _ rfl (by decide),Gr.al (Gr.refl w) _⟩
theorem spanOpen_n (f t:Int) (w:World) (h:t≠4611686018427387904):Calls Tryz.prog 157 #[.agg #[.int .i64 f,.int .i64 t]] w fun e w'=>e=.returned (.bool false)∧Gr w w':=by
 have k1:(t==4611686018427387904)=false:=by simpa using h
 clear h
 go_enter Tryz.func157,Tryz.ntmps157
 go_wp2_with fail
 go_ret
 exact ⟨rfl,Gr.al (Gr.refl w) _⟩
theorem spanLen_s (f t:Int) (w:World) (h0:0≤f) (h1:f≤t) (h2:t≤1000000000000):Calls Tryz.prog 85 #[.agg #[.int .i64 f,.int .i64 t]] w fun e w'=>e=.returned (.int .i64 (t-f))∧Gr w w':=by
 have hs:spanB f t=true:=by unfold spanB;simp;omega
 have HS:=hid (fun (w:World)=>spanRight_any f t w)
 have HO:=hid (fun (w:World)=>spanOpen_n f t w (by omega))
 rw [hs] at HS
 clear hs
 have hb:=Bk.new w 48 #[.int .i64 f,.int .i64 t] (0,0)
 have hG1:=Gr.al (Gr.refl w) (Obj.cells #[.int .i64 f,.int .i64 t] 48)
 go_enter Tryz.func85,Tryz.ntmps85
 go_upto_region 1 with fail
 generalize w.alloc (Obj.cells #[.int .i64 f,.int .i64 t] 48)=w1 at *
 generalize w.heap.size=g at *
 obtain ⟨q0,q1⟩:=hb.cells2
 clear hb
 go_wp2_with (first
  | (go_at_call 41;refine (HS.out _).mono ?_;rintro e w2 ⟨rfl,hG2⟩;have q0:=hG2.cell q0;have q1:=hG2.cell q1)
  | (go_at_call 157;refine (HO.out _).mono ?_;rintro e w3 ⟨rfl,hG3⟩;have q0:=hG3.cell q0;have q1:=hG3.cell q1))
 go_ret
 exact ⟨rfl,Gr.tr (Gr.tr hG1 hG2) hG3⟩
def bodB (st:Int):Bool:=decide (200≤st)&&st != 204&&st != 304
theorem bodied_any (st sz:Int) (vf vp:Value) (w:World):Calls Tryz.prog 86 #[.agg #[.int .i64 st,vf,vp,.int .i64 sz]] w fun e w'=>e=.returned (.bool (bodB st))∧Gr w w':=by
 have HS:=hid (show bodB st=(decide (200≤st)&&!(st==204)&&!(st==304)) from rfl)
 cases h1:decide (200≤st) <;> cases h2:(st==204) <;> cases h3:(st==304)
 all_goals
  rw [h1,h2,h3] at HS
  have h2':(st != 204)=!(st==204):=rfl
  have h3':(st != 304)=!(st==304):=rfl
  rw [h2] at h2'
  rw [h3] at h3'
  clear h2 h3
  go_enter Tryz.func86,Tryz.ntmps86
  go_wp2_with fail
  go_ret
  exact ⟨ret_bool HS.out.symm,Gr.al (Gr.refl w) _⟩
end Go.Proofs.YtflepnkpihfidaaGreatDoor
