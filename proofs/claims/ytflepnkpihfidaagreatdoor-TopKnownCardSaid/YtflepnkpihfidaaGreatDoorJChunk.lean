/- Parts. No conditions but those that each theorem names. -/
import Derived.Test.YtflepnkpihfidaaGreatDoorJDate
import Derived.Lib.FrozenHead
import Derived.Test.YtflepnkpihfidaaGreatDoorJHead3
import Derived.Test.YtflepnkpihfidaaGreatDoorJMulti
import Derived.Test.YtflepnkpihfidaaGreatDoorJPut
import Derived.Lib.SlBytesConst
import Derived.Test.YtflepnkpihfidaaGreatDoorJReq
set_option linter.unusedVariables false
set_option linter.unusedSimpArgs false
namespace Go.Proofs.YtflepnkpihfidaaGreatDoor
open Lib (hid)
open Go.RowKit
def OwnM (W0 w:World) (v:Value) (l:List UInt8):Prop:=∃g cap cur fz,v=.slice (some ⟨g,0,none⟩) l.length cap∧W0.heap.size≤g∧w.heap[g]?=some (.cells cur 5 fz)∧(fz.2=0∨cur.size≤fz.1)∧l.length≤cap∧cap≤maxLen∧cur.size=cap∧cur.toList.take l.length=l.map byt
theorem OwnM.byts {W0 w:World} {v:Value} {l:List UInt8} (h:OwnM W0 w v l):Byts w v l:=by
 obtain ⟨g,cap,cur,fz,rfl,_,hg,_,hc,hm,hs,ht⟩:=h
 refine ⟨_,_,rfl,hc,by unfold maxLen at hm;omega,.inr ⟨g,0,rfl,(Array.getElem?_eq_some_iff.1 hg).1,fun j u hu=>?_⟩⟩
 rw [Nat.zero_add,cell_of_row w g j cur _ fz hg]
 rw [←ht,List.getElem?_take] at hu
 split at hu
 ·simpa using hu
 ·cases hu
theorem OwnM.fresh {W0 w:World} {v:Value} {l:List UInt8} (h:OwnM W0 w v l):Fresh W0 v:=by
 obtain ⟨g,cap,cur,fz,rfl,h0,_⟩:=h
 intro b hb;simp [Value.ownBlock] at hb;omega
theorem OwnM.base {W0 W1 w:World} {v:Value} {l:List UInt8} (h:OwnM W1 w v l) (hb:W0.heap.size≤W1.heap.size):OwnM W0 w v l:=by
 obtain ⟨g,cap,cur,fz,hv,h0,r⟩:=h
 exact ⟨g,cap,cur,fz,hv,Nat.le_trans hb h0,r⟩
theorem wpList_toBytsM {ops:Array Oper} {rest:List Oper} {o:Oper} {a:Act} {Q:Exit→Act→World→Prop} {w:World} {l:List UInt8} (x:Operand) (hgd:o.guard=none) (ho:o.op=.convert 9 30 x) (hx:a.eval x=str l) (hl:l.length≤1000000000)
  (h:∀A c n w',n=l.length→OwnM w w' (.slice A n c) l→Gr w w'→wpList Tryz.prog ops Q rest (a.put o.dst (.slice A n c)) w'):wpList Tryz.prog ops Q (o::rest) a w:=by
 have hr:=run_bytes_of_string (P:=Tryz.prog) w 9 30 5 ⟨l.toArray⟩ Tryz.underlying9 Tryz.underlying30 Tryz.underlying5
 have hg:=grownCap_ge w l.length 0 5
 have hg2:=grownCap_le_maxLen w l.length 0 5 (by unfold maxLen;omega)
 have hsz:(bytesRow ⟨l.toArray⟩ (grownCap w l.length 0 5)).size=grownCap w l.length 0 5:=by
  simp [bytesRow];show l.length+(grownCap w l.length 0 5-l.length)=_;omega
 refine wpList_run hgd (v:=.slice (some ⟨w.heap.size,0,none⟩) l.length (grownCap w l.length 0 5)) ?_ (h _ _ _ _ rfl ⟨w.heap.size,_,bytesRow ⟨l.toArray⟩ (grownCap w l.length 0 5),((bytesRow ⟨l.toArray⟩ (grownCap w l.length 0 5)).size,(bytesRow ⟨l.toArray⟩ (grownCap w l.length 0 5)).size+1),rfl,Nat.le_refl _,heap_alloc_new w.drew _,.inr (Nat.le_refl _),hg,hg2,hsz,?_⟩ (Gr.al (Gr.dr (Gr.refl w)) _))
 ·unfold execOp
  simp only [ho,hx,Sem.run_bind]
  rw [hr]
  rfl
 ·unfold bytesRow
  rw [Array.toList_append,List.take_append_of_le_length (by simp)]
  simp
  exact List.take_of_length_le (by simp)
end Go.Proofs.YtflepnkpihfidaaGreatDoor
namespace Go.Proofs.YtflepnkpihfidaaGreatDoor
open Lib (hid)
open Go.RowKit
set_option maxHeartbeats 2000000 in
set_option maxRecDepth 100000 in
theorem put_w (u:Value) (xs:List Fld) (w:World) (hu:Flds w u xs) (hs:Short2 xs) (_h1:xs.length≤140) (_h2:bulk2 xs≤12400) :
  Calls Tryz.prog 128 #[u] w fun e w'=>e=.returned (.tuple #[str (put xs).1,.int .i64 (put xs).2])∧Gr w w':=by
 obtain ⟨A,c,rfl,hc,hx,hA⟩:=hu.open
 have HA:=hid hA;have HS:=hid hs;clear hA hu hs
 go_enter Tryz.func128,Tryz.ntmps128
 go_wp2_with fail
 go_loopw [2,3,4,6,12] (fun x2 x3 sm x6 i wr=>∃(k:Nat),k≤xs.length∧i=.int .i64 k∧Gr w wr∧sm=.int .i64 ((lines (xs.take k)).length+2)∧(xs.take k).all right=true) (fun _ _ _ _ i _=>xs.length-(intOf i).toNat)
 case atStart=>exact ⟨0,Nat.zero_le _,rfl,Gr.refl _,rfl,rfl⟩
 case round=>
  obtain ⟨k,hk,rfl,hG,rfl,hE⟩:=hrel
  have HE:=hid hE;clear hE
  have hln:(lines (xs.take k)).length≤20000:=by have:=lines_take_len xs k (by omega);omega
  by_cases hlt:k < xs.length
  ·obtain ⟨b1,o1,rfl,hb1,hc1,hc1'⟩:=HA.out k hlt
   obtain ⟨hB1,hB2⟩:=HS.out.at k hlt
   have hc2:=Gr.cell hG hc1
   have hc2':=Gr.cell hG hc1'
   have hls:=hid (congrArg List.length (lines_succ xs k hlt))
   clear HA HS
   go_upto_region 5 with fail
   obtain ⟨hGb,cf0,cf1⟩:=box2 wr (str xs[k].1) (str xs[k].2) 127
   have hG:=Gr.tr hG hGb
   generalize wr.alloc (Obj.cells #[str xs[k].1,str xs[k].2] 127)=wb at *
   clear hGb hc2 hc2'
   cases hr:right (xs[k].1,xs[k].2) with
   | false=>
     have hp:=hid (put_bad xs k hlt hr)
     go_wp2_with (go_at_call 185;refine (right_any _ _ _ (by omega) (by omega)).mono ?_;rintro e w1 ⟨rfl,hG1⟩)
     go_ret2
     exact ⟨by rw [hp.out];rfl,Gr.tr hG hG1⟩
   | true=>
     go_wp2_with (go_at_call 185;refine (right_any _ _ _ (by omega) (by omega)).mono ?_;rintro e w1 ⟨rfl,hG1⟩;have cf0:=Gr.cell hG1 cf0;have cf1:=Gr.cell hG1 cf1)
     exact ⟨⟨k+1,by omega,by go_num,Gr.tr hG hG1,by rw [hls.out];simp only [List.length_append,List.length_cons,List.length_nil];go_num,all_take_succ right xs k hlt HE.out hr⟩,by simp [intOf];omega⟩
  ·have hp:=put_all xs k hlt HE.out
   have htk:xs.take k=xs:=List.take_of_length_le (by omega)
   rw [htk] at hln ⊢
   have hbl:=block_len xs
   by_cases hc1:100 < xs.length
   ·rw [if_pos (.inl hc1)] at hp
    have hp:=hid hp
    have hd:decide (100 < (xs.length:Int))=true:=decide_eq_true (by omega)
    clear hbl htk
    go_wp2_with fail
    go_ret2
    exact ⟨by rw [hp.out];rfl,hG⟩
   ·have hd:decide (100 < (xs.length:Int))=false:=decide_eq_false (by omega)
    rw [if_neg (by omega)] at hp
    have hp:=hid hp
    have hd2:decide (65536 < ((lines xs).length:Int)+2)=false:=decide_eq_false (by omega)
    clear hbl htk
    obtain ⟨wo,hwo⟩:∃wo:World,wo=wr:=⟨_,rfl⟩
    subst hwo
    go_upto_region 12 with fail
    have hB0:=hid (bld_new w wo hG)
    generalize hwb:wo.alloc (.cells #[.pointer none,.slice none 0 0] 171)=wb at *
    clear hwb
    have hbg:w.heap.size≤wo.heap.size:=hG.size
    generalize wo.heap.size=bb at *
    clear hG HE
    go_wp2_with fail
    go_loopw [9,40] (fun x9 i wr=>∃(k:Nat),k≤xs.length∧i=.int .i64 k∧Bld w wr bb (lines (xs.take k))) (fun _ i _=>xs.length-(intOf i).toNat)
    case atStart=>exact ⟨0,Nat.zero_le _,rfl,hB0.out⟩
    case round=>
     clear hB0 hln hk hlt
     obtain ⟨k,hk,rfl,hB⟩:=hrel
     have HB:=hid hB;clear hB
     have hG:=HB.out.2.1
     have hln:(lines (xs.take k)).length≤20000:=by have:=lines_take_len xs k (by omega);omega
     by_cases hlt:k < xs.length
     ·obtain ⟨b1,o1,rfl,hb1,hc1,hc1'⟩:=HA.out k hlt
      have hq:xs[k].1.length+xs[k].2.length≤12400:=by have h1:=bulk2_succ xs k hlt;have h2:=bulk2_take_le xs (k+1);omega
      have hc2:=Gr.cell hG hc1
      have hc2':=Gr.cell hG hc1'
      have hls:=hid (lines_succ xs k hlt)
      have hgb:bb≠wr.heap.size:=by
       obtain ⟨_,_,_,_,_,hb,_⟩:=HB.out
       have:=hb.lt;omega
      clear HA HS
      go_upto_region 15 with fail
      have hbf:=Bk.new wr 127 #[str xs[k].1,str xs[k].2] (0,0)
      have HB:=hid (HB.out.gr (Gr.al (Gr.refl wr) (.cells #[str xs[k].1,str xs[k].2] 127)))
      generalize wr.alloc (Obj.cells #[str xs[k].1,str xs[k].2] 127)=wf at *
      clear hc2 hc2' hG
      generalize wr.heap.size=gf at *
      have cf0:wf.cell? ⟨gf,0,none⟩=some (str xs[k].1):=hbf.cell 0
      go_wp2_with fail
      refine (writeString_any w _ bb _ _ HB.out (by omega)).mono ?_
      rintro e w1 ⟨rfl,hB1',hO1⟩
      go_wp2_with fail
      refine (writeString_any w _ bb _ [58,32] hB1' (by simp;omega)).mono ?_
      rintro e w2 ⟨rfl,hB2',hO2⟩
      have hbf2:=(hO1.tr hO2) gf _ _ _ (Ne.symm hgb) fldNe hbf
      have cf1:w2.cell? ⟨gf,1,none⟩=some (str xs[k].2):=hbf2.cell 1
      have HB2:=hid hB2'
      clear hB1' hB2' hO1 hO2 hbf hbf2 cf0
      go_wp2_with fail
      refine (writeString_any w _ bb _ _ HB2.out (by simp;omega)).mono ?_
      rintro e w3 ⟨rfl,hB3,_⟩
      have HB3:=hid hB3;clear hB3
      go_wp2_with fail
      refine (writeString_any w _ bb _ [13,10] HB3.out (by simp;omega)).mono ?_
      rintro e w4 ⟨rfl,hB4,_⟩
      have HB4:=hid hB4;clear hB4
      go_wp2_with fail
      exact ⟨⟨k+1,by omega,by go_num,by rw [hls.out];exact HB4.out⟩,by simp [intOf];omega⟩
     ·rw [show xs.take k=xs from List.take_of_length_le (by omega)] at HB
      go_wp2_with fail
      refine (writeString_any w _ bb _ [13,10] HB.out (by rw [show xs.take k=xs from List.take_of_length_le (by omega)] at hln;simp;omega)).mono ?_
      rintro e w1 ⟨rfl,hB1,_⟩
      have HB1:=hid hB1;clear hB1
      go_wp2_with fail
      refine (string_any w _ bb _ HB1.out).mono ?_
      rintro e w2 ⟨rfl,hG2⟩
      go_wp2_with fail
      go_ret2
      exact ⟨by rw [hp.out];rfl,hG2⟩
def PutM (w:World) (r:List UInt8×Nat) (e:Ending) (w':World):Prop:=∃A c,e=.returned (.tuple #[.slice A r.1.length c,.int .i64 r.2])∧Gr w w'∧((r.2=0∧OwnM w w' (.slice A r.1.length c) r.1)∨(r.2≠0∧r.1=[]∧A=none∧c=0))
theorem PutM.byts {w w':World} {r:List UInt8×Nat} {e:Ending} (h:PutM w r e w'):PutEnd w r e w':=by
 obtain ⟨A,c,he,hg,h⟩:=h
 refine ⟨A,c,he,?_,hg,?_⟩
 ·rcases h with h | ⟨_,h,rfl,rfl⟩
  ·exact h.2.byts
  ·rw [h];exact Byts.nil _
 ·rcases h with h | ⟨_,h,rfl,rfl⟩
  ·exact h.2.fresh
  ·rw [h];exact fresh_nil _
set_option maxHeartbeats 4000000 in
theorem put12_w (T:HeadT) (A:Option Addr) (c:Nat) (w:World) (hp:Pw w) (hu:Flds w (.slice A T.2.2.2.length c) T.2.2.2) (hs:Short2 T.2.2.2) (h1:T.1.length≤600) (h2:T.2.1.length≤600) (h3:T.2.2.2.length≤140) (h4:bulk2 T.2.2.2≤12400) :
  Calls Tryz.prog 64 #[.agg #[str T.1,str T.2.1,.int .i64 T.2.2.1,.slice A T.2.2.2.length c]] w (PutM w (putH T)):=by
 obtain ⟨m,o,st,fs⟩:=T
 simp only at hu hs h1 h2 h3 h4 ⊢
 have hG1:=Gr.al (Gr.refl w) (Obj.cells #[str m,str o,.int .i64 st,.slice A fs.length c] 123)
 have hb1:=hid (Bk.new w 123 #[str m,str o,.int .i64 st,.slice A fs.length c] (0,0))
 have HP:=hid hp;have HU:=hid hu
 have HT:=hid (fun (w:World)=>tells_any m o st A fs.length c w)
 have HA:=hid (fun (w:World)=>asks_any m o st A fs.length c w (by omega))
 have HF:=hid (fun (w:World) (h:Flds w (.slice A fs.length c) fs)=>put_w (.slice A fs.length c) fs w h hs h3 h4)
 have hpl:=put_len fs
 clear hu hs hp
 go_enter Tryz.func64,Tryz.ntmps64
 go_upto_region 1 with fail
 generalize w.alloc (Obj.cells #[str m,str o,.int .i64 st,.slice A fs.length c] 123)=w1 at *
 generalize w.heap.size=g at *
 obtain ⟨q0,q1,q2,q3⟩:=hb1.out.cells4
 cases ht:tellsB m o st with
 | true=>
   have hta:=tells_of ht
   obtain ⟨rfl,rfl,hs1,hs2⟩:=hta
   rw [ht] at HT
   have hil:(Lib.itoa st).length=3:=by rw [itoa3 st (by omega) (by omega)];rfl
   have hil':(Lib.itoa st).length≤10:=by omega
   have hrl:=reason_len st
   clear hil
   have HLN:=hid (show lineP ([],[],st,fs)=httpB++[32]++Lib.itoa st++[32]++reason st from lineP_tells ht)
   have HFL:=hid (show (tellsB [] [] st||asksB [] [] st)=true from by rw [ht];rfl)
   clear ht
   go_upto_region 3 with (go_at_call 124;refine (HT.out _).mono ?_;rintro e w2 ⟨rfl,hG2⟩)
   have q2':=fun i=>Gr.cell (gw_gr w2 i) (Gr.cell hG2 q2)
   have HP2:=hid (HP.out.gr (Gr.tr hG1 hG2))
   have i0:-9223372036854775808≤st:=by omega
   have i1:st≤9223372036854775807:=by omega
   refine wp_region_gw (by kernel_rfl) (by kernel_rfl) ?_
   repeat (first | go_big_quiet_step ((first | (go_at_call 125;exact gw_call (itoa_any _ _ (HP2.out.gr (gw_gr _ _)) i0 i1)) | (go_at_call 126;exact gw_call (reason_any _ _)))) | quiet_step ((first | (go_at_call 125;exact gw_call (itoa_any _ _ (HP2.out.gr (gw_gr _ _)) i0 i1)) | (go_at_call 126;exact gw_call (reason_any _ _)))))
   refine wpQuiet_nil ?_;intro wq hwq;obtain ⟨iq,rfl⟩:=hwq
   have hGW:=Gr.tr hG1 (Gr.tr hG2 (gw_gr w2 iq))
   have q3:=Gr.cell (gw_gr w2 iq) (Gr.cell hG2 q3)
   generalize gw w2 iq=w3 at *
   clear iq q2' q0 q1 q2
   have HGw3:=hGW
   rcases put_zero fs with hz | hz
   ·have HR:=hid (show putH ([],[],st,fs)=(lineP ([],[],st,fs)++[13,10]++(put fs).1,0) from putH_good HFL.out hz)
    rw [hz] at HF
    clear hz
    generalize (put fs).1=blk at *
    go_wp2_with (first
     | (go_at_call 128;refine (HF.out _ (HU.out.gr hGW)).mono ?_;rintro e w7 ⟨rfl,hG7⟩)
     | (refine wpList_toBytsM _ rfl rfl rfl ?_ ?_;(simp only [List.length_append,List.length_cons,List.length_nil];omega);intro A8 c8 n8 w8 hn8 hb8 hG8;subst hn8;have HB8:=hid hb8;clear hb8))
    go_ret2
    rw [HR.out,HLN.out]
    refine ⟨A8,c8,?_,Gr.tr hGW (Gr.tr hG7 hG8),.inl ⟨rfl,?_⟩⟩
    ·simp [httpB]
    ·simpa [httpB] using HB8.out.base (Gr.tr hGW hG7).size
   ·have HR:=hid (show putH ([],[],st,fs)=([],(put fs).2) from putH_bad HFL.out hz)
    have hne:(((put fs).2:Int) != 0)=true:=by simp;exact hz
    have HNZ:=hid hz
    generalize put fs=p at *
    go_wp2_with (go_at_call 128;refine (HF.out _ (HU.out.gr hGW)).mono ?_;rintro e w7 ⟨rfl,hG7⟩)
    go_ret2
    rw [HR.out]
    exact ⟨none,0,rfl,Gr.tr hGW hG7,.inr ⟨HNZ.out,rfl,rfl,rfl⟩⟩
 | false=>
   rw [ht] at HT
   cases ha:asksB m o st with
   | false=>
     have HR:=hid (show putH (m,o,st,fs)=([],1) from putH_none ht ha)
     rw [ha] at HA
     clear ha ht
     go_wp2_with (first
      | (go_at_call 124;refine (HT.out _).mono ?_;rintro e w2 ⟨rfl,hG2⟩;have q0:=Gr.cell hG2 q0;have q1:=Gr.cell hG2 q1;have q2:=Gr.cell hG2 q2;have q3:=Gr.cell hG2 q3)
      | (go_at_call 127;refine (HA.out _).mono ?_;rintro e w3 ⟨rfl,hG3⟩))
     go_ret2
     rw [HR.out]
     exact ⟨none,0,rfl,Gr.tr hG1 (Gr.tr hG2 hG3),.inr ⟨by decide,rfl,rfl,rfl⟩⟩
   | true=>
     have HLN:=hid (show lineP (m,o,st,fs)=m++[32]++o++[32]++httpB from lineP_asks ht)
     have HFL:=hid (show (tellsB m o st||asksB m o st)=true from by rw [ht,ha];rfl)
     rw [ha] at HA
     clear ha ht
     go_upto_region 6 with (first
      | (go_at_call 124;refine (HT.out _).mono ?_;rintro e w2 ⟨rfl,hG2⟩;have q0:=Gr.cell hG2 q0;have q1:=Gr.cell hG2 q1;have q2:=Gr.cell hG2 q2;have q3:=Gr.cell hG2 q3)
      | (go_at_call 127;refine (HA.out _).mono ?_;rintro e w3 ⟨rfl,hG3⟩;have q3:=Gr.cell hG3 q3))
     have hGW:=Gr.tr hG1 (Gr.tr hG2 hG3)
     have HGw3:=hGW
     rcases put_zero fs with hz | hz
     ·have HR:=hid (show putH (m,o,st,fs)=(lineP (m,o,st,fs)++[13,10]++(put fs).1,0) from putH_good HFL.out hz)
      rw [hz] at HF
      clear hz
      generalize (put fs).1=blk at *
      go_wp2_with (first
       | (go_at_call 128;refine (HF.out _ (HU.out.gr hGW)).mono ?_;rintro e w7 ⟨rfl,hG7⟩)
       | (refine wpList_toBytsM _ rfl rfl rfl ?_ ?_;(simp only [List.length_append,List.length_cons,List.length_nil];omega);intro A8 c8 n8 w8 hn8 hb8 hG8;subst hn8;have HB8:=hid hb8;clear hb8))
      go_ret2
      rw [HR.out,HLN.out]
      refine ⟨A8,c8,?_,Gr.tr hGW (Gr.tr hG7 hG8),.inl ⟨rfl,?_⟩⟩
      ·simp [httpB]
      ·simpa [httpB] using HB8.out.base (Gr.tr hGW hG7).size
     ·have HR:=hid (show putH (m,o,st,fs)=([],(put fs).2) from putH_bad HFL.out hz)
      have hne:(((put fs).2:Int) != 0)=true:=by simp;exact hz
      have HNZ:=hid hz
      generalize put fs=p at *
      go_wp2_with (go_at_call 128;refine (HF.out _ (HU.out.gr hGW)).mono ?_;rintro e w7 ⟨rfl,hG7⟩)
      go_ret2
      rw [HR.out]
      exact ⟨none,0,rfl,Gr.tr hGW hG7,.inr ⟨HNZ.out,rfl,rfl,rfl⟩⟩
end Go.Proofs.YtflepnkpihfidaaGreatDoor
namespace Go.Proofs.YtflepnkpihfidaaGreatDoor
open Lib (hid)
open Go.RowKit
end Go.Proofs.YtflepnkpihfidaaGreatDoor
namespace Go.Proofs.YtflepnkpihfidaaGreatDoor
open Lib (hid)
open Go.RowKit
end Go.Proofs.YtflepnkpihfidaaGreatDoor
namespace Go.Proofs.YtflepnkpihfidaaGreatDoor
open Lib (hid)
open Go.RowKit
end Go.Proofs.YtflepnkpihfidaaGreatDoor
