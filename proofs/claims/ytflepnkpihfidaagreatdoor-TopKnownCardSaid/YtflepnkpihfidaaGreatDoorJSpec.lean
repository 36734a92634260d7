/- Parts. No conditions but those that each theorem names. -/
import Derived.Test.YtflepnkpihfidaaGreatDoorJNum
import Derived.Test.YtflepnkpihfidaaGreatDoorJDate
import Derived.Test.YtflepnkpihfidaaGreatDoorJHead2
import Derived.Test.YtflepnkpihfidaaGreatDoorDig
import Derived.Test.YtflepnkpihfidaaGreatDoorJReq
import Derived.Test.YtflepnkpihfidaaGreatDoorJPut
import Derived.Test.YtflepnkpihfidaaGreatDoorJBytes
import Derived.Test.YtflepnkpihfidaaGreatDoorJField2
import Derived.Test.YtflepnkpihfidaaGreatDoorTab
set_option linter.unusedVariables false
set_option linter.unusedSimpArgs false
namespace Go.Proofs.YtflepnkpihfidaaGreatDoor
open Lib (hid)
open Go.RowKit
theorem word_bits:∀x:Fin 256,∀m∈[98,121,116,101,115],((bits BinOp.or IntKind.u8 ((x.val:Nat):Int) 32 != ((m:Nat):Int))=!((lowN (UInt8.ofNat x.val)).toNat==m))∧((lowN (UInt8.ofNat x.val)).toNat=m→decide (((x.val:Nat):Int) < 65)=false):=by decide +kernel
theorem word_yes {a:UInt8} (m:UInt8) (hm:m.toNat∈[98,121,116,101,115]) (h:lowN a=m):(bits BinOp.or IntKind.u8 (a.toNat:Int) 32 != (m.toNat:Int))=false∧decide ((a.toNat:Int) < 65)=false:=by
 have:=word_bits ⟨a.toNat,a.toNat_lt⟩ m.toNat hm
 simp only [UInt8.ofNat_toNat,h] at this
 exact ⟨by rw [this.1];simp,this.2 trivial⟩
theorem word_no {a:UInt8} (m:UInt8) (hm:m.toNat∈[98,121,116,101,115]) (h:lowN a≠m):(bits BinOp.or IntKind.u8 (a.toNat:Int) 32 != (m.toNat:Int))=true:=by
 have:=word_bits ⟨a.toNat,a.toNat_lt⟩ m.toNat hm
 simp only [UInt8.ofNat_toNat] at this
 rw [this.1]
 have:(lowN a).toNat≠m.toNat:=fun e=>h (UInt8.toNat_inj.1 e)
 simpa using this
set_option maxHeartbeats 1000000 in
theorem word_any (a b c d e:UInt8) (w:World):Calls Tryz.prog 136 #[str [a,b,c,d,e]] w fun e' w'=>e'=.returned (.bool (low [a,b,c,d,e]==[98,121,116,101,115]))∧Gr w w':=by
 go_enter Tryz.func136,Tryz.ntmps136
 go_upto_region 2 with fail
 go_loopw [3,4] (fun x i wr=>∃k:Nat,k≤5∧i=.int .i64 k∧Gr w wr∧(low [a,b,c,d,e]).take k=List.take k [98,121,116,101,115]) (fun _ i _=>5-(intOf i).toNat)
 case atStart=>exact ⟨0,Nat.zero_le _,rfl,Gr.refl _,rfl⟩
 case round=>
  obtain ⟨k,hk,rfl,hG,hE⟩:=hrel
  obtain rfl | rfl | rfl | rfl | rfl | rfl:k=0∨k=1∨k=2∨k=3∨k=4∨k=5:=by omega
  ·by_cases h:lowN a=98
   ·obtain ⟨h1,h2⟩:=word_yes 98 (by decide) h
    have h1:(bits BinOp.or IntKind.u8 (a.toNat:Int) 32 != 98)=false:=h1
    have HN:=hid (show (low [a,b,c,d,e]).take 1=List.take 1 [98,121,116,101,115] from by
     simp only [low,List.map_cons,List.map_nil,List.take_succ_cons,List.take_zero,List.cons.injEq,and_true] at hE ⊢
     simp only [h,hE,and_self])
    clear hE h
    go_upto_region 4 with fail
    refine wp_region_gw (by kernel_rfl) (by kernel_rfl) ?_
    repeat (first | go_big_quiet_step (fail) | quiet_step (fail))
    refine wpQuiet_nil ?_;intro wq hwq;obtain ⟨iq,rfl⟩:=hwq
    go_wp2_with fail
    exact ⟨⟨1,by omega,rfl,Gr.tr hG (gw_gr _ _),HN.out⟩,by simp [intOf]⟩
   ·have h1:(bits BinOp.or IntKind.u8 (a.toNat:Int) 32 != 98)=true:=word_no 98 (by decide) h
    have HN:=hid (show (low [a,b,c,d,e]==[98,121,116,101,115])=false from by
     simp only [beq_eq_false_iff_ne,ne_eq,low,List.map_cons,List.map_nil,List.cons.injEq]
     intro hh;exact h (by simp only [hh]))
    clear hE h
    go_upto_region 4 with fail
    refine wp_region_gw (by kernel_rfl) (by kernel_rfl) ?_
    repeat (first | go_big_quiet_step (fail) | quiet_step (fail))
    refine wpQuiet_nil ?_;intro wq hwq;obtain ⟨iq,rfl⟩:=hwq
    go_wp2_with fail
    go_ret
    exact ⟨ret_bool HN.out.symm,Gr.tr hG (gw_gr _ _)⟩
  ·by_cases h:lowN b=121
   ·obtain ⟨h1,h2⟩:=word_yes 121 (by decide) h
    have h1:(bits BinOp.or IntKind.u8 (b.toNat:Int) 32 != 121)=false:=h1
    have HN:=hid (show (low [a,b,c,d,e]).take 2=List.take 2 [98,121,116,101,115] from by
     simp only [low,List.map_cons,List.map_nil,List.take_succ_cons,List.take_zero,List.cons.injEq,and_true] at hE ⊢
     simp only [h,hE,and_self])
    clear hE h
    go_upto_region 4 with fail
    refine wp_region_gw (by kernel_rfl) (by kernel_rfl) ?_
    repeat (first | go_big_quiet_step (fail) | quiet_step (fail))
    refine wpQuiet_nil ?_;intro wq hwq;obtain ⟨iq,rfl⟩:=hwq
    go_wp2_with fail
    exact ⟨⟨2,by omega,rfl,Gr.tr hG (gw_gr _ _),HN.out⟩,by simp [intOf]⟩
   ·have h1:(bits BinOp.or IntKind.u8 (b.toNat:Int) 32 != 121)=true:=word_no 121 (by decide) h
    have HN:=hid (show (low [a,b,c,d,e]==[98,121,116,101,115])=false from by
     simp only [beq_eq_false_iff_ne,ne_eq,low,List.map_cons,List.map_nil,List.cons.injEq]
     intro hh;exact h (by simp only [hh]))
    clear hE h
    go_upto_region 4 with fail
    refine wp_region_gw (by kernel_rfl) (by kernel_rfl) ?_
    repeat (first | go_big_quiet_step (fail) | quiet_step (fail))
    refine wpQuiet_nil ?_;intro wq hwq;obtain ⟨iq,rfl⟩:=hwq
    go_wp2_with fail
    go_ret
    exact ⟨ret_bool HN.out.symm,Gr.tr hG (gw_gr _ _)⟩
  ·by_cases h:lowN c=116
   ·obtain ⟨h1,h2⟩:=word_yes 116 (by decide) h
    have h1:(bits BinOp.or IntKind.u8 (c.toNat:Int) 32 != 116)=false:=h1
    have HN:=hid (show (low [a,b,c,d,e]).take 3=List.take 3 [98,121,116,101,115] from by
     simp only [low,List.map_cons,List.map_nil,List.take_succ_cons,List.take_zero,List.cons.injEq,and_true] at hE ⊢
     simp only [h,hE,and_self])
    clear hE h
    go_upto_region 4 with fail
    refine wp_region_gw (by kernel_rfl) (by kernel_rfl) ?_
    repeat (first | go_big_quiet_step (fail) | quiet_step (fail))
    refine wpQuiet_nil ?_;intro wq hwq;obtain ⟨iq,rfl⟩:=hwq
    go_wp2_with fail
    exact ⟨⟨3,by omega,rfl,Gr.tr hG (gw_gr _ _),HN.out⟩,by simp [intOf]⟩
   ·have h1:(bits BinOp.or IntKind.u8 (c.toNat:Int) 32 != 116)=true:=word_no 116 (by decide) h
    have HN:=hid (show (low [a,b,c,d,e]==[98,121,116,101,115])=false from by
     simp only [beq_eq_false_iff_ne,ne_eq,low,List.map_cons,List.map_nil,List.cons.injEq]
     intro hh;exact h (by simp only [hh]))
    clear hE h
    go_upto_region 4 with fail
    refine wp_region_gw (by kernel_rfl) (by kernel_rfl) ?_
    repeat (first | go_big_quiet_step (fail) | quiet_step (fail))
    refine wpQuiet_nil ?_;intro wq hwq;obtain ⟨iq,rfl⟩:=hwq
    go_wp2_with fail
    go_ret
    exact ⟨ret_bool HN.out.symm,Gr.tr hG (gw_gr _ _)⟩
  ·by_cases h:lowN d=101
   ·obtain ⟨h1,h2⟩:=word_yes 101 (by decide) h
    have h1:(bits BinOp.or IntKind.u8 (d.toNat:Int) 32 != 101)=false:=h1
    have HN:=hid (show (low [a,b,c,d,e]).take 4=List.take 4 [98,121,116,101,115] from by
     simp only [low,List.map_cons,List.map_nil,List.take_succ_cons,List.take_zero,List.cons.injEq,and_true] at hE ⊢
     simp only [h,hE,and_self])
    clear hE h
    go_upto_region 4 with fail
    refine wp_region_gw (by kernel_rfl) (by kernel_rfl) ?_
    repeat (first | go_big_quiet_step (fail) | quiet_step (fail))
    refine wpQuiet_nil ?_;intro wq hwq;obtain ⟨iq,rfl⟩:=hwq
    go_wp2_with fail
    exact ⟨⟨4,by omega,rfl,Gr.tr hG (gw_gr _ _),HN.out⟩,by simp [intOf]⟩
   ·have h1:(bits BinOp.or IntKind.u8 (d.toNat:Int) 32 != 101)=true:=word_no 101 (by decide) h
    have HN:=hid (show (low [a,b,c,d,e]==[98,121,116,101,115])=false from by
     simp only [beq_eq_false_iff_ne,ne_eq,low,List.map_cons,List.map_nil,List.cons.injEq]
     intro hh;exact h (by simp only [hh]))
    clear hE h
    go_upto_region 4 with fail
    refine wp_region_gw (by kernel_rfl) (by kernel_rfl) ?_
    repeat (first | go_big_quiet_step (fail) | quiet_step (fail))
    refine wpQuiet_nil ?_;intro wq hwq;obtain ⟨iq,rfl⟩:=hwq
    go_wp2_with fail
    go_ret
    exact ⟨ret_bool HN.out.symm,Gr.tr hG (gw_gr _ _)⟩
  ·by_cases h:lowN e=115
   ·obtain ⟨h1,h2⟩:=word_yes 115 (by decide) h
    have h1:(bits BinOp.or IntKind.u8 (e.toNat:Int) 32 != 115)=false:=h1
    have HN:=hid (show (low [a,b,c,d,e]).take 5=List.take 5 [98,121,116,101,115] from by
     simp only [low,List.map_cons,List.map_nil,List.take_succ_cons,List.take_zero,List.cons.injEq,and_true] at hE ⊢
     simp only [h,hE,and_self])
    clear hE h
    go_upto_region 4 with fail
    refine wp_region_gw (by kernel_rfl) (by kernel_rfl) ?_
    repeat (first | go_big_quiet_step (fail) | quiet_step (fail))
    refine wpQuiet_nil ?_;intro wq hwq;obtain ⟨iq,rfl⟩:=hwq
    go_wp2_with fail
    exact ⟨⟨5,by omega,rfl,Gr.tr hG (gw_gr _ _),HN.out⟩,by simp [intOf]⟩
   ·have h1:(bits BinOp.or IntKind.u8 (e.toNat:Int) 32 != 115)=true:=word_no 115 (by decide) h
    have HN:=hid (show (low [a,b,c,d,e]==[98,121,116,101,115])=false from by
     simp only [beq_eq_false_iff_ne,ne_eq,low,List.map_cons,List.map_nil,List.cons.injEq]
     intro hh;exact h (by simp only [hh]))
    clear hE h
    go_upto_region 4 with fail
    refine wp_region_gw (by kernel_rfl) (by kernel_rfl) ?_
    repeat (first | go_big_quiet_step (fail) | quiet_step (fail))
    refine wpQuiet_nil ?_;intro wq hwq;obtain ⟨iq,rfl⟩:=hwq
    go_wp2_with fail
    go_ret
    exact ⟨ret_bool HN.out.symm,Gr.tr hG (gw_gr _ _)⟩
  ·have HN:=hid (show (low [a,b,c,d,e]==[98,121,116,101,115])=true from by
    have:low [a,b,c,d,e]=[98,121,116,101,115]:=hE
    rw [this];rfl)
   clear hE
   go_wp2_with fail
   go_ret
   exact ⟨ret_bool HN.out.symm,hG⟩
def ItemEnd (r:Option SpecT) (w:World) (e:Ending) (w':World):Prop:=∃f t:Int,e=.returned (.tuple #[.agg #[.int .i64 f,.int .i64 t],.bool r.isSome])∧(∀p,r=some p→p=(f,t))∧Gr w w'
theorem itemL_none {s:List UInt8} (h:cutG 45 s=none):itemL s=none:=by unfold itemL;rw [h]
theorem itemL_of {s a b:List UInt8} (h:cutG 45 s=some (a,b)):itemL s=if a=[]∧b=[] then none else if (a≠[]∧numberL a=none)∨(b≠[]∧numberL b=none) then none else if specB (numM a,numM b) then some (numM a,numM b) else none:=by unfold itemL;rw [h]
theorem itemL_val {s a b:List UInt8} (h:cutG 45 s=some (a,b)) (p:SpecT) (hp:itemL s=some p):p=(numM a,numM b):=by
 rw [itemL_of h] at hp
 repeat (first | (split at hp) | (cases hp;rfl) | cases hp)
end Go.Proofs.YtflepnkpihfidaaGreatDoor
namespace Go.Proofs.YtflepnkpihfidaaGreatDoor
open Lib (hid)
open Go.RowKit
theorem byteCells_map (l:List UInt8):Lib.byteCells l=l.map byt:=rfl
set_option maxHeartbeats 1000000 in
set_option maxRecDepth 100000 in
theorem writeByte_any (W0 w:World) (b:Nat) (l:List UInt8) (x:UInt8) (h:Bld W0 w b l) (_hl:l.length≤1000000) :
  Calls Tryz.prog 101 #[.pointer (some ⟨b,0,none⟩),.int .u8 x.toNat] w fun e w'=>e=.returned .nilIface∧Bld W0 w' b (l++[x])∧Oth b w w':=by
 have HC:=hid (copyCheck_any W0 w b l h);clear h
 go_enter Tryz.func101,Tryz.ntmps101
 go_upto_region 2 with (go_at_call 168;refine HC.out.mono ?_;rintro e w1 ⟨rfl,hB1,hO1⟩)
 obtain ⟨h1,h2,v,hb,ho⟩:=hB1
 have c1:w1.cell? ⟨b,1,none⟩=some v:=hb.cell 1
 have hbl:=hb.lt
 have HB:=hid hb;have HO:=hid ho;have H2:=hid h2;have HO1:=hid hO1
 clear hb ho h2 hO1 HC
 obtain ⟨A,c,rfl⟩:=HO.out.form
 go_wp2_with (at_builtin;refine wpList_app1x (W0:=W0) (W:=w1) (n:=l.length) (xs:=Lib.byteCells l) (v:=.slice A l.length c) (news:=[byt x]) elemByte rfl _ _ rfl rfl rfl H2.out.size HO.out rfl (one_byt [x]) (by omega) (by omega) ?_)
 intro v' w' hown happ
 have hgr:=happ.grown
 have hown':Own W0 w' 5 1 v' (l++[x]).length (Lib.byteCells (l++[x])):=by
  have e:Lib.byteCells (l++[x])=Lib.byteCells l++[byt x]:=by simp [byteCells_map]
  rw [e,List.length_append];exact hown
 obtain ⟨A',c',rfl⟩:=hown'.form
 have hne:=own_ne_b HO.out HB.out
 have hb':Bk w' b 171 #[.pointer (some ⟨b,0,none⟩),.slice A l.length c] (0,0):=(hgr.block b HB.out.lt (Ne.symm hne)).trans HB.out
 have d1:w'.cell? ⟨b,1,none⟩=some (.slice A l.length c):=hb'.cell 1
 have f1:=hb'.free 1 (.inr (by simp))
 have hG':Gr W0 w':=gr_append H2.out HO.out hgr
 have HE:Hid (Bld W0 (w'.setCell ⟨b,1,none⟩ (.slice A' (l++[x]).length c')) b (l++[x])∧Oth b w (w'.setCell ⟨b,1,none⟩ (.slice A' (l++[x]).length c'))):=by
  refine ⟨⟨h1,Gr.st hG' h1 _,_,_,.inr rfl,hb'.set 1 _,own_set hown' (own_ne_b hown' hb') 1 _⟩,HO1.out.tr (Oth.tr ?_ (oth_set w' 1 _))⟩
  intro k t cs fr hk ht hbk
  refine (hgr.block k hbk.lt (fun he=>?_)).trans hbk
  rcases HO.out.2 with ⟨hv,_⟩ | ⟨g,cap,cur,hv,_,hh,_⟩
  ·rw [hv] at he;simp [Value.ownBlock] at he
  ·rw [hv] at he
   have:k=g:=by simpa [Value.ownBlock] using he
   subst this
   unfold Bk at hbk
   rw [hh] at hbk
   injection hbk with hbk
   injection hbk with _ hbk _
   exact ht hbk.symm
 clear hown hown' hgr hb' hG' happ
 rw [List.length_append] at HE
 go_wp2_with fail
 go_ret
 exact ⟨rfl,HE.out⟩
end Go.Proofs.YtflepnkpihfidaaGreatDoor
namespace Go.Proofs.YtflepnkpihfidaaGreatDoor
open Lib (hid)
open Go.RowKit
def specCs (l:List SpecT):List Value:=l.flatMap fun s=>[.int .i64 s.1,.int .i64 s.2]
def Specs (w:World) (v:Value) (l:List SpecT):Prop:=Sl w v l.length (specCs l)
theorem Specs.gr {w w':World} {v:Value} {l} (h:Specs w v l) (g:Gr w w'):Specs w' v l:=Sl.gr h g
theorem specCs_app (a b:List SpecT):specCs (a++b)=specCs a++specCs b:=by simp [specCs]
theorem specCs_at (l:List SpecT) (k:Nat) (h:k < l.length):(specCs l)[k*2]?=some (.int .i64 l[k].1)∧(specCs l)[k*2+1]?=some (.int .i64 l[k].2):=by
 induction l generalizing k with
 | nil=>simp at h
 | cons f fs ih=>
   have hc:specCs (f::fs)=.int .i64 f.1::.int .i64 f.2::specCs fs:=rfl
   rw [hc]
   cases k with
   | zero=>simp
   | succ k=>
     have:=ih k (by simpa using h)
     rw [show (k+1)*2=k*2+1+1 from by omega]
     simpa using this
theorem Specs.open {w:World} {v:Value} {xs:List SpecT} (h:Specs w v xs):∃A c,v=.slice A xs.length c∧xs.length≤c∧xs.length≤9223372036854775807∧∀(k:Nat) (hk:k < xs.length),∃b o,A=some ⟨b,o,none⟩∧b < w.heap.size∧w.cell? ⟨b,o+k*2,none⟩=some (.int .i64 xs[k].1)∧w.cell? ⟨b,o+k*2+1,none⟩=some (.int .i64 xs[k].2):=by
 obtain ⟨A,c,hv,hc,hm,ho⟩:=Sl.open h
 refine ⟨A,c,hv,hc,hm,fun k hk=>?_⟩
 obtain ⟨e1,e2⟩:=specCs_at xs k hk
 obtain ⟨b,o,hA,hb,hj⟩:=ho _ _ e1
 exact ⟨b,o,hA,hb,hj _ _ e1,by rw [Nat.add_assoc];exact hj _ _ e2⟩
theorem Specs.nil (w:World):Specs w (.slice none 0 0) []:=⟨none,0,rfl,Nat.le_refl _,by simp,.inl rfl⟩
theorem elemSpec:ElemOk Tryz.prog 22 96 (.agg #[.int .i64 0,.int .i64 0]) 2 16:=⟨Tryz.underlying22,by kernel_rfl,rfl,by omega⟩
theorem one_spec (a b:Int):∀u∈[Value.int .i64 a,.int .i64 b],u.oneCell'=true:=by
 intro u hu
 simp only [List.mem_cons,List.not_mem_nil,or_false] at hu
 rcases hu with rfl | rfl <;> rfl
theorem own_specs {W0 w:World} {v:Value} {l:List SpecT} (h:Own W0 w 96 2 v l.length (specCs l)):Specs w v l:=h.sl (by decide)
theorem item_right {s a b:List UInt8} (h:cutG 45 s=some (a,b)) (hn:¬(a=[]∧b=[])) (ha:a=[]∨numberL a≠none) (hb:b=[]∨numberL b≠none):(itemL s).isSome=specB (numM a,numM b):=by
 rw [itemL_of h,if_neg hn,if_neg (by rintro (⟨h1,h2⟩ | ⟨h1,h2⟩);rcases ha with h | h;exact h1 h;exact h h2;rcases hb with h | h;exact h1 h;exact h h2)]
 cases specB (numM a,numM b) <;> rfl
theorem item_wrong {s a b:List UInt8} (h:cutG 45 s=some (a,b)) (hn:(a≠[]∧numberL a=none)∨(b≠[]∧numberL b=none)):itemL s=none:=by
 rw [itemL_of h]
 by_cases h0:a=[]∧b=[]
 ·rw [if_pos h0]
 ·rw [if_neg h0,if_pos hn]
theorem cutG_le {d:UInt8} {l:List UInt8} {p:List UInt8×List UInt8} (h:cutG d l=some p):p.1.length≤l.length∧p.2.length≤l.length:=by have:=cutG_len h;omega
set_option maxHeartbeats 4000000 in
theorem specItem_any (s:List UInt8) (w:World) (hm:Ml w) (hs:s.length < 4294967281):Calls Tryz.prog 139 #[str s] w (ItemEnd (itemL s) w):=by
 obtain ⟨hG0,c0,c1⟩:=box2 w (.int .i64 0) (.int .i64 0) 96
 have hb0:=Bk.new w 96 #[.int .i64 0,.int .i64 0] (0,0)
 have HC:=hid (fun (x:World) (g:Gr w x)=>cutS_any s [45] x (hm.gr g) hs)
 rw [cutG_lib] at HC
 clear hm
 go_enter Tryz.func139,Tryz.ntmps139
 go_upto_region 1 with fail
 obtain ⟨g,hg⟩:∃g,g=w.heap.size:=⟨_,rfl⟩
 rw [←hg] at hb0 ⊢
 have HGG:=hid (show w.heap.size≤g from Nat.le_of_eq hg.symm)
 clear hg c0 c1
 generalize w.alloc (Obj.cells #[.int .i64 0,.int .i64 0] 96)=w0 at *
 have HB0:=hid hb0;clear hb0
 have HC:=hid (HC.out w0 hG0)
 have BAD:∀(x:World),Gr w0 x→itemL s=none→Hid (Bk x g 96 #[.int .i64 0,.int .i64 0] (0,0)∧Gr w x):=fun x hx _=>hid ⟨HB0.out.gr hx,Gr.tr hG0 hx⟩
 cases hc:cutG 45 s with
 | none=>
   rw [hc] at HC
   have HN:=hid (itemL_none hc)
   clear hc
   go_upto_region 3 with (go_at_call 130;refine HC.out.mono ?_;rintro e w1 ⟨rfl,hG1⟩)
   have HB1:=BAD w1 hG1 HN.out
   have z0:=HB1.out.1.cell 0
   have z1:=HB1.out.1.cell 1
   have f0:=HB1.out.1.free 0 (.inr (Nat.zero_le _))
   have f1:=HB1.out.1.free 1 (.inr (Nat.zero_le _))
   simp only [List.getElem?_toArray,List.getElem?_cons_zero,List.getElem?_cons_succ] at z0 z1
   go_wp2_with fail
   refine bodyPost_ret (v:=.tuple #[.agg #[.int .i64 0,.int .i64 0],.bool false]) (by simp [results,Tryz.results139,go_sem,z0,z1]) rfl ⟨0,0,by rw [HN.out];rfl,fun p hp=>(by rw [HN.out] at hp;cases hp),?_⟩
   exact Gr.st (Gr.st HB1.out.2 HGG.out _) HGG.out _
 | some p=>
   obtain ⟨a,b⟩:=p
   rw [hc] at HC
   have HL:=cutG_le hc
   simp only at HC HL
   have HCUT:=hid hc
   clear hc
   have HNA:=hid (fun (w:World)=>specNum_any a w)
   have HNB:=hid (fun (w:World)=>specNum_any b w)
   go_upto_region 2 with (go_at_call 130;refine HC.out.mono ?_;rintro e w1 ⟨rfl,hG1⟩)
   have HB1:=hid (HB0.out.gr hG1)
   have HG1:=hid (Gr.tr hG0 hG1)
   have hg1:g < w1.heap.size:=HB1.out.lt
   clear hG1 hG0 BAD HB0
   have hb7:=Bk.new w1 96 #[.int .i64 (-1),.int .i64 (-1)] (0,0)
   have HBG:=hid (HB1.out.al (.cells #[.int .i64 (-1),.int .i64 (-1)] 96))
   have HGX:=hid (Gr.al HG1.out (.cells #[.int .i64 (-1),.int .i64 (-1)] 96))
   cases a with
   | nil=>
     cases b with
     | nil=>
       have HN:=hid (show itemL s=none from by rw [itemL_of HCUT.out];rfl)
       have HBG:=HB1
       have HGX:=HG1
       clear hb7
       have z0:=HBG.out.cell 0
       have z1:=HBG.out.cell 1
       have f0:=HBG.out.free 0 (.inr (Nat.zero_le _))
       have f1:=HBG.out.free 1 (.inr (Nat.zero_le _))
       simp only [List.getElem?_toArray,List.getElem?_cons_zero,List.getElem?_cons_succ] at z0 z1
       go_wp2_with fail
       refine bodyPost_ret (v:=.tuple #[.agg #[.int .i64 0,.int .i64 0],.bool false]) (by simp [results,Tryz.results139,go_sem,z0,z1]) rfl ⟨0,0,by rw [HN.out];rfl,fun p hp=>(by rw [HN.out] at hp;cases hp),?_⟩
       exact Gr.st (Gr.st HGX.out HGG.out _) HGG.out _
     | cons b0 b'=>
       cases hn:numberL (b0::b') with
       | none=>
         rw [hn] at HNB
         unfold optN at HNB
         simp only [Option.getD_none,Option.isSome_none] at HNB
         have HN:=hid (item_wrong HCUT.out (.inr ⟨by simp,hn⟩))
         clear hn
         go_upto_region 5 with fail
         have HBG:=HBG
         generalize w1.alloc (Obj.cells #[.int .i64 (-1),.int .i64 (-1)] 96)=w2 at *
         have HG7:=hid (show w.heap.size≤w1.heap.size from HG1.out.size)
         clear HB1 HG1
         generalize w1.heap.size=g7 at *
         have hb7:Bk w2 g7 96 #[.int .i64 (-1),.int .i64 (-1)] (0,0):=hb7
         have p0:=hb7.cell 0
         have p1:=hb7.cell 1
         have q1:=hb7.free 1 (.inr (Nat.zero_le _))
         simp only [List.getElem?_toArray,List.getElem?_cons_zero,List.getElem?_cons_succ] at p0 p1
         go_upto_region 11 with (go_at_call 212;refine (HNB.out _).mono ?_;rintro e wn ⟨rfl,rfl⟩)
         have HBG:=hid (HBG.out.far (p:=⟨g7,1,none⟩) (Nat.ne_of_lt hg1) (.int .i64 0))
         have HGX:=hid (Gr.st HGX.out (p:=⟨g7,1,none⟩) HG7.out (.int .i64 0))
         have hb7:=hb7.set 1 (.int .i64 0)
         simp only [List.setIfInBounds_toArray,List.set_cons_zero,List.set_cons_succ] at hb7
         clear p0 p1 q1
         generalize w2.setCell ⟨g7,1,none⟩ (.int .i64 0)=w2 at *
         clear hb7
         have z0:=HBG.out.cell 0
         have z1:=HBG.out.cell 1
         have f0:=HBG.out.free 0 (.inr (Nat.zero_le _))
         have f1:=HBG.out.free 1 (.inr (Nat.zero_le _))
         simp only [List.getElem?_toArray,List.getElem?_cons_zero,List.getElem?_cons_succ] at z0 z1
         go_wp2_with fail
         refine bodyPost_ret (v:=.tuple #[.agg #[.int .i64 0,.int .i64 0],.bool false]) (by simp [results,Tryz.results139,go_sem,z0,z1]) rfl ⟨0,0,by rw [HN.out];rfl,fun p hp=>(by rw [HN.out] at hp;cases hp),?_⟩
         exact Gr.st (Gr.st HGX.out HGG.out _) HGG.out _
       | some n=>
         rw [hn] at HNB
         unfold optN at HNB
         simp only [Option.getD_some,Option.isSome_some] at HNB
         have HIS:=hid (item_right HCUT.out (by simp) (.inl rfl) (.inr (by rw [hn];simp)))
         have HIV:=hid (itemL_val HCUT.out)
         rw [numM_nil,numM_some hn] at HIS HIV
         clear hn
         go_upto_region 5 with fail
         have HBG:=HBG
         generalize w1.alloc (Obj.cells #[.int .i64 (-1),.int .i64 (-1)] 96)=w2 at *
         have HG7:=hid (show w.heap.size≤w1.heap.size from HG1.out.size)
         clear HB1 HG1
         generalize w1.heap.size=g7 at *
         have hb7:Bk w2 g7 96 #[.int .i64 (-1),.int .i64 (-1)] (0,0):=hb7
         have p0:=hb7.cell 0
         have p1:=hb7.cell 1
         have q1:=hb7.free 1 (.inr (Nat.zero_le _))
         simp only [List.getElem?_toArray,List.getElem?_cons_zero,List.getElem?_cons_succ] at p0 p1
         go_upto_region 11 with (go_at_call 212;refine (HNB.out _).mono ?_;rintro e wn ⟨rfl,rfl⟩)
         have HBG:=hid (HBG.out.far (p:=⟨g7,1,none⟩) (Nat.ne_of_lt hg1) (.int .i64 (n:Int)))
         have HGX:=hid (Gr.st HGX.out (p:=⟨g7,1,none⟩) HG7.out (.int .i64 (n:Int)))
         have hb7:=hb7.set 1 (.int .i64 (n:Int))
         simp only [List.setIfInBounds_toArray,List.set_cons_zero,List.set_cons_succ] at hb7
         clear p0 p1 q1
         generalize w2.setCell ⟨g7,1,none⟩ (.int .i64 (n:Int))=w2 at *
         go_upto_region 13 with fail
         have HB7:=hid hb7
         clear hb7
         have HR:=hid (fun (w:World)=>specRight_any (-1) (n:Int) w)
         have hne7:(some g7:Option Nat)≠some g:=by simp;omega
         have y0:∀i,(gx w2 (some g) i).cell? ⟨g7,0,none⟩=some (.int .i64 (-1)):=fun i=>gx_cell (HB7.out.cell 0) hne7 i
         have y1:∀i,(gx w2 (some g) i).cell? ⟨g7,1,none⟩=some (.int .i64 (n:Int)):=fun i=>gx_cell (HB7.out.cell 1) hne7 i
         refine wp_region_mix [0,1,2] (some g) 2 (by kernel_rfl) rfl (by kernel_rfl) (fun o _ _ _ _ h=>by cases o <;> exact h) ?_
         simp only [pickOps,List.filterMap_cons,List.filterMap_nil,List.getElem?_cons_zero,List.getElem?_cons_succ]
         repeat (first | (refine wpGq_step (fun K hK=>?_);go_simp;refine hK _ ?_;clear hK K) | (refine wpGq_step (fun K hK=>?_);go_simp;simp only [↓IntWalk.iteOmega];go_simp;refine hK _ ?_;clear hK K) | (refine wpGq_step (fun K hK=>?_);go_simp;apply Exists.intro;refine ⟨fun _=>?_,hK _ ?_⟩;(go_at_call 92;exact HR.out _);clear hK K))
         refine wpGq_nil ?_
         refine wpG_one 3 (by kernel_rfl) rfl rfl (fun K hK wa hga=>?_)
         have hba:=HBG.out.gr hga
         have z0:=hba.cell 0
         have z1:=hba.cell 1
         have f0:=hba.free 0 (.inr (Nat.zero_le _))
         have f1:=hba.free 1 (.inr (Nat.zero_le _))
         simp only [List.getElem?_toArray,List.getElem?_cons_zero,List.getElem?_cons_succ] at z0 z1
         go_simp
         refine hK _ _ ?_ ?_
         ·exact by_st (by_st (hga.by (some g)) 0 _) 1 _
         clear hK K
         refine wpG_one 4 (by kernel_rfl) rfl rfl (fun K hK wb hgb=>?_)
         go_simp
         refine hK _ _ ?_ ?_
         ·exact by_tr (by_st (by_st (hga.by (some g)) 0 _) 1 _) hgb
         clear hK K
         refine wpG_done (by kernel_rfl) (fun wc hgc=>?_)
         have HBC:=hid ((((hba.set 0 (.int .i64 (-1))).set 1 (.int .i64 (n:Int))).gr hgb).gr hgc)
         have HGC:=hid (Gr.tr (Gr.tr (Gr.st (Gr.st (Gr.tr HGX.out hga) (p:=⟨g,0,none⟩) HGG.out (.int .i64 (-1))) (p:=⟨g,1,none⟩) HGG.out (.int .i64 (n:Int))) hgb) hgc)
         clear hgb hgc hba hga y0 y1 z0 z1 f0 f1
         have z0:=HBC.out.cell 0
         have z1:=HBC.out.cell 1
         simp only [List.setIfInBounds_toArray,List.set_cons_zero,List.set_cons_succ,List.getElem?_toArray,List.getElem?_cons_zero,List.getElem?_cons_succ] at z0 z1
         go_wp2_with fail
         refine bodyPost_ret (v:=.tuple #[.agg #[.int .i64 (-1),.int .i64 (n:Int)],.bool (specB ((-1),(n:Int)))]) (by simp [results,Tryz.results139,go_sem,z0,z1]) rfl ⟨(-1),(n:Int),by rw [HIS.out],fun p hp=>HIV.out p hp,HGC.out⟩
   | cons a0 a'=>
     cases hn:numberL (a0::a') with
     | none=>
       rw [hn] at HNA
       unfold optN at HNA
       simp only [Option.getD_none,Option.isSome_none] at HNA
       have HN:=hid (item_wrong HCUT.out (.inl ⟨by simp,hn⟩))
       clear hn
       go_upto_region 5 with fail
       have HBG:=HBG
       generalize w1.alloc (Obj.cells #[.int .i64 (-1),.int .i64 (-1)] 96)=w2 at *
       have HG7:=hid (show w.heap.size≤w1.heap.size from HG1.out.size)
       clear HB1 HG1
       generalize w1.heap.size=g7 at *
       have hb7:Bk w2 g7 96 #[.int .i64 (-1),.int .i64 (-1)] (0,0):=hb7
       have p0:=hb7.cell 0
       have p1:=hb7.cell 1
       have q0:=hb7.free 0 (.inr (Nat.zero_le _))
       simp only [List.getElem?_toArray,List.getElem?_cons_zero,List.getElem?_cons_succ] at p0 p1
       go_upto_region 7 with (go_at_call 212;refine (HNA.out _).mono ?_;rintro e wn ⟨rfl,rfl⟩)
       have HBG:=hid (HBG.out.far (p:=⟨g7,0,none⟩) (Nat.ne_of_lt hg1) (.int .i64 0))
       have HGX:=hid (Gr.st HGX.out (p:=⟨g7,0,none⟩) HG7.out (.int .i64 0))
       have hb7:=hb7.set 0 (.int .i64 0)
       simp only [List.setIfInBounds_toArray,List.set_cons_zero,List.set_cons_succ] at hb7
       clear p0 p1 q0
       generalize w2.setCell ⟨g7,0,none⟩ (.int .i64 0)=w2 at *
       clear hb7
       have z0:=HBG.out.cell 0
       have z1:=HBG.out.cell 1
       have f0:=HBG.out.free 0 (.inr (Nat.zero_le _))
       have f1:=HBG.out.free 1 (.inr (Nat.zero_le _))
       simp only [List.getElem?_toArray,List.getElem?_cons_zero,List.getElem?_cons_succ] at z0 z1
       go_wp2_with fail
       refine bodyPost_ret (v:=.tuple #[.agg #[.int .i64 0,.int .i64 0],.bool false]) (by simp [results,Tryz.results139,go_sem,z0,z1]) rfl ⟨0,0,by rw [HN.out];rfl,fun p hp=>(by rw [HN.out] at hp;cases hp),?_⟩
       exact Gr.st (Gr.st HGX.out HGG.out _) HGG.out _
     | some m=>
       rw [hn] at HNA
       unfold optN at HNA
       simp only [Option.getD_some,Option.isSome_some] at HNA
       have hma:=numM_some hn
       have HSA:=hid (show numberL (a0::a')≠none from by rw [hn];simp)
       clear hn
       cases b with
       | nil=>
         have HIS:=hid (item_right HCUT.out (by simp) (.inr HSA.out) (.inl rfl))
         have HIV:=hid (itemL_val HCUT.out)
         rw [numM_nil,hma] at HIS HIV
         clear hma
         go_upto_region 5 with fail
         have HBG:=HBG
         generalize w1.alloc (Obj.cells #[.int .i64 (-1),.int .i64 (-1)] 96)=w2 at *
         have HG7:=hid (show w.heap.size≤w1.heap.size from HG1.out.size)
         clear HB1 HG1
         generalize w1.heap.size=g7 at *
         have hb7:Bk w2 g7 96 #[.int .i64 (-1),.int .i64 (-1)] (0,0):=hb7
         have p0:=hb7.cell 0
         have p1:=hb7.cell 1
         have q0:=hb7.free 0 (.inr (Nat.zero_le _))
         simp only [List.getElem?_toArray,List.getElem?_cons_zero,List.getElem?_cons_succ] at p0 p1
         go_upto_region 7 with (go_at_call 212;refine (HNA.out _).mono ?_;rintro e wn ⟨rfl,rfl⟩)
         have HBG:=hid (HBG.out.far (p:=⟨g7,0,none⟩) (Nat.ne_of_lt hg1) (.int .i64 (m:Int)))
         have HGX:=hid (Gr.st HGX.out (p:=⟨g7,0,none⟩) HG7.out (.int .i64 (m:Int)))
         have hb7:=hb7.set 0 (.int .i64 (m:Int))
         simp only [List.setIfInBounds_toArray,List.set_cons_zero,List.set_cons_succ] at hb7
         clear p0 p1 q0
         generalize w2.setCell ⟨g7,0,none⟩ (.int .i64 (m:Int))=w2 at *
         go_upto_region 13 with fail
         have HB7:=hid hb7
         clear hb7
         have HR:=hid (fun (w:World)=>specRight_any (m:Int) (-1) w)
         have hne7:(some g7:Option Nat)≠some g:=by simp;omega
         have y0:∀i,(gx w2 (some g) i).cell? ⟨g7,0,none⟩=some (.int .i64 (m:Int)):=fun i=>gx_cell (HB7.out.cell 0) hne7 i
         have y1:∀i,(gx w2 (some g) i).cell? ⟨g7,1,none⟩=some (.int .i64 (-1)):=fun i=>gx_cell (HB7.out.cell 1) hne7 i
         refine wp_region_mix [0,1,2] (some g) 2 (by kernel_rfl) rfl (by kernel_rfl) (fun o _ _ _ _ h=>by cases o <;> exact h) ?_
         simp only [pickOps,List.filterMap_cons,List.filterMap_nil,List.getElem?_cons_zero,List.getElem?_cons_succ]
         repeat (first | (refine wpGq_step (fun K hK=>?_);go_simp;refine hK _ ?_;clear hK K) | (refine wpGq_step (fun K hK=>?_);go_simp;simp only [↓IntWalk.iteOmega];go_simp;refine hK _ ?_;clear hK K) | (refine wpGq_step (fun K hK=>?_);go_simp;apply Exists.intro;refine ⟨fun _=>?_,hK _ ?_⟩;(go_at_call 92;exact HR.out _);clear hK K))
         refine wpGq_nil ?_
         refine wpG_one 3 (by kernel_rfl) rfl rfl (fun K hK wa hga=>?_)
         have hba:=HBG.out.gr hga
         have z0:=hba.cell 0
         have z1:=hba.cell 1
         have f0:=hba.free 0 (.inr (Nat.zero_le _))
         have f1:=hba.free 1 (.inr (Nat.zero_le _))
         simp only [List.getElem?_toArray,List.getElem?_cons_zero,List.getElem?_cons_succ] at z0 z1
         go_simp
         refine hK _ _ ?_ ?_
         ·exact by_st (by_st (hga.by (some g)) 0 _) 1 _
         clear hK K
         refine wpG_one 4 (by kernel_rfl) rfl rfl (fun K hK wb hgb=>?_)
         go_simp
         refine hK _ _ ?_ ?_
         ·exact by_tr (by_st (by_st (hga.by (some g)) 0 _) 1 _) hgb
         clear hK K
         refine wpG_done (by kernel_rfl) (fun wc hgc=>?_)
         have HBC:=hid ((((hba.set 0 (.int .i64 (m:Int))).set 1 (.int .i64 (-1))).gr hgb).gr hgc)
         have HGC:=hid (Gr.tr (Gr.tr (Gr.st (Gr.st (Gr.tr HGX.out hga) (p:=⟨g,0,none⟩) HGG.out (.int .i64 (m:Int))) (p:=⟨g,1,none⟩) HGG.out (.int .i64 (-1))) hgb) hgc)
         clear hgb hgc hba hga y0 y1 z0 z1 f0 f1
         have z0:=HBC.out.cell 0
         have z1:=HBC.out.cell 1
         simp only [List.setIfInBounds_toArray,List.set_cons_zero,List.set_cons_succ,List.getElem?_toArray,List.getElem?_cons_zero,List.getElem?_cons_succ] at z0 z1
         go_wp2_with fail
         refine bodyPost_ret (v:=.tuple #[.agg #[.int .i64 (m:Int),.int .i64 (-1)],.bool (specB ((m:Int),(-1)))]) (by simp [results,Tryz.results139,go_sem,z0,z1]) rfl ⟨(m:Int),(-1),by rw [HIS.out],fun p hp=>HIV.out p hp,HGC.out⟩
       | cons b0 b'=>
         cases hn:numberL (b0::b') with
         | none=>
           rw [hn] at HNB
           unfold optN at HNB
           simp only [Option.getD_none,Option.isSome_none] at HNB
           have HN:=hid (item_wrong HCUT.out (.inr ⟨by simp,hn⟩))
           clear hn hma
           go_upto_region 5 with fail
           have HBG:=HBG
           generalize w1.alloc (Obj.cells #[.int .i64 (-1),.int .i64 (-1)] 96)=w2 at *
           have HG7:=hid (show w.heap.size≤w1.heap.size from HG1.out.size)
           clear HB1 HG1
           generalize w1.heap.size=g7 at *
           have hb7:Bk w2 g7 96 #[.int .i64 (-1),.int .i64 (-1)] (0,0):=hb7
           have p0:=hb7.cell 0
           have p1:=hb7.cell 1
           have q0:=hb7.free 0 (.inr (Nat.zero_le _))
           simp only [List.getElem?_toArray,List.getElem?_cons_zero,List.getElem?_cons_succ] at p0 p1
           go_upto_region 7 with (go_at_call 212;refine (HNA.out _).mono ?_;rintro e wn ⟨rfl,rfl⟩)
           have HBG:=hid (HBG.out.far (p:=⟨g7,0,none⟩) (Nat.ne_of_lt hg1) (.int .i64 (m:Int)))
           have HGX:=hid (Gr.st HGX.out (p:=⟨g7,0,none⟩) HG7.out (.int .i64 (m:Int)))
           have hb7:=hb7.set 0 (.int .i64 (m:Int))
           simp only [List.setIfInBounds_toArray,List.set_cons_zero,List.set_cons_succ] at hb7
           clear p0 p1 q0
           generalize w2.setCell ⟨g7,0,none⟩ (.int .i64 (m:Int))=w2 at *
           have p0:=hb7.cell 0
           have p1:=hb7.cell 1
           have q1:=hb7.free 1 (.inr (Nat.zero_le _))
           simp only [List.getElem?_toArray,List.getElem?_cons_zero,List.getElem?_cons_succ] at p0 p1
           go_upto_region 11 with (go_at_call 212;refine (HNB.out _).mono ?_;rintro e wn ⟨rfl,rfl⟩)
           have HBG:=hid (HBG.out.far (p:=⟨g7,1,none⟩) (Nat.ne_of_lt hg1) (.int .i64 0))
           have HGX:=hid (Gr.st HGX.out (p:=⟨g7,1,none⟩) HG7.out (.int .i64 0))
           have hb7:=hb7.set 1 (.int .i64 0)
           simp only [List.setIfInBounds_toArray,List.set_cons_zero,List.set_cons_succ] at hb7
           clear p0 p1 q1
           generalize w2.setCell ⟨g7,1,none⟩ (.int .i64 0)=w2 at *
           clear hb7
           have z0:=HBG.out.cell 0
           have z1:=HBG.out.cell 1
           have f0:=HBG.out.free 0 (.inr (Nat.zero_le _))
           have f1:=HBG.out.free 1 (.inr (Nat.zero_le _))
           simp only [List.getElem?_toArray,List.getElem?_cons_zero,List.getElem?_cons_succ] at z0 z1
           go_wp2_with fail
           refine bodyPost_ret (v:=.tuple #[.agg #[.int .i64 0,.int .i64 0],.bool false]) (by simp [results,Tryz.results139,go_sem,z0,z1]) rfl ⟨0,0,by rw [HN.out];rfl,fun p hp=>(by rw [HN.out] at hp;cases hp),?_⟩
           exact Gr.st (Gr.st HGX.out HGG.out _) HGG.out _
         | some n=>
           rw [hn] at HNB
           unfold optN at HNB
           simp only [Option.getD_some,Option.isSome_some] at HNB
           have HIS:=hid (item_right HCUT.out (by simp) (.inr HSA.out) (.inr (by rw [hn];simp)))
           have HIV:=hid (itemL_val HCUT.out)
           rw [hma,numM_some hn] at HIS HIV
           clear hn hma
           go_upto_region 5 with fail
           have HBG:=HBG
           generalize w1.alloc (Obj.cells #[.int .i64 (-1),.int .i64 (-1)] 96)=w2 at *
           have HG7:=hid (show w.heap.size≤w1.heap.size from HG1.out.size)
           clear HB1 HG1
           generalize w1.heap.size=g7 at *
           have hb7:Bk w2 g7 96 #[.int .i64 (-1),.int .i64 (-1)] (0,0):=hb7
           have p0:=hb7.cell 0
           have p1:=hb7.cell 1
           have q0:=hb7.free 0 (.inr (Nat.zero_le _))
           simp only [List.getElem?_toArray,List.getElem?_cons_zero,List.getElem?_cons_succ] at p0 p1
           go_upto_region 7 with (go_at_call 212;refine (HNA.out _).mono ?_;rintro e wn ⟨rfl,rfl⟩)
           have HBG:=hid (HBG.out.far (p:=⟨g7,0,none⟩) (Nat.ne_of_lt hg1) (.int .i64 (m:Int)))
           have HGX:=hid (Gr.st HGX.out (p:=⟨g7,0,none⟩) HG7.out (.int .i64 (m:Int)))
           have hb7:=hb7.set 0 (.int .i64 (m:Int))
           simp only [List.setIfInBounds_toArray,List.set_cons_zero,List.set_cons_succ] at hb7
           clear p0 p1 q0
           generalize w2.setCell ⟨g7,0,none⟩ (.int .i64 (m:Int))=w2 at *
           have p0:=hb7.cell 0
           have p1:=hb7.cell 1
           have q1:=hb7.free 1 (.inr (Nat.zero_le _))
           simp only [List.getElem?_toArray,List.getElem?_cons_zero,List.getElem?_cons_succ] at p0 p1
           go_upto_region 11 with (go_at_call 212;refine (HNB.out _).mono ?_;rintro e wn ⟨rfl,rfl⟩)
           have HBG:=hid (HBG.out.far (p:=⟨g7,1,none⟩) (Nat.ne_of_lt hg1) (.int .i64 (n:Int)))
           have HGX:=hid (Gr.st HGX.out (p:=⟨g7,1,none⟩) HG7.out (.int .i64 (n:Int)))
           have hb7:=hb7.set 1 (.int .i64 (n:Int))
           simp only [List.setIfInBounds_toArray,List.set_cons_zero,List.set_cons_succ] at hb7
           clear p0 p1 q1
           generalize w2.setCell ⟨g7,1,none⟩ (.int .i64 (n:Int))=w2 at *
           go_upto_region 13 with fail
           have HB7:=hid hb7
           clear hb7
           have HR:=hid (fun (w:World)=>specRight_any (m:Int) (n:Int) w)
           have hne7:(some g7:Option Nat)≠some g:=by simp;omega
           have y0:∀i,(gx w2 (some g) i).cell? ⟨g7,0,none⟩=some (.int .i64 (m:Int)):=fun i=>gx_cell (HB7.out.cell 0) hne7 i
           have y1:∀i,(gx w2 (some g) i).cell? ⟨g7,1,none⟩=some (.int .i64 (n:Int)):=fun i=>gx_cell (HB7.out.cell 1) hne7 i
           refine wp_region_mix [0,1,2] (some g) 2 (by kernel_rfl) rfl (by kernel_rfl) (fun o _ _ _ _ h=>by cases o <;> exact h) ?_
           simp only [pickOps,List.filterMap_cons,List.filterMap_nil,List.getElem?_cons_zero,List.getElem?_cons_succ]
           repeat (first | (refine wpGq_step (fun K hK=>?_);go_simp;refine hK _ ?_;clear hK K) | (refine wpGq_step (fun K hK=>?_);go_simp;simp only [↓IntWalk.iteOmega];go_simp;refine hK _ ?_;clear hK K) | (refine wpGq_step (fun K hK=>?_);go_simp;apply Exists.intro;refine ⟨fun _=>?_,hK _ ?_⟩;(go_at_call 92;exact HR.out _);clear hK K))
           refine wpGq_nil ?_
           refine wpG_one 3 (by kernel_rfl) rfl rfl (fun K hK wa hga=>?_)
           have hba:=HBG.out.gr hga
           have z0:=hba.cell 0
           have z1:=hba.cell 1
           have f0:=hba.free 0 (.inr (Nat.zero_le _))
           have f1:=hba.free 1 (.inr (Nat.zero_le _))
           simp only [List.getElem?_toArray,List.getElem?_cons_zero,List.getElem?_cons_succ] at z0 z1
           go_simp
           refine hK _ _ ?_ ?_
           ·exact by_st (by_st (hga.by (some g)) 0 _) 1 _
           clear hK K
           refine wpG_one 4 (by kernel_rfl) rfl rfl (fun K hK wb hgb=>?_)
           go_simp
           refine hK _ _ ?_ ?_
           ·exact by_tr (by_st (by_st (hga.by (some g)) 0 _) 1 _) hgb
           clear hK K
           refine wpG_done (by kernel_rfl) (fun wc hgc=>?_)
           have HBC:=hid ((((hba.set 0 (.int .i64 (m:Int))).set 1 (.int .i64 (n:Int))).gr hgb).gr hgc)
           have HGC:=hid (Gr.tr (Gr.tr (Gr.st (Gr.st (Gr.tr HGX.out hga) (p:=⟨g,0,none⟩) HGG.out (.int .i64 (m:Int))) (p:=⟨g,1,none⟩) HGG.out (.int .i64 (n:Int))) hgb) hgc)
           clear hgb hgc hba hga y0 y1 z0 z1 f0 f1
           have z0:=HBC.out.cell 0
           have z1:=HBC.out.cell 1
           simp only [List.setIfInBounds_toArray,List.set_cons_zero,List.set_cons_succ,List.getElem?_toArray,List.getElem?_cons_zero,List.getElem?_cons_succ] at z0 z1
           go_wp2_with fail
           refine bodyPost_ret (v:=.tuple #[.agg #[.int .i64 (m:Int),.int .i64 (n:Int)],.bool (specB ((m:Int),(n:Int)))]) (by simp [results,Tryz.results139,go_sem,z0,z1]) rfl ⟨(m:Int),(n:Int),by rw [HIS.out],fun p hp=>HIV.out p hp,HGC.out⟩
end Go.Proofs.YtflepnkpihfidaaGreatDoor
namespace Go.Proofs.YtflepnkpihfidaaGreatDoor
open Lib (hid)
open Go.RowKit
theorem specTxt_bad {l:List SpecT} {k:Nat} (hk:k < l.length) (h:specB l[k]=false):specTxt l=([],1):=by
 unfold specTxt
 split
 ·rfl
 ·rw [if_neg]
  intro ha
  have:=(List.all_eq_true.1 ha) _ (List.getElem_mem hk)
  rw [h] at this;cases this
theorem specTxt_many {l:List SpecT} (h:l.all specB=true) (hm:64 < l.length):specTxt l=([],4):=by
 unfold specTxt
 rw [if_neg (by rintro rfl;simp at hm),if_pos h,if_pos hm]
theorem specTxt_good {l:List SpecT} (h:l.all specB=true) (hn:l≠[]) (hm:¬64 < l.length):specTxt l=(specTx l,0):=by
 unfold specTxt
 rw [if_neg hn,if_pos h,if_neg hm]
theorem joinS_succ (l:List SpecT) (k:Nat) (h:k < l.length):joinS (l.take (k+1))=joinS (l.take k)++((if k=0 then [] else [44])++(endTx l[k].1++([45]++endTx l[k].2))):=by
 rw [take_snoc l k h,joinS_snoc]
 unfold oneS
 congr 2
 by_cases hk:k=0
 ·subst hk;simp
 ·rw [if_neg hk,if_neg]
  intro he
  have:=congrArg List.length he
  rw [List.length_take,List.length_nil] at this;omega
theorem joinS_take_len (l:List SpecT) (k:Nat) (h:(l.take k).all specB=true):(joinS (l.take k)).length≤k*38:=by
 have h1:=joinS_len (l.take k) (fun t ht=>(List.all_eq_true.1 h) t ht)
 have h2:(l.take k).length≤k:=List.length_take_le _ _
 have h3:(l.take k).length*38≤k*38:=Nat.mul_le_mul_right _ h2
 omega
theorem endTx_yes {n:Int} (h:0≤n):endTx n=Lib.itoa n:=by unfold endTx;rw [if_pos h]
theorem endTx_no {n:Int} (h:¬0≤n):endTx n=[]:=by unfold endTx;rw [if_neg h]
theorem endTx_len (n:Int) (h:n≤9223372036854775807):(endTx n).length≤19:=by
 by_cases h0:0≤n
 ·rw [endTx_yes h0]
  obtain ⟨m,rfl⟩:∃m:Nat,n=m:=⟨n.toNat,by omega⟩
  exact itoa_len (by omega)
 ·rw [endTx_no h0];simp
theorem specNe:(96:Nat)≠5:=by decide
set_option maxHeartbeats 8000000 in
set_option maxRecDepth 100000 in
theorem specText_any (u:Value) (l:List SpecT) (w:World) (hp:Pw w) (hu:Specs w u l) (_hl:l.length≤1000000) :
  Calls Tryz.prog 62 #[u] w fun e w'=>e=.returned (.tuple #[str (specTxt l).1,.int .i64 (specTxt l).2])∧Gr w w':=by
 obtain ⟨A,c,rfl,hc,hx,hA⟩:=hu.open
 have HA:=hid hA;have HP:=hid hp;clear hA hu hp
 by_cases hn:l=[]
 ·subst hn
  go_enter Tryz.func62,Tryz.ntmps62
  go_wp2_with fail
  go_ret2
  exact ⟨rfl,Gr.refl _⟩
 ·have k0:((l.length:Int)==0)=false:=by
   have:=List.length_pos_iff.2 hn
   simp;omega
  have HN0:=hid hn
  clear hn
  go_enter Tryz.func62,Tryz.ntmps62
  go_upto_region 4 with fail
  go_loopw [5,14] (fun x i wr=>∃k:Nat,k≤l.length∧i=.int .i64 k∧Gr w wr∧(l.take k).all specB=true) (fun _ i _=>l.length-(intOf i).toNat)
  case atStart=>exact ⟨0,Nat.zero_le _,rfl,Gr.refl _,rfl⟩
  case round=>
   obtain ⟨k,hk,rfl,hG,hE⟩:=hrel
   have HE:=hid hE;clear hE
   by_cases hlt:k < l.length
   ·obtain ⟨b1,o1,rfl,hb1,p0,p1⟩:=HA.out k hlt
    have p0:=Gr.cell hG p0;have p1:=Gr.cell hG p1
    have HR:=hid (fun (w:World)=>specRight_any l[k].1 l[k].2 w)
    have HGa:=hid (Gr.al hG (Obj.cells #[.int .i64 l[k].1,.int .i64 l[k].2] 96))
    cases hr:specB l[k] with
    | false=>
      rw [show (l[k].1,l[k].2)=l[k] from rfl,hr] at HR
      have HN:=hid (specTxt_bad hlt hr)
      clear hr
      go_wp2_with (go_at_call 92;refine (HR.out _).mono ?_;rintro e w1 ⟨rfl,hG1⟩)
      go_ret2
      exact ⟨by rw [HN.out];rfl,Gr.tr HGa.out hG1⟩
    | true=>
      rw [show (l[k].1,l[k].2)=l[k] from rfl,hr] at HR
      have HN:=hid (all_take_succ specB l k hlt HE.out hr)
      clear hr
      go_wp2_with (go_at_call 92;refine (HR.out _).mono ?_;rintro e w1 ⟨rfl,hG1⟩)
      exact ⟨⟨k+1,by omega,by go_num,Gr.tr HGa.out hG1,HN.out⟩,by simp [intOf];omega⟩
   ·have HE:=hid (show l.all specB=true from by have:=HE.out;rwa [List.take_of_length_le (by omega)] at this)
    by_cases h64:64 < l.length
    ·have d64:decide (64 < (l.length:Int))=true:=decide_eq_true (by omega)
     have HN:=hid (specTxt_many HE.out h64)
     clear h64
     go_wp2_with fail
     go_ret2
     exact ⟨by rw [HN.out];rfl,hG⟩
    ·have d64:decide (64 < (l.length:Int))=false:=decide_eq_false (by omega)
     have HN:=hid (specTxt_good HE.out HN0.out h64)
     have HALL:=hid (fun (k:Nat)=>show (l.take k).all specB=true from by
      rw [List.all_eq_true];intro t ht;exact (List.all_eq_true.1 HE.out) t (List.mem_of_mem_take ht))
     have HP1:=hid (HP.out.gr hG)
     go_upto_region 12 with fail
     have hB0:=hid (bld_new w wr hG)
     have hGb:=Gr.al (Gr.refl wr) (.cells #[.pointer none,.slice none 0 0] 171)
     generalize wr.alloc (.cells #[.pointer none,.slice none 0 0] 171)=wb at *
     generalize wr.heap.size=bb at *
     go_upto_region 13 with (go_at_call 102;refine (writeString_any w _ bb [] bytesEq hB0.out (by decide)).mono ?_;rintro e w1 ⟨rfl,hB1,hO1⟩)
     have HP1:=hid (fun (x:World) (g:Gr w x)=>HP.out.gr g)
     have HB1:=hid hB1
     clear hB1 hO1 hGb hB0
     go_wp2_with fail
     go_loopw [7,8,28] (fun x7 x8 i wq=>∃k:Nat,k≤l.length∧i=.int .i64 k∧Bld w wq bb (bytesEq++joinS (l.take k))) (fun _ _ i _=>l.length-(intOf i).toNat)
     case atStart=>exact ⟨0,Nat.zero_le _,rfl,HB1.out⟩
     case round=>
      clear HB1
      obtain ⟨k,hk,rfl,hB⟩:=hrel
      have HB:=hid hB;clear hB
      have hGq:=HB.out.2.1
      by_cases hlt:k < l.length
      ·obtain ⟨b1,o1,rfl,hb1,p0,p1⟩:=HA.out k hlt
       have p0:=Gr.cell hGq p0;have p1:=Gr.cell hGq p1
       have hgb:wr.heap.size≠bb:=by
        obtain ⟨_,_,_,_,_,hb,_⟩:=HB.out
        have:=hb.lt;omega
       have HJ:=hid (joinS_succ l k hlt)
       have hjl:=joinS_take_len l k (HALL.out k)
       have hjl:(bytesEq++joinS (l.take k)).length≤3000:=by rw [List.length_append];simp [bytesEq];omega
       have hsp:=specB_iff.1 (List.all_eq_true.1 HE.out _ (List.getElem_mem hlt))
       go_upto_region 16 with fail
       have hbf:=Bk.new wr 96 #[.int .i64 l[k].1,.int .i64 l[k].2] (0,0)
       have hga:=Gr.al (Gr.refl wr) (.cells #[.int .i64 l[k].1,.int .i64 l[k].2] 96)
       have HB:=hid (HB.out.gr hga)
       generalize wr.alloc (Obj.cells #[.int .i64 l[k].1,.int .i64 l[k].2] 96)=wf at *
       clear p0 p1
       generalize wr.heap.size=gf at *
       have el1:=endTx_len l[k].1 (by omega)
       have el2:=endTx_len l[k].2 (by omega)
       have sp1:-9223372036854775808≤l[k].1∧l[k].1≤9223372036854775807:=by omega
       have sp2:-9223372036854775808≤l[k].2∧l[k].2≤9223372036854775807:=by omega
       have HST:=hid (show bytesEq++joinS (l.take (k+1))=(((bytesEq++joinS (l.take k))++(if k=0 then [] else [44]))++endTx l[k].1)++[45]++endTx l[k].2 from by rw [HJ.out];simp only [List.append_assoc])
       clear HJ hsp
       generalize bytesEq++joinS (l.take k)=J at *
       generalize l[k].1=na at *
       generalize l[k].2=nb at *
       go_upto_if 34 with fail
       go_cut [] (fun wx=>Bld w wx bb (J++(if k=0 then [] else [44]))∧Bk wx gf 96 #[.int .i64 na,.int .i64 nb] (0,0))
       case first=>
        by_cases hk0:k=0
        ·subst hk0
         go_wp2_with fail
         go_meet
         exact ⟨by have h:=HB.out;simpa using h,hbf⟩
        ·have d0:decide (0 < k)=true:=decide_eq_true (by omega)
         have hkp:0 < k:=by omega
         have HK:=hid hk0
         clear hk0
         go_wp2_with (go_at_call 101;refine (writeByte_any w _ bb J 44 HB.out (by omega)).mono ?_;rintro e w2 ⟨rfl,hB2,hO2⟩;have hbf:=hO2 gf _ _ _ hgb specNe hbf;have HB:=hid hB2;clear hB2 hO2)
         go_meet
         exact ⟨by rw [if_neg HK.out];exact HB.out,hbf⟩
       case rest=>
       obtain ⟨hB,hbf⟩:=hcut
       have HB:=hid hB;clear hB
       have hjl2:(J++(if k=0 then [] else [44])).length≤3001:=by rw [List.length_append];split <;> simp <;> omega
       generalize J++(if k=0 then [] else [44])=J2 at *
       have c0:=hbf.cell 0
       simp only [List.getElem?_toArray,List.getElem?_cons_zero] at c0
       go_upto_if 38 with fail
       clear c0
       go_cut [] (fun wx=>Bld w wx bb (J2++endTx na)∧Bk wx gf 96 #[.int .i64 na,.int .i64 nb] (0,0))
       case first=>
        have c0:=hbf.cell 0
        simp only [List.getElem?_toArray,List.getElem?_cons_zero] at c0
        by_cases hna:0≤na
        ·have d0:decide (0≤na)=true:=decide_eq_true hna
         have HX:=hid (endTx_yes hna)
         rw [HX.out] at el1
         have HF:=hid (fun (x:World) (g:Gr w x)=>fmtInt_any na x (HP1.out x g) sp1.1 sp1.2)
         have hGx:=HB.out.2.1
         go_wp2_with (first
          | (go_at_call 119;refine (HF.out _ hGx).mono ?_;rintro e w2 ⟨rfl,hG2⟩;have hbf:=hbf.gr hG2;have HB:=hid (HB.out.gr hG2))
          | (go_at_call 102;refine (writeString_any w _ bb J2 (Lib.itoa na) HB.out (by omega)).mono ?_;rintro e w3 ⟨rfl,hB2,hO2⟩;have hbf:=hO2 gf _ _ _ hgb specNe hbf;have HB:=hid hB2;clear hB2 hO2))
         go_meet
         exact ⟨by rw [HX.out];exact HB.out,hbf⟩
        ·have d0:decide (0≤na)=false:=decide_eq_false hna
         have HX:=hid (endTx_no hna)
         go_wp2_with fail
         go_meet
         exact ⟨by rw [HX.out,List.append_nil];exact HB.out,hbf⟩
       case rest=>
       obtain ⟨hB,hbf⟩:=hcut
       have HB:=hid hB;clear hB
       have hjl3:(J2++endTx na).length≤3020:=by rw [List.length_append];omega
       generalize J2++endTx na=J3 at *
       go_upto_region 21 with (go_at_call 101;refine (writeByte_any w _ bb J3 45 HB.out (by omega)).mono ?_;rintro e w2 ⟨rfl,hB2,hO2⟩;have hbf:=hO2 gf _ _ _ hgb specNe hbf;have HB:=hid hB2;clear hB2 hO2)
       have hjl4:(J3++[45]).length≤3021:=by rw [List.length_append];simp;omega
       generalize J3++[45]=J4 at *
       have c1:=hbf.cell 1
       simp only [List.getElem?_toArray,List.getElem?_cons_zero,List.getElem?_cons_succ] at c1
       by_cases hna:0≤nb
       ·have d0:decide (0≤nb)=true:=decide_eq_true hna
        have HX:=hid (endTx_yes hna)
        rw [HX.out] at el2 HST
        have HF:=hid (fun (x:World) (g:Gr w x)=>fmtInt_any nb x (HP1.out x g) sp2.1 sp2.2)
        have hGx:=HB.out.2.1
        clear hna
        go_wp2_with (first
         | (go_at_call 119;refine (HF.out _ hGx).mono ?_;rintro e w2 ⟨rfl,hG2⟩;have hbf:=hbf.gr hG2;have HB:=hid (HB.out.gr hG2))
         | (go_at_call 102;refine (writeString_any w _ bb J4 (Lib.itoa nb) HB.out (by omega)).mono ?_;rintro e w3 ⟨rfl,hB2,hO2⟩;have HB:=hid hB2;clear hB2 hO2))
        exact ⟨⟨k+1,by omega,by go_num,by rw [HST.out];exact HB.out⟩,by simp [intOf];omega⟩
       ·have d0:decide (0≤nb)=false:=decide_eq_false hna
        have HX:=hid (endTx_no hna)
        rw [HX.out,List.append_nil] at HST
        clear hna
        go_wp2_with fail
        exact ⟨⟨k+1,by omega,by go_num,by rw [HST.out];exact HB.out⟩,by simp [intOf];omega⟩
      ·have HTK:=hid (show bytesEq++joinS (l.take k)=specTx l from by rw [List.take_of_length_le (by omega)];rfl)
       rw [HTK.out] at HB
       go_wp2_with (go_at_call 104;refine (string_any w _ bb _ HB.out).mono ?_;rintro e w2 ⟨rfl,hG2⟩)
       go_ret2
       exact ⟨by rw [HN.out];rfl,hG2⟩
end Go.Proofs.YtflepnkpihfidaaGreatDoor
