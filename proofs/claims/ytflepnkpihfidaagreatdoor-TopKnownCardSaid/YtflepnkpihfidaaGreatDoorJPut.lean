/- Parts. No conditions but those that each theorem names. -/
import Derived.Test.YtflepnkpihfidaaGreatDoorProg
import Derived.Test.YtflepnkpihfidaaGreatDoorJWords
import Derived.Test.YtflepnkpihfidaaGreatDoorShelf
import Derived.Lib.Builder
import Derived.Lib.AppendStr
import Derived.Test.YtflepnkpihfidaaGreatDoorJItems
import Derived.Test.YtflepnkpihfidaaGreatDoorJLawA
set_option linter.unusedVariables false
set_option linter.unusedSimpArgs false
namespace Go.Proofs.YtflepnkpihfidaaGreatDoor
open Lib (hid)
open Go.RowKit
def Bld (W0 w:World) (b:Nat) (l:List UInt8):Prop:=
 W0.heap.size≤b∧Gr W0 w∧∃p v,(p=.pointer none∨p=.pointer (some ⟨b,0,none⟩))∧Bk w b 171 #[p,v] (0,0)∧Own W0 w 5 1 v l.length (Lib.byteCells l)
theorem Bld.gr {W0 w w':World} {b:Nat} {l:List UInt8} (h:Bld W0 w b l) (k:Gr w w'):Bld W0 w' b l:=by
 obtain ⟨h1,h2,p,v,hp,hb,ho⟩:=h
 exact ⟨h1,Gr.tr h2 k,p,v,hp,hb.gr k,ho.gr k⟩
theorem bldNe:(5:Nat)≠171:=by decide
def Oth (b:Nat) (w w':World):Prop:=∀k t cs fr,k≠b→t≠5→Bk w k t cs fr→Bk w' k t cs fr
theorem Oth.tr {b:Nat} {w w' w'':World} (h:Oth b w w') (k:Oth b w' w''):Oth b w w'':=fun i t cs fr hi ht hb=>k i t cs fr hi ht (h i t cs fr hi ht hb)
theorem sizeB:(Tryz.prog.info? 171).map (·.size)=some 2:=by kernel_rfl
set_option maxHeartbeats 1000000 in
set_option maxRecDepth 100000 in
theorem copyCheck_used (b:Nat) (w:World) (h0:w.cell? ⟨b,0,none⟩=some (.pointer (some ⟨b,0,none⟩))) :
  Calls Tryz.prog 168 #[.pointer (some ⟨b,0,none⟩)] w fun e w'=>e=.returned (.tuple #[])∧w=w':=by
 obtain ⟨j,hj,_⟩:=Option.map_eq_some_iff.1 sizeB
 go_enter Tryz.func168,Tryz.ntmps168
 go_wp2
 rw [Lib.run_neq_ptr_same w _ Tryz.underlying169 hj]
 go_wp2
 go_end0
 exact ⟨rfl,rfl⟩
set_option maxHeartbeats 1000000 in
set_option maxRecDepth 100000 in
theorem copyCheck_fresh (b:Nat) (w:World) (h0:w.cell? ⟨b,0,none⟩=some (.pointer none)) (hsh:w.shape? b=some (171,2)) (hfz:w.frozen? ⟨b,0,none⟩=false) :
  Calls Tryz.prog 168 #[.pointer (some ⟨b,0,none⟩)] w fun e w'=>e=.returned (.tuple #[])∧w.setCell ⟨b,0,none⟩ (.pointer (some ⟨b,0,none⟩))=w':=by
 obtain ⟨j,hj,hjs⟩:=Option.map_eq_some_iff.1 sizeB
 go_enter Tryz.func168,Tryz.ntmps168
 go_wp2
 rw [Lib.run_to_unsafe w ⟨b,0,none⟩ Tryz.underlying169 Tryz.underlying307 hj (by rw [hjs];decide) hsh (Nat.zero_lt_succ 1)]
 simp only [Result.andThen]
 rw [Oper.upon_value]
 go_wp2
 rw [run_callFunc_extern Tryz.func234 (by kernel_rfl) (by kernel_rfl) (by kernel_rfl) (e:=Extern.AbiNoEscape.same) (by kernel_rfl)]
 rw [Lib.run_noEscape]
 simp only [Result.andThen]
 rw [Oper.upon_value]
 go_wp2
 rw [Lib.run_from_unsafe w ⟨b,0,none⟩ Tryz.underlying307 Tryz.underlying169 hj hsh (by kernel_rfl)]
 simp only [Result.andThen]
 rw [Oper.upon_value]
 go_wp2
 go_end0
 exact ⟨rfl,rfl⟩
theorem own_ne_b {W0 w:World} {n b:Nat} {v:Value} {xs:List Value} {cs:Array Value} {fr:Nat×Nat} (h:Own W0 w 5 1 v n xs) (k:Bk w b 171 cs fr):v.ownBlock≠some b:=by
 rcases h.2 with ⟨rfl,_⟩ | ⟨g,cap,cur,rfl,_,hh,_⟩
 ·simp [Value.ownBlock]
 ·intro hb
  have hb':g=b:=by simpa [Value.ownBlock] using hb
  subst hb'
  unfold Bk at k
  rw [hh] at k
  injection k with k
  injection k with _ k _
  exact bldNe k
theorem own_set {W0 w:World} {n b:Nat} {v:Value} {xs:List Value} (h:Own W0 w 5 1 v n xs) (hne:v.ownBlock≠some b) (i:Nat) (u:Value):Own W0 (w.setCell ⟨b,i,none⟩ u) 5 1 v n xs:=by
 refine ⟨h.1,?_⟩
 rcases h.2 with hn | ⟨g,cap,cur,hv,hb,hh,r⟩
 ·exact .inl hn
 ·subst hv
  exact .inr ⟨g,cap,cur,rfl,hb,by rw [Below.heap_setCell _ _ _ _ (by rintro rfl;exact hne rfl)];exact hh,r⟩
theorem oth_set {b:Nat} (w:World) (i:Nat) (u:Value):Oth b w (w.setCell ⟨b,i,none⟩ u):=fun _ _ _ _ hk _ hb=>hb.far (p:=⟨b,i,none⟩) hk u
def Bld1 (W0 w:World) (b:Nat) (l:List UInt8):Prop:=
 W0.heap.size≤b∧Gr W0 w∧∃v,Bk w b 171 #[.pointer (some ⟨b,0,none⟩),v] (0,0)∧Own W0 w 5 1 v l.length (Lib.byteCells l)
theorem copyCheck_any (W0 w:World) (b:Nat) (l:List UInt8) (h:Bld W0 w b l):Calls Tryz.prog 168 #[.pointer (some ⟨b,0,none⟩)] w fun e w'=>e=.returned (.tuple #[])∧Bld1 W0 w' b l∧Oth b w w':=by
 obtain ⟨h1,h2,p,v,hp,hb,ho⟩:=h
 rcases hp with rfl | rfl
 ·have hsh:w.shape? b=some (171,2):=by unfold Bk at hb;simp [World.shape?,hb]
  refine (copyCheck_fresh b w (hb.cell 0) hsh (hb.free 0 (.inr (Nat.le_refl _)))).mono ?_
  rintro e w' ⟨rfl,rfl⟩
  exact ⟨rfl,⟨h1,Gr.st h2 h1 _,v,hb.set 0 _,own_set ho (own_ne_b ho hb) 0 _⟩,oth_set w 0 _⟩
 ·refine (copyCheck_used b w (hb.cell 0)).mono ?_
  rintro e w' ⟨rfl,rfl⟩
  exact ⟨rfl,⟨h1,h2,v,hb,ho⟩,fun _ _ _ _ _ _ h=>h⟩
theorem infoByte:(Tryz.prog.info? 5).map (fun i=>(i.zero,i.size,i.bytes))=some (some (.int .u8 0),1,1):=by kernel_rfl
theorem strCells_str (s:List UInt8):Lib.strCells ⟨s.toArray⟩=Lib.byteCells s:=rfl
set_option maxHeartbeats 1000000 in
set_option maxRecDepth 100000 in
theorem writeString_any (W0 w:World) (b:Nat) (l s:List UInt8) (h:Bld W0 w b l) (_hl:l.length+s.length≤70368744177664) :
  Calls Tryz.prog 102 #[.pointer (some ⟨b,0,none⟩),str s] w fun e w'=>e=.returned (.tuple #[.int .i64 s.length,.nilIface])∧Bld W0 w' b (l++s)∧Oth b w w':=by
 obtain ⟨i0,hi,hz0,hz1,hz2⟩:=info_parts infoByte
 have HC:=hid (copyCheck_any W0 w b l h);clear h
 go_enter Tryz.func102,Tryz.ntmps102
 go_upto_region 2 with (go_at_call 168;refine HC.out.mono ?_;rintro e w1 ⟨rfl,hB1,hO1⟩)
 obtain ⟨h1,h2,v,hb,ho⟩:=hB1
 have c1:w1.cell? ⟨b,1,none⟩=some v:=hb.cell 1
 have HB:=hid hb;have HO:=hid ho;have H2:=hid h2;have HO1:=hid hO1
 clear hb ho h2 hO1 HC
 obtain ⟨A,c,rfl⟩:=HO.out.form
 go_wp2_with (at_builtin;refine Lib.wpList_append_own_string _ rfl _ _ 30 9 rfl W0.heap.size 5 i0 Tryz.underlying30 Tryz.underlying9 hi hz0 hz1 hz2 _ _ _ rfl HO.out ⟨s.toArray⟩ rfl ?c3 ?c4 H2.out.size ?_)
 case c3=>show l.length+s.length≤maxLen;unfold maxLen;omega
 case c4=>show l.length+s.length≤140737488355328;omega
 intro v' w' hown hgr _
 have hown':Own W0 w' 5 1 v' (l++s).length (Lib.byteCells (l++s)):=by
  have e:Lib.byteCells (l++s)=Lib.byteCells l++Lib.strCells ⟨s.toArray⟩:=by rw [strCells_str];simp [Lib.byteCells]
  rw [e,List.length_append];exact hown
 obtain ⟨A',c',rfl⟩:=hown'.form
 have hne:=own_ne_b HO.out HB.out
 have hb':Bk w' b 171 #[.pointer (some ⟨b,0,none⟩),.slice A l.length c] (0,0):=(hgr.block b HB.out.lt (Ne.symm hne)).trans HB.out
 have d1:w'.cell? ⟨b,1,none⟩=some (.slice A l.length c):=hb'.cell 1
 have f1:=hb'.free 1 (.inr (by simp))
 have hG':Gr W0 w':=gr_append H2.out HO.out hgr
 have HE:Hid (Bld W0 (w'.setCell ⟨b,1,none⟩ (.slice A' (l++s).length c')) b (l++s)∧Oth b w (w'.setCell ⟨b,1,none⟩ (.slice A' (l++s).length c'))):=by
  refine ⟨⟨h1,Gr.st hG' h1 _,_,_,.inr rfl,hb'.set 1 _,own_set hown' (own_ne_b hown' hb') 1 _⟩,HO1.out.tr (Oth.tr ?_ (oth_set w' 1 _))⟩
  intro k t cs fr hk ht hbk
  refine (hgr.block k hbk.lt (fun he=>?_)).trans hbk
  rcases HO.out.2 with ⟨hv,_⟩ | ⟨g,cap,cur,hv,_,hh,_⟩
  ·rw [hv] at he;simp [Value.ownBlock] at he
  ·rw [hv] at he
   have:k=g:=by simpa [Value.ownBlock] using he
   subst this
   unfold Bk at hbk
   rw [hh] at hbk
   injection hbk with hbk
   injection hbk with _ hbk _
   exact ht hbk.symm
 clear hown hown' hgr hb' hG'
 rw [List.length_append] at HE
 go_wp2_with fail
 go_ret2
 exact ⟨rfl,HE.out⟩
theorem Bld.is {W0 w:World} {b:Nat} {l:List UInt8} (h:Bld W0 w b l):Lib.IsBuilder 171 5 W0.heap.size b (Lib.byteCells l) w:=by
 obtain ⟨h1,_,p,v,hp,hb,ho⟩:=h
 have ho':w.ownsRow W0.heap.size 5 1 v (Lib.byteCells l).length (Lib.byteCells l):=by rw [Lib.byteCells_length];exact ho
 rcases hp with rfl | rfl
 ·exact .inl ⟨h1,v,hb,ho',own_ne_b ho hb⟩
 ·exact .inr ⟨h1,v,hb,ho',own_ne_b ho hb⟩
theorem string_any (W0 w:World) (b:Nat) (l:List UInt8) (h:Bld W0 w b l):Calls Tryz.prog 104 #[.pointer (some ⟨b,0,none⟩)] w fun e w'=>e=.returned (str l)∧Gr W0 w':=
 (Tryz.Builder_String_any W0.heap.size b l w h.is h.2.1.size).mono fun _ _ ⟨h1,h2⟩=>⟨h1,Below.trans h.2.1 h2⟩
theorem bld_new (W0 w:World) (h:Gr W0 w):Bld W0 (w.alloc (.cells #[.pointer none,.slice none 0 0] 171)) w.heap.size []:=
 ⟨h.size,Gr.al h _,_,_,.inl rfl,Bk.new w _ _ _,Own.nil _ _ _ _⟩
end Go.Proofs.YtflepnkpihfidaaGreatDoor
namespace Go.Proofs.YtflepnkpihfidaaGreatDoor
open Lib (hid)
open Go.RowKit
theorem fldNe:(127:Nat)≠5:=by decide
end Go.Proofs.YtflepnkpihfidaaGreatDoor
