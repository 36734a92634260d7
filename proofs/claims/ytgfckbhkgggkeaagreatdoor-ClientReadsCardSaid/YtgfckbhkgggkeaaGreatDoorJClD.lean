/- Several texts in one (their own heads say what each is). No conditions but those that each theorem names. -/
import Derived.Test.YtgfckbhkgggkeaaGreatDoorJClC
import Derived.Test.YtgfckbhkgggkeaaGreatDoorJGate6
import Derived.Test.YtgfckbhkgggkeaaGreatDoorFldsOk
import Derived.Test.YtgfckbhkgggkeaaGreatDoorJFrame2
import Derived.Test.YtgfckbhkgggkeaaGreatDoorJNum
set_option linter.unusedVariables false
set_option linter.unusedSimpArgs false
/- XClient17 -/
namespace Go.Proofs.YtgfckbhkgggkeaaGreatDoor
open Lib (hid)
open Go.RowKit
def St10 (w:World) (cs:Array Value) (d o:Bool) (e:Ending) (w':World):Prop:=e=.returned (.tuple #[.agg cs,.bool d,.bool o])∧Gr w w'
theorem st10_start (w:World) (r z:Array Value) (t:TypeId):Bk ((w.alloc (Obj.cells r t)).alloc (Obj.cells z t)) w.heap.size t r (0,0)∧Bk ((w.alloc (Obj.cells r t)).alloc (Obj.cells z t)) (w.heap.size+1) t z (0,0)∧Gr w ((w.alloc (Obj.cells r t)).alloc (Obj.cells z t)):=by
 refine ⟨(Bk.new w t r (0,0)).al _,?_,Gr.al (Gr.al (Gr.refl w) _) _⟩
 have h:=Bk.new (w.alloc (Obj.cells r t)) t z (0,0)
 rwa [show (w.alloc (Obj.cells r t)).heap.size=w.heap.size+1 from by show (w.heap.push _).size=_;simp] at h
theorem Bk.all5 {w:World} {g:Nat} {t:TypeId} {a b c d e:Value} (h:Bk w g t #[a,b,c,d,e] (0,0)):w.cell? ⟨g,0,none⟩=some a∧w.cell? ⟨g,1,none⟩=some b∧w.cell? ⟨g,2,none⟩=some c∧w.cell? ⟨g,3,none⟩=some d∧w.cell? ⟨g,4,none⟩=some e∧w.frozen? ⟨g,0,none⟩=false∧w.frozen? ⟨g,1,none⟩=false∧w.frozen? ⟨g,2,none⟩=false∧w.frozen? ⟨g,3,none⟩=false∧w.frozen? ⟨g,4,none⟩=false:=
 ⟨h.cell 0,h.cell 1,h.cell 2,h.cell 3,h.cell 4,h.free 0 (.inr (Nat.zero_le _)),h.free 1 (.inr (Nat.zero_le _)),h.free 2 (.inr (Nat.zero_le _)),h.free 3 (.inr (Nat.zero_le _)),h.free 4 (.inr (Nat.zero_le _))⟩
theorem putCs_by17 {g:Nat}:∀(l:List Value) (i:Nat) (a w:World),a.grownBy w (some g)→a.grownBy (putCs w g l i) (some g)
 | [],_,_,_,h=>h
 | v::r,i,a,w,h=>putCs_by17 r (i+1) a _ (by_st h i v)
theorem put5 {W w wy:World} {g:Nat} {t:TypeId} {a b c d e a' b' c' d' e':Value} (h:wy=putCs w g [a,b,c,d,e] 0) (hb:Bk w g t #[a',b',c',d',e'] (0,0)) (hg:Gr W w) (hs:W.heap.size≤g):wy.cell? ⟨g,0,none⟩=some a∧wy.cell? ⟨g,1,none⟩=some b∧wy.cell? ⟨g,2,none⟩=some c∧wy.cell? ⟨g,3,none⟩=some d∧wy.cell? ⟨g,4,none⟩=some e∧Gr W wy:=by
 have hy:Bk wy g t #[a,b,c,d,e] (0,0):=by rw [h];exact putCs_bk hb rfl
 have h2:Gr W wy:=by rw [h];exact putCs_gr hs _ _ _ hg
 obtain ⟨h3,h4,h5,h6,h7,-⟩:=hy.all5
 exact ⟨h3,h4,h5,h6,h7,h2⟩
theorem put5d {W w wy:World} {g:Nat} {t:TypeId} {a b c d e a' b' c' d' e':Value} (h:wy=(putCs w g [a,b,c,d,e] 0).drew) (hb:Bk w g t #[a',b',c',d',e'] (0,0)) (hg:Gr W w) (hs:W.heap.size≤g):wy.cell? ⟨g,0,none⟩=some a∧wy.cell? ⟨g,1,none⟩=some b∧wy.cell? ⟨g,2,none⟩=some c∧wy.cell? ⟨g,3,none⟩=some d∧wy.cell? ⟨g,4,none⟩=some e∧Gr W wy:=by
 have h1:Bk (putCs w g [a,b,c,d,e] 0) g t #[a,b,c,d,e] (0,0):=putCs_bk hb rfl
 have hy:Bk wy g t #[a,b,c,d,e] (0,0):=by rw [h];exact h1.gr (Gr.refl _).dr
 have h2:Gr W wy:=by rw [h];exact (putCs_gr hs _ _ _ hg).dr
 obtain ⟨h3,h4,h5,h6,h7,-⟩:=hy.all5
 exact ⟨h3,h4,h5,h6,h7,h2⟩
set_option maxHeartbeats 4000000 in
set_option maxRecDepth 100000 in
theorem refHex10_any (c:UInt8) (w:World):Calls Tryz.prog 100 #[.int .u8 c.toNat] w fun e w'=>e=.returned (.int .i64 (hexJ c))∧Gr w w':=by
 have hc:c.toNat≤255:=by have:=c.toNat_lt;omega
 have HH:=hid (show hexJ c=match (if 48≤c.toNat∧c.toNat≤57 then some (c.toNat-48) else if 97≤c.toNat∧c.toNat≤102 then some (c.toNat-87) else if 65≤c.toNat∧c.toNat≤70 then some (c.toNat-55) else none) with | some d=>(d:Int) | none=>-1 from rfl)
 by_cases c1:48≤c.toNat∧c.toNat≤57
 ·have HX:=hid (show hexJ c=(c.toNat:Int)-48 from by rw [HH.out,if_pos c1];simp only;omega)
  obtain ⟨a1,a2⟩:=c1
  have ddge48:decide (48≤((c.toNat:Nat):Int))=true:=decide_eq_true (by omega)
  have ddle57:decide (((c.toNat:Nat):Int)≤57)=true:=decide_eq_true (by omega)
  have ddge97:decide (97≤((c.toNat:Nat):Int))=false:=decide_eq_false (by omega)
  have ddle102:decide (((c.toNat:Nat):Int)≤102)=true:=decide_eq_true (by omega)
  have ddge65:decide (65≤((c.toNat:Nat):Int))=false:=decide_eq_false (by omega)
  have ddle70:decide (((c.toNat:Nat):Int)≤70)=true:=decide_eq_true (by omega)
  have e2:IntKind.u8.wrap ((c.toNat:Int)-48)=(c.toNat:Int)-48:=by rw [IntKind.wrap_u8];omega
  go_enter Tryz.func100,Tryz.ntmps100
  go_wp2_with fail
  go_ret
  exact ⟨ret_int (by rw [HX.out]),Gr.refl _⟩
 by_cases c2:97≤c.toNat∧c.toNat≤102
 ·have HX:=hid (show hexJ c=(c.toNat:Int)-97+10 from by rw [HH.out,if_neg c1,if_pos c2];simp only;omega)
  obtain ⟨a1,a2⟩:=c2
  have ddge48:decide (48≤((c.toNat:Nat):Int))=true:=decide_eq_true (by omega)
  have ddle57:decide (((c.toNat:Nat):Int)≤57)=false:=decide_eq_false (by omega)
  have ddge97:decide (97≤((c.toNat:Nat):Int))=true:=decide_eq_true (by omega)
  have ddle102:decide (((c.toNat:Nat):Int)≤102)=true:=decide_eq_true (by omega)
  have ddge65:decide (65≤((c.toNat:Nat):Int))=true:=decide_eq_true (by omega)
  have ddle70:decide (((c.toNat:Nat):Int)≤70)=false:=decide_eq_false (by omega)
  have e2:IntKind.u8.wrap ((c.toNat:Int)-97)=(c.toNat:Int)-97:=by rw [IntKind.wrap_u8];omega
  go_enter Tryz.func100,Tryz.ntmps100
  go_wp2_with fail
  go_ret
  exact ⟨ret_int (by rw [HX.out]),Gr.refl _⟩
 by_cases c3:65≤c.toNat∧c.toNat≤70
 ·have HX:=hid (show hexJ c=(c.toNat:Int)-65+10 from by rw [HH.out,if_neg c1,if_neg c2,if_pos c3];simp only;omega)
  obtain ⟨a1,a2⟩:=c3
  have ddge48:decide (48≤((c.toNat:Nat):Int))=true:=decide_eq_true (by omega)
  have ddle57:decide (((c.toNat:Nat):Int)≤57)=false:=decide_eq_false (by omega)
  have ddge97:decide (97≤((c.toNat:Nat):Int))=false:=decide_eq_false (by omega)
  have ddle102:decide (((c.toNat:Nat):Int)≤102)=true:=decide_eq_true (by omega)
  have ddge65:decide (65≤((c.toNat:Nat):Int))=true:=decide_eq_true (by omega)
  have ddle70:decide (((c.toNat:Nat):Int)≤70)=true:=decide_eq_true (by omega)
  have e2:IntKind.u8.wrap ((c.toNat:Int)-65)=(c.toNat:Int)-65:=by rw [IntKind.wrap_u8];omega
  go_enter Tryz.func100,Tryz.ntmps100
  go_wp2_with fail
  go_ret
  exact ⟨ret_int (by rw [HX.out]),Gr.refl _⟩
 ·have HX:=hid (show hexJ c= -1 from by rw [HH.out,if_neg c1,if_neg c2,if_neg c3])
  by_cases b1:c.toNat < 48
  ·have ddge48:decide (48≤((c.toNat:Nat):Int))=false:=decide_eq_false (by omega)
   have ddle57:decide (((c.toNat:Nat):Int)≤57)=true:=decide_eq_true (by omega)
   have ddge97:decide (97≤((c.toNat:Nat):Int))=false:=decide_eq_false (by omega)
   have ddle102:decide (((c.toNat:Nat):Int)≤102)=true:=decide_eq_true (by omega)
   have ddge65:decide (65≤((c.toNat:Nat):Int))=false:=decide_eq_false (by omega)
   have ddle70:decide (((c.toNat:Nat):Int)≤70)=true:=decide_eq_true (by omega)
   go_enter Tryz.func100,Tryz.ntmps100
   go_wp2_with fail
   go_ret
   exact ⟨ret_int (by rw [HX.out]),Gr.refl _⟩
  by_cases b2:c.toNat < 65
  ·have ddge48:decide (48≤((c.toNat:Nat):Int))=true:=decide_eq_true (by omega)
   have ddle57:decide (((c.toNat:Nat):Int)≤57)=false:=decide_eq_false (by omega)
   have ddge97:decide (97≤((c.toNat:Nat):Int))=false:=decide_eq_false (by omega)
   have ddle102:decide (((c.toNat:Nat):Int)≤102)=true:=decide_eq_true (by omega)
   have ddge65:decide (65≤((c.toNat:Nat):Int))=false:=decide_eq_false (by omega)
   have ddle70:decide (((c.toNat:Nat):Int)≤70)=true:=decide_eq_true (by omega)
   go_enter Tryz.func100,Tryz.ntmps100
   go_wp2_with fail
   go_ret
   exact ⟨ret_int (by rw [HX.out]),Gr.refl _⟩
  by_cases b3:c.toNat < 97
  ·have ddge48:decide (48≤((c.toNat:Nat):Int))=true:=decide_eq_true (by omega)
   have ddle57:decide (((c.toNat:Nat):Int)≤57)=false:=decide_eq_false (by omega)
   have ddge97:decide (97≤((c.toNat:Nat):Int))=false:=decide_eq_false (by omega)
   have ddle102:decide (((c.toNat:Nat):Int)≤102)=true:=decide_eq_true (by omega)
   have ddge65:decide (65≤((c.toNat:Nat):Int))=true:=decide_eq_true (by omega)
   have ddle70:decide (((c.toNat:Nat):Int)≤70)=false:=decide_eq_false (by omega)
   go_enter Tryz.func100,Tryz.ntmps100
   go_wp2_with fail
   go_ret
   exact ⟨ret_int (by rw [HX.out]),Gr.refl _⟩
  have ddge48:decide (48≤((c.toNat:Nat):Int))=true:=decide_eq_true (by omega)
  have ddle57:decide (((c.toNat:Nat):Int)≤57)=false:=decide_eq_false (by omega)
  have ddge97:decide (97≤((c.toNat:Nat):Int))=true:=decide_eq_true (by omega)
  have ddle102:decide (((c.toNat:Nat):Int)≤102)=false:=decide_eq_false (by omega)
  have ddge65:decide (65≤((c.toNat:Nat):Int))=true:=decide_eq_true (by omega)
  have ddle70:decide (((c.toNat:Nat):Int)≤70)=false:=decide_eq_false (by omega)
  go_enter Tryz.func100,Tryz.ntmps100
  go_wp2_with fail
  go_ret
  exact ⟨ret_int (by rw [HX.out]),Gr.refl _⟩
set_option maxHeartbeats 4000000 in
set_option maxRecDepth 100000 in
theorem refPlain10_any (c:UInt8) (w:World):Calls Tryz.prog 133 #[.int .u8 c.toNat] w fun e w'=>e=.returned (.bool (visC c))∧Gr w w':=by
 have hc:c.toNat≤255:=by have:=c.toNat_lt;omega
 have HY:=hid (visC_yes c)
 have HN:=hid (visC_no c)
 by_cases b1:c.toNat < 9
 ·have HX:=hid (show visC c=false from HN.out (by omega))
  have ddge32:decide (32≤((c.toNat:Nat):Int))=false:=decide_eq_false (by omega)
  have ddle126:decide (((c.toNat:Nat):Int)≤126)=true:=decide_eq_true (by omega)
  have ddeq9:(((c.toNat:Nat):Int)==9)=false:=by simp;omega
  clear HY HN
  go_enter Tryz.func133,Tryz.ntmps133
  go_wp2_with fail
  go_ret
  rw [HX.out]
  exact ⟨rfl,Gr.refl _⟩
 by_cases b2:c.toNat=9
 ·have HX:=hid (show visC c=true from HY.out (by omega))
  have ddge32:decide (32≤((c.toNat:Nat):Int))=false:=decide_eq_false (by omega)
  have ddle126:decide (((c.toNat:Nat):Int)≤126)=true:=decide_eq_true (by omega)
  have ddeq9:(((c.toNat:Nat):Int)==9)=true:=by simp;omega
  clear HY HN
  go_enter Tryz.func133,Tryz.ntmps133
  go_wp2_with fail
  go_ret
  rw [HX.out]
  exact ⟨rfl,Gr.refl _⟩
 by_cases b3:c.toNat < 32
 ·have HX:=hid (show visC c=false from HN.out (by omega))
  have ddge32:decide (32≤((c.toNat:Nat):Int))=false:=decide_eq_false (by omega)
  have ddle126:decide (((c.toNat:Nat):Int)≤126)=true:=decide_eq_true (by omega)
  have ddeq9:(((c.toNat:Nat):Int)==9)=false:=by simp;omega
  clear HY HN
  go_enter Tryz.func133,Tryz.ntmps133
  go_wp2_with fail
  go_ret
  rw [HX.out]
  exact ⟨rfl,Gr.refl _⟩
 by_cases b4:c.toNat < 127
 ·have HX:=hid (show visC c=true from HY.out (by omega))
  have ddge32:decide (32≤((c.toNat:Nat):Int))=true:=decide_eq_true (by omega)
  have ddle126:decide (((c.toNat:Nat):Int)≤126)=true:=decide_eq_true (by omega)
  have ddeq9:(((c.toNat:Nat):Int)==9)=false:=by simp;omega
  clear HY HN
  go_enter Tryz.func133,Tryz.ntmps133
  go_wp2_with fail
  go_ret
  rw [HX.out]
  exact ⟨rfl,Gr.refl _⟩
 have HX:=hid (show visC c=false from HN.out (by omega))
 have ddge32:decide (32≤((c.toNat:Nat):Int))=true:=decide_eq_true (by omega)
 have ddle126:decide (((c.toNat:Nat):Int)≤126)=false:=decide_eq_false (by omega)
 have ddeq9:(((c.toNat:Nat):Int)==9)=false:=by simp;omega
 clear HY HN
 go_enter Tryz.func133,Tryz.ntmps133
 go_wp2_with fail
 go_ret
 rw [HX.out]
 exact ⟨rfl,Gr.refl _⟩
set_option maxHeartbeats 4000000 in
set_option maxRecDepth 100000 in
theorem text10_any (a b l d f:Int) (c:UInt8) (ok:Bool) (w:World) (hl:-1000≤l∧l≤1000) (hok:ok=(visC c&&decide (l+1≤200))):Calls Tryz.prog 101 #[.agg #[.int .i64 a,.int .i64 b,.int .i64 l,.int .i64 d,.int .i64 f],.int .u8 c.toNat] w fun e w'=>e=.returned (.tuple #[.agg #[.int .i64 a,.int .i64 b,.int .i64 (l+1),.int .i64 d,.int .i64 f],.bool ok])∧Gr w w':=by
 obtain ⟨hb,hy,hg⟩:=st10_start w #[.int .i64 a,.int .i64 b,.int .i64 l,.int .i64 d,.int .i64 f] #[.int .i64 0,.int .i64 0,.int .i64 0,.int .i64 0,.int .i64 0] 98
 have HPL:=hid (fun (x:World)=>refPlain10_any c x)
 generalize visC c=vc at *
 have e1:IntKind.i64.wrap (l+1)=l+1:=IntWalk.i64_in _ (by omega)
 go_enter Tryz.func101,Tryz.ntmps101
 go_upto_region 1 with fail
 generalize (w.alloc (Obj.cells #[.int .i64 a,.int .i64 b,.int .i64 l,.int .i64 d,.int .i64 f] 98)).alloc (Obj.cells #[.int .i64 0,.int .i64 0,.int .i64 0,.int .i64 0,.int .i64 0] 98)=w1 at *
 generalize hgq:w.heap.size=g at *
 have HGQ:=hid hgq
 have HB:=hid hb
 have HY:=hid hy
 have HG:=hid hg
 clear hb hy hg hgq
 obtain ⟨az0,az1,az2,az3,az4,af0,af1,af2,af3,af4⟩:=HB.out.all5
 go_upto_region 2 with fail
 refine at_world (P:=Code.wp _ _ _ _) (w0:=w1.setCell ⟨g,2,none⟩ (.int .i64 (l+1))) ?_
 intro w2 hw2
 have HB2:=hid (show Bk w2 g 98 #[.int .i64 a,.int .i64 b,.int .i64 (l+1),.int .i64 d,.int .i64 f] (0,0) from by rw [hw2];exact HB.out.set 2 _)
 have HY2:=hid (show Bk w2 (g+1) 98 #[.int .i64 0,.int .i64 0,.int .i64 0,.int .i64 0,.int .i64 0] (0,0) from by rw [hw2];exact HY.out.far (p:=⟨g,2,none⟩) (by simp) _)
 have HG2:=hid (show Gr w w2 from by rw [hw2];exact HG.out.st (p:=⟨g,2,none⟩) (by show w.heap.size≤g;have:=HGQ.out;omega) _)
 clear az0 af0 az1 af1 az2 af2 az3 af3 az4 af4
 clear hw2 HB HY HG
 have p0:=gx_cell (r:=some (g+1)) (show w2.cell? ⟨g,0,none⟩=some (.int .i64 a) from HB2.out.cell 0) (by simp)
 have p1:=gx_cell (r:=some (g+1)) (show w2.cell? ⟨g,1,none⟩=some (.int .i64 b) from HB2.out.cell 1) (by simp)
 have p2:=gx_cell (r:=some (g+1)) (show w2.cell? ⟨g,2,none⟩=some (.int .i64 (l+1)) from HB2.out.cell 2) (by simp)
 have p3:=gx_cell (r:=some (g+1)) (show w2.cell? ⟨g,3,none⟩=some (.int .i64 d) from HB2.out.cell 3) (by simp)
 have p4:=gx_cell (r:=some (g+1)) (show w2.cell? ⟨g,4,none⟩=some (.int .i64 f) from HB2.out.cell 4) (by simp)
 cases vc
 all_goals
  simp only [Bool.false_and,Bool.true_and] at hok
  refine wp_region_mix [0,1,2,3,4,5,6,7] (some (g+1)) 2 (by kernel_rfl) rfl (by kernel_rfl) (fun o _ _ _ _ h=>by cases o <;> exact h) ?_
  simp only [pickOps,List.filterMap_cons,List.filterMap_nil,List.getElem?_cons_zero,List.getElem?_cons_succ]
  repeat (first | (refine wpGq_step (fun K hK=>?_);go_simp;refine hK _ ?_;clear hK K) | (refine wpGq_step (fun K hK=>?_);go_simp;simp only [↓IntWalk.iteOmega];go_simp;refine hK _ ?_;clear hK K) | (refine wpGq_step (fun K hK=>?_);go_simp;apply Exists.intro;refine ⟨fun _=>?_,hK _ ?_⟩;(go_at_call 133;exact HPL.out _);clear hK K))
  refine wpGq_nil ?_
  refine wpG_one 8 (by kernel_rfl) rfl rfl (fun K hK wa hga=>?_)
  have HYa:=hid (HY2.out.gr hga)
  obtain ⟨y0,y1,y2,y3,y4,q0,q1,q2,q3,q4⟩:=HYa.out.all5
  go_simp
  refine hK _ _ (putCs_by17 [.int .i64 a,.int .i64 b,.int .i64 (l+1),.int .i64 d,.int .i64 f] 0 _ _ (hga.by _)) ?_
  clear hK K
  refine wpG_quiet [9] 0 (putCs_by17 [.int .i64 a,.int .i64 b,.int .i64 (l+1),.int .i64 d,.int .i64 f] 0 _ _ (hga.by _)) rfl (by kernel_rfl) (fun o _ _ _ _ h=>by cases o <;> exact h) ?_
  simp only [pickOps,List.filterMap_cons,List.filterMap_nil,List.getElem?_cons_zero,List.getElem?_cons_succ]
  repeat (first | (refine wpGq_step (fun K hK=>?_);go_simp;refine hK _ ?_;clear hK K) | (refine wpGq_step (fun K hK=>?_);go_simp;simp only [↓IntWalk.iteOmega];go_simp;refine hK _ ?_;clear hK K) | (refine wpGq_step (fun K hK=>?_);go_simp;apply Exists.intro;refine ⟨fun _=>?_,hK _ ?_⟩;fail;clear hK K))
  refine wpGq_nil ?_
  refine wpG_done (by kernel_rfl) (fun wz hgz=>?_)
  have hyy:Bk wz (g+1) 98 #[.int .i64 a,.int .i64 b,.int .i64 (l+1),.int .i64 d,.int .i64 f] (0,0):=(putCs_bk HYa.out rfl:Bk (putCs wa (g+1) [.int .i64 a,.int .i64 b,.int .i64 (l+1),.int .i64 d,.int .i64 f] 0) _ _ _ _).gr hgz
  have hgy:Gr w wz:=Gr.tr (putCs_gr (by have:=HGQ.out;omega) [.int .i64 a,.int .i64 b,.int .i64 (l+1),.int .i64 d,.int .i64 f] 0 _ (Gr.tr HG2.out hga)) hgz
  have yy0:wz.cell? ⟨g+1,0,none⟩=some (.int .i64 a):=hyy.cell 0
  have yy1:wz.cell? ⟨g+1,1,none⟩=some (.int .i64 b):=hyy.cell 1
  have yy2:wz.cell? ⟨g+1,2,none⟩=some (.int .i64 (l+1)):=hyy.cell 2
  have yy3:wz.cell? ⟨g+1,3,none⟩=some (.int .i64 d):=hyy.cell 3
  have yy4:wz.cell? ⟨g+1,4,none⟩=some (.int .i64 f):=hyy.cell 4
  clear p0 p1 p2 p3 p4 y0 y1 y2 y3 y4 q0 q1 q2 q3 q4
  go_wp2_with fail
  refine bodyPost_ret (v:=.tuple #[.agg #[.int .i64 a,.int .i64 b,.int .i64 (l+1),.int .i64 d,.int .i64 f],.bool ok]) (by subst hok;simp [results,Tryz.results101,go_sem,yy0,yy1,yy2,yy3,yy4]) rfl ⟨rfl,hgy⟩
set_option maxHeartbeats 4000000 in
set_option maxRecDepth 100000 in
theorem st10_a (dg ln lns:Nat) (lf:Int) (c:UInt8) (w:World) (h1:c.toNat=13):Calls Tryz.prog 72 #[.agg #[.int .i64 0,.int .i64 (dg:Nat),.int .i64 (ln:Nat),.int .i64 (lns:Nat),.int .i64 lf],.int .u8 c.toNat] w (St10 w #[.int .i64 2,.int .i64 (dg:Nat),.int .i64 (ln:Nat),.int .i64 (lns:Nat),.int .i64 lf] false (decide (0 < ((dg:Nat):Int)))):=by
 have d13:((c.toNat:Int)==13)=true:=by simp;omega
 clear h1
 obtain ⟨hb,hy,hg⟩:=st10_start w #[.int .i64 0,.int .i64 (dg:Nat),.int .i64 (ln:Nat),.int .i64 (lns:Nat),.int .i64 lf] #[.int .i64 0,.int .i64 0,.int .i64 0,.int .i64 0,.int .i64 0] 98
 go_enter Tryz.func72,Tryz.ntmps72
 go_upto_region 1 with fail
 generalize (w.alloc (Obj.cells #[.int .i64 0,.int .i64 (dg:Nat),.int .i64 (ln:Nat),.int .i64 (lns:Nat),.int .i64 lf] 98)).alloc (Obj.cells #[.int .i64 0,.int .i64 0,.int .i64 0,.int .i64 0,.int .i64 0] 98)=w1 at *
 generalize hgq:w.heap.size=g at *
 have HGQ:=hid hgq
 have HB:=hid hb
 have HY:=hid hy
 have HG:=hid hg
 clear hb hy hg hgq
 obtain ⟨az0,az1,az2,az3,az4,af0,af1,af2,af3,af4⟩:=HB.out.all5
 go_upto_region 5 with fail
 refine at_world (P:=Code.wp _ _ _ _) (w0:=(w1.setCell ⟨g,0,none⟩ (.int .i64 2))) ?_
 intro w2 hw2
 have HB2:=hid (show Bk w2 g 98 #[.int .i64 2,.int .i64 (dg:Nat),.int .i64 (ln:Nat),.int .i64 (lns:Nat),.int .i64 lf] (0,0) from by rw [hw2];exact (HB.out.set 0 (.int .i64 2)))
 have HY2:=hid (show Bk w2 (g+1) 98 #[.int .i64 0,.int .i64 0,.int .i64 0,.int .i64 0,.int .i64 0] (0,0) from by rw [hw2];exact (HY.out.far (p:=⟨g,0,none⟩) (by simp) (.int .i64 2)))
 have HG2:=hid (show Gr w w2 from by rw [hw2];exact (HG.out.st (p:=⟨g,0,none⟩) (by show w.heap.size≤g;have:=HGQ.out;omega) (.int .i64 2)))
 clear az0 af0 az1 af1 az2 af2 az3 af3 az4 af4
 clear hw2 HB HY HG
 obtain ⟨bz0,bz1,bz2,bz3,bz4,bf0,bf1,bf2,bf3,bf4⟩:=HB2.out.all5
 obtain ⟨yz0,yz1,yz2,yz3,yz4,yf0,yf1,yf2,yf3,yf4⟩:=HY2.out.all5
 go_region
 go_wp2_with fail
 refine at_world (P:=bodyPost _ _ _ _ _) (w0:=(putCs w2 (g+1) [.int .i64 2,.int .i64 (dg:Nat),.int .i64 (ln:Nat),.int .i64 (lns:Nat),.int .i64 lf] 0).drew) ?_
 intro wy hwy
 obtain ⟨u0,u1,u2,u3,u4,hgy⟩:=put5d hwy HY2.out HG2.out (by have:=HGQ.out;omega)
 refine bodyPost_ret (v:=.tuple #[.agg #[.int .i64 2,.int .i64 (dg:Nat),.int .i64 (ln:Nat),.int .i64 (lns:Nat),.int .i64 lf],.bool false,.bool (decide (0 < ((dg:Nat):Int)))]) (by simp [results,Tryz.results72,go_sem,u0,u1,u2,u3,u4]) rfl ⟨rfl,hgy⟩
set_option maxHeartbeats 4000000 in
set_option maxRecDepth 100000 in
theorem st10_b (dg ln lns:Nat) (lf:Int) (c:UInt8) (w:World) (h1:c.toNat=59) (h2:0 < dg) (h3:ln≤200):Calls Tryz.prog 72 #[.agg #[.int .i64 0,.int .i64 (dg:Nat),.int .i64 (ln:Nat),.int .i64 (lns:Nat),.int .i64 lf],.int .u8 c.toNat] w (St10 w #[.int .i64 1,.int .i64 (dg:Nat),.int .i64 ((ln:Nat)+1),.int .i64 (lns:Nat),.int .i64 lf] false (decide (((ln:Nat):Int)+1≤200))):=by
 have d13:((c.toNat:Int)==13)=false:=by simp;omega
 have d59:((c.toNat:Int)==59)=true:=by simp;omega
 clear h1
 obtain ⟨hb,hy,hg⟩:=st10_start w #[.int .i64 0,.int .i64 (dg:Nat),.int .i64 (ln:Nat),.int .i64 (lns:Nat),.int .i64 lf] #[.int .i64 0,.int .i64 0,.int .i64 0,.int .i64 0,.int .i64 0] 98
 go_enter Tryz.func72,Tryz.ntmps72
 go_upto_region 1 with fail
 generalize (w.alloc (Obj.cells #[.int .i64 0,.int .i64 (dg:Nat),.int .i64 (ln:Nat),.int .i64 (lns:Nat),.int .i64 lf] 98)).alloc (Obj.cells #[.int .i64 0,.int .i64 0,.int .i64 0,.int .i64 0,.int .i64 0] 98)=w1 at *
 generalize hgq:w.heap.size=g at *
 have HGQ:=hid hgq
 have HB:=hid hb
 have HY:=hid hy
 have HG:=hid hg
 clear hb hy hg hgq
 obtain ⟨az0,az1,az2,az3,az4,af0,af1,af2,af3,af4⟩:=HB.out.all5
 go_upto_region 9 with fail
 refine at_world (P:=Code.wp _ _ _ _) (w0:=((w1.setCell ⟨g,0,none⟩ (.int .i64 1)).setCell ⟨g,2,none⟩ (.int .i64 ((ln:Nat)+1)))) ?_
 intro w2 hw2
 have HB2:=hid (show Bk w2 g 98 #[.int .i64 1,.int .i64 (dg:Nat),.int .i64 ((ln:Nat)+1),.int .i64 (lns:Nat),.int .i64 lf] (0,0) from by rw [hw2];exact ((HB.out.set 0 (.int .i64 1)).set 2 (.int .i64 ((ln:Nat)+1))))
 have HY2:=hid (show Bk w2 (g+1) 98 #[.int .i64 0,.int .i64 0,.int .i64 0,.int .i64 0,.int .i64 0] (0,0) from by rw [hw2];exact ((HY.out.far (p:=⟨g,0,none⟩) (by simp) (.int .i64 1)).far (p:=⟨g,2,none⟩) (by simp) (.int .i64 ((ln:Nat)+1))))
 have HG2:=hid (show Gr w w2 from by rw [hw2];exact ((HG.out.st (p:=⟨g,0,none⟩) (by show w.heap.size≤g;have:=HGQ.out;omega) (.int .i64 1)).st (p:=⟨g,2,none⟩) (by show w.heap.size≤g;have:=HGQ.out;omega) (.int .i64 ((ln:Nat)+1))))
 clear az0 af0 az1 af1 az2 af2 az3 af3 az4 af4
 clear hw2 HB HY HG
 obtain ⟨bz0,bz1,bz2,bz3,bz4,bf0,bf1,bf2,bf3,bf4⟩:=HB2.out.all5
 obtain ⟨yz0,yz1,yz2,yz3,yz4,yf0,yf1,yf2,yf3,yf4⟩:=HY2.out.all5
 go_region
 go_wp2_with fail
 refine at_world (P:=bodyPost _ _ _ _ _) (w0:=(putCs w2 (g+1) [.int .i64 1,.int .i64 (dg:Nat),.int .i64 ((ln:Nat)+1),.int .i64 (lns:Nat),.int .i64 lf] 0).drew) ?_
 intro wy hwy
 obtain ⟨u0,u1,u2,u3,u4,hgy⟩:=put5d hwy HY2.out HG2.out (by have:=HGQ.out;omega)
 refine bodyPost_ret (v:=.tuple #[.agg #[.int .i64 1,.int .i64 (dg:Nat),.int .i64 ((ln:Nat)+1),.int .i64 (lns:Nat),.int .i64 lf],.bool false,.bool (decide (((ln:Nat):Int)+1≤200))]) (by simp [results,Tryz.results72,go_sem,u0,u1,u2,u3,u4]) rfl ⟨rfl,hgy⟩
set_option maxHeartbeats 4000000 in
set_option maxRecDepth 100000 in
theorem st10_d (dg ln lns:Nat) (lf:Int) (c:UInt8) (w:World) (h1:c.toNat=13):Calls Tryz.prog 72 #[.agg #[.int .i64 1,.int .i64 (dg:Nat),.int .i64 (ln:Nat),.int .i64 (lns:Nat),.int .i64 lf],.int .u8 c.toNat] w (St10 w #[.int .i64 2,.int .i64 (dg:Nat),.int .i64 (ln:Nat),.int .i64 (lns:Nat),.int .i64 lf] false (true)):=by
 have d13:((c.toNat:Int)==13)=true:=by simp;omega
 clear h1
 obtain ⟨hb,hy,hg⟩:=st10_start w #[.int .i64 1,.int .i64 (dg:Nat),.int .i64 (ln:Nat),.int .i64 (lns:Nat),.int .i64 lf] #[.int .i64 0,.int .i64 0,.int .i64 0,.int .i64 0,.int .i64 0] 98
 go_enter Tryz.func72,Tryz.ntmps72
 go_upto_region 1 with fail
 generalize (w.alloc (Obj.cells #[.int .i64 1,.int .i64 (dg:Nat),.int .i64 (ln:Nat),.int .i64 (lns:Nat),.int .i64 lf] 98)).alloc (Obj.cells #[.int .i64 0,.int .i64 0,.int .i64 0,.int .i64 0,.int .i64 0] 98)=w1 at *
 generalize hgq:w.heap.size=g at *
 have HGQ:=hid hgq
 have HB:=hid hb
 have HY:=hid hy
 have HG:=hid hg
 clear hb hy hg hgq
 obtain ⟨az0,az1,az2,az3,az4,af0,af1,af2,af3,af4⟩:=HB.out.all5
 go_upto_region 18 with fail
 refine at_world (P:=Code.wp _ _ _ _) (w0:=(w1.setCell ⟨g,0,none⟩ (.int .i64 2))) ?_
 intro w2 hw2
 have HB2:=hid (show Bk w2 g 98 #[.int .i64 2,.int .i64 (dg:Nat),.int .i64 (ln:Nat),.int .i64 (lns:Nat),.int .i64 lf] (0,0) from by rw [hw2];exact (HB.out.set 0 (.int .i64 2)))
 have HY2:=hid (show Bk w2 (g+1) 98 #[.int .i64 0,.int .i64 0,.int .i64 0,.int .i64 0,.int .i64 0] (0,0) from by rw [hw2];exact (HY.out.far (p:=⟨g,0,none⟩) (by simp) (.int .i64 2)))
 have HG2:=hid (show Gr w w2 from by rw [hw2];exact (HG.out.st (p:=⟨g,0,none⟩) (by show w.heap.size≤g;have:=HGQ.out;omega) (.int .i64 2)))
 clear az0 af0 az1 af1 az2 af2 az3 af3 az4 af4
 clear hw2 HB HY HG
 obtain ⟨bz0,bz1,bz2,bz3,bz4,bf0,bf1,bf2,bf3,bf4⟩:=HB2.out.all5
 obtain ⟨yz0,yz1,yz2,yz3,yz4,yf0,yf1,yf2,yf3,yf4⟩:=HY2.out.all5
 go_wp2_with fail
 refine at_world (P:=bodyPost _ _ _ _ _) (w0:=(putCs w2 (g+1) [.int .i64 2,.int .i64 (dg:Nat),.int .i64 (ln:Nat),.int .i64 (lns:Nat),.int .i64 lf] 0)) ?_
 intro wy hwy
 obtain ⟨u0,u1,u2,u3,u4,hgy⟩:=put5 hwy HY2.out HG2.out (by have:=HGQ.out;omega)
 refine bodyPost_ret (v:=.tuple #[.agg #[.int .i64 2,.int .i64 (dg:Nat),.int .i64 (ln:Nat),.int .i64 (lns:Nat),.int .i64 lf],.bool false,.bool (true)]) (by simp [results,Tryz.results72,go_sem,u0,u1,u2,u3,u4]) rfl ⟨rfl,hgy⟩
set_option maxHeartbeats 4000000 in
set_option maxRecDepth 100000 in
theorem st10_f0 (dg ln lns:Nat) (lf:Int) (c:UInt8) (w:World) (h1:lf=0):Calls Tryz.prog 72 #[.agg #[.int .i64 2,.int .i64 (dg:Nat),.int .i64 (ln:Nat),.int .i64 (lns:Nat),.int .i64 lf],.int .u8 c.toNat] w (St10 w #[.int .i64 6,.int .i64 (dg:Nat),.int .i64 0,.int .i64 (lns:Nat),.int .i64 lf] false (((c.toNat:Int)==10))):=by
 have dz:(lf==0)=true:=by simp [h1]
 clear h1
 obtain ⟨hb,hy,hg⟩:=st10_start w #[.int .i64 2,.int .i64 (dg:Nat),.int .i64 (ln:Nat),.int .i64 (lns:Nat),.int .i64 lf] #[.int .i64 0,.int .i64 0,.int .i64 0,.int .i64 0,.int .i64 0] 98
 go_enter Tryz.func72,Tryz.ntmps72
 go_upto_region 1 with fail
 generalize (w.alloc (Obj.cells #[.int .i64 2,.int .i64 (dg:Nat),.int .i64 (ln:Nat),.int .i64 (lns:Nat),.int .i64 lf] 98)).alloc (Obj.cells #[.int .i64 0,.int .i64 0,.int .i64 0,.int .i64 0,.int .i64 0] 98)=w1 at *
 generalize hgq:w.heap.size=g at *
 have HGQ:=hid hgq
 have HB:=hid hb
 have HY:=hid hy
 have HG:=hid hg
 clear hb hy hg hgq
 obtain ⟨az0,az1,az2,az3,az4,af0,af1,af2,af3,af4⟩:=HB.out.all5
 go_upto_region 26 with fail
 refine at_world (P:=Code.wp _ _ _ _) (w0:=(((w1.setCell ⟨g,0,none⟩ (.int .i64 3)).setCell ⟨g,0,none⟩ (.int .i64 6)).setCell ⟨g,2,none⟩ (.int .i64 0))) ?_
 intro w2 hw2
 have HB2:=hid (show Bk w2 g 98 #[.int .i64 6,.int .i64 (dg:Nat),.int .i64 0,.int .i64 (lns:Nat),.int .i64 lf] (0,0) from by rw [hw2];exact (((HB.out.set 0 (.int .i64 3)).set 0 (.int .i64 6)).set 2 (.int .i64 0)))
 have HY2:=hid (show Bk w2 (g+1) 98 #[.int .i64 0,.int .i64 0,.int .i64 0,.int .i64 0,.int .i64 0] (0,0) from by rw [hw2];exact (((HY.out.far (p:=⟨g,0,none⟩) (by simp) (.int .i64 3)).far (p:=⟨g,0,none⟩) (by simp) (.int .i64 6)).far (p:=⟨g,2,none⟩) (by simp) (.int .i64 0)))
 have HG2:=hid (show Gr w w2 from by rw [hw2];exact (((HG.out.st (p:=⟨g,0,none⟩) (by show w.heap.size≤g;have:=HGQ.out;omega) (.int .i64 3)).st (p:=⟨g,0,none⟩) (by show w.heap.size≤g;have:=HGQ.out;omega) (.int .i64 6)).st (p:=⟨g,2,none⟩) (by show w.heap.size≤g;have:=HGQ.out;omega) (.int .i64 0)))
 clear az0 af0 az1 af1 az2 af2 az3 af3 az4 af4
 clear hw2 HB HY HG
 obtain ⟨bz0,bz1,bz2,bz3,bz4,bf0,bf1,bf2,bf3,bf4⟩:=HB2.out.all5
 obtain ⟨yz0,yz1,yz2,yz3,yz4,yf0,yf1,yf2,yf3,yf4⟩:=HY2.out.all5
 go_wp2_with fail
 refine at_world (P:=bodyPost _ _ _ _ _) (w0:=(putCs w2 (g+1) [.int .i64 6,.int .i64 (dg:Nat),.int .i64 0,.int .i64 (lns:Nat),.int .i64 lf] 0)) ?_
 intro wy hwy
 obtain ⟨u0,u1,u2,u3,u4,hgy⟩:=put5 hwy HY2.out HG2.out (by have:=HGQ.out;omega)
 refine bodyPost_ret (v:=.tuple #[.agg #[.int .i64 6,.int .i64 (dg:Nat),.int .i64 0,.int .i64 (lns:Nat),.int .i64 lf],.bool false,.bool (((c.toNat:Int)==10))]) (by simp [results,Tryz.results72,go_sem,u0,u1,u2,u3,u4]) rfl ⟨rfl,hgy⟩
set_option maxHeartbeats 4000000 in
set_option maxRecDepth 100000 in
theorem st10_f1 (dg ln lns:Nat) (lf:Int) (c:UInt8) (w:World) (h1:lf≠0):Calls Tryz.prog 72 #[.agg #[.int .i64 2,.int .i64 (dg:Nat),.int .i64 (ln:Nat),.int .i64 (lns:Nat),.int .i64 lf],.int .u8 c.toNat] w (St10 w #[.int .i64 3,.int .i64 (dg:Nat),.int .i64 0,.int .i64 (lns:Nat),.int .i64 lf] false (((c.toNat:Int)==10))):=by
 have dz:(lf==0)=false:=by simp [h1]
 clear h1
 obtain ⟨hb,hy,hg⟩:=st10_start w #[.int .i64 2,.int .i64 (dg:Nat),.int .i64 (ln:Nat),.int .i64 (lns:Nat),.int .i64 lf] #[.int .i64 0,.int .i64 0,.int .i64 0,.int .i64 0,.int .i64 0] 98
 go_enter Tryz.func72,Tryz.ntmps72
 go_upto_region 1 with fail
 generalize (w.alloc (Obj.cells #[.int .i64 2,.int .i64 (dg:Nat),.int .i64 (ln:Nat),.int .i64 (lns:Nat),.int .i64 lf] 98)).alloc (Obj.cells #[.int .i64 0,.int .i64 0,.int .i64 0,.int .i64 0,.int .i64 0] 98)=w1 at *
 generalize hgq:w.heap.size=g at *
 have HGQ:=hid hgq
 have HB:=hid hb
 have HY:=hid hy
 have HG:=hid hg
 clear hb hy hg hgq
 obtain ⟨az0,az1,az2,az3,az4,af0,af1,af2,af3,af4⟩:=HB.out.all5
 go_upto_region 26 with fail
 refine at_world (P:=Code.wp _ _ _ _) (w0:=((w1.setCell ⟨g,0,none⟩ (.int .i64 3)).setCell ⟨g,2,none⟩ (.int .i64 0))) ?_
 intro w2 hw2
 have HB2:=hid (show Bk w2 g 98 #[.int .i64 3,.int .i64 (dg:Nat),.int .i64 0,.int .i64 (lns:Nat),.int .i64 lf] (0,0) from by rw [hw2];exact ((HB.out.set 0 (.int .i64 3)).set 2 (.int .i64 0)))
 have HY2:=hid (show Bk w2 (g+1) 98 #[.int .i64 0,.int .i64 0,.int .i64 0,.int .i64 0,.int .i64 0] (0,0) from by rw [hw2];exact ((HY.out.far (p:=⟨g,0,none⟩) (by simp) (.int .i64 3)).far (p:=⟨g,2,none⟩) (by simp) (.int .i64 0)))
 have HG2:=hid (show Gr w w2 from by rw [hw2];exact ((HG.out.st (p:=⟨g,0,none⟩) (by show w.heap.size≤g;have:=HGQ.out;omega) (.int .i64 3)).st (p:=⟨g,2,none⟩) (by show w.heap.size≤g;have:=HGQ.out;omega) (.int .i64 0)))
 clear az0 af0 az1 af1 az2 af2 az3 af3 az4 af4
 clear hw2 HB HY HG
 obtain ⟨bz0,bz1,bz2,bz3,bz4,bf0,bf1,bf2,bf3,bf4⟩:=HB2.out.all5
 obtain ⟨yz0,yz1,yz2,yz3,yz4,yf0,yf1,yf2,yf3,yf4⟩:=HY2.out.all5
 go_wp2_with fail
 refine at_world (P:=bodyPost _ _ _ _ _) (w0:=(putCs w2 (g+1) [.int .i64 3,.int .i64 (dg:Nat),.int .i64 0,.int .i64 (lns:Nat),.int .i64 lf] 0)) ?_
 intro wy hwy
 obtain ⟨u0,u1,u2,u3,u4,hgy⟩:=put5 hwy HY2.out HG2.out (by have:=HGQ.out;omega)
 refine bodyPost_ret (v:=.tuple #[.agg #[.int .i64 3,.int .i64 (dg:Nat),.int .i64 0,.int .i64 (lns:Nat),.int .i64 lf],.bool false,.bool (((c.toNat:Int)==10))]) (by simp [results,Tryz.results72,go_sem,u0,u1,u2,u3,u4]) rfl ⟨rfl,hgy⟩
set_option maxHeartbeats 4000000 in
set_option maxRecDepth 100000 in
theorem st10_g0 (dg ln lns:Nat) (lf:Int) (c:UInt8) (w:World) (h1:lf-1=0) (h2:0≤lf) (h3:lf≤2305843009213693952):Calls Tryz.prog 72 #[.agg #[.int .i64 3,.int .i64 (dg:Nat),.int .i64 (ln:Nat),.int .i64 (lns:Nat),.int .i64 lf],.int .u8 c.toNat] w (St10 w #[.int .i64 4,.int .i64 (dg:Nat),.int .i64 (ln:Nat),.int .i64 (lns:Nat),.int .i64 (lf-1)] true (true)):=by
 have e1:IntKind.i64.wrap (lf-1)=lf-1:=IntWalk.i64_in _ (by omega)
 have dz:((lf-1)==0)=true:=by simp [h1]
 clear h1
 obtain ⟨hb,hy,hg⟩:=st10_start w #[.int .i64 3,.int .i64 (dg:Nat),.int .i64 (ln:Nat),.int .i64 (lns:Nat),.int .i64 lf] #[.int .i64 0,.int .i64 0,.int .i64 0,.int .i64 0,.int .i64 0] 98
 go_enter Tryz.func72,Tryz.ntmps72
 go_upto_region 1 with fail
 generalize (w.alloc (Obj.cells #[.int .i64 3,.int .i64 (dg:Nat),.int .i64 (ln:Nat),.int .i64 (lns:Nat),.int .i64 lf] 98)).alloc (Obj.cells #[.int .i64 0,.int .i64 0,.int .i64 0,.int .i64 0,.int .i64 0] 98)=w1 at *
 generalize hgq:w.heap.size=g at *
 have HGQ:=hid hgq
 have HB:=hid hb
 have HY:=hid hy
 have HG:=hid hg
 clear hb hy hg hgq
 obtain ⟨az0,az1,az2,az3,az4,af0,af1,af2,af3,af4⟩:=HB.out.all5
 go_upto_region 31 with fail
 refine at_world (P:=Code.wp _ _ _ _) (w0:=((w1.setCell ⟨g,4,none⟩ (.int .i64 (lf-1))).setCell ⟨g,0,none⟩ (.int .i64 4))) ?_
 intro w2 hw2
 have HB2:=hid (show Bk w2 g 98 #[.int .i64 4,.int .i64 (dg:Nat),.int .i64 (ln:Nat),.int .i64 (lns:Nat),.int .i64 (lf-1)] (0,0) from by rw [hw2];exact ((HB.out.set 4 (.int .i64 (lf-1))).set 0 (.int .i64 4)))
 have HY2:=hid (show Bk w2 (g+1) 98 #[.int .i64 0,.int .i64 0,.int .i64 0,.int .i64 0,.int .i64 0] (0,0) from by rw [hw2];exact ((HY.out.far (p:=⟨g,4,none⟩) (by simp) (.int .i64 (lf-1))).far (p:=⟨g,0,none⟩) (by simp) (.int .i64 4)))
 have HG2:=hid (show Gr w w2 from by rw [hw2];exact ((HG.out.st (p:=⟨g,4,none⟩) (by show w.heap.size≤g;have:=HGQ.out;omega) (.int .i64 (lf-1))).st (p:=⟨g,0,none⟩) (by show w.heap.size≤g;have:=HGQ.out;omega) (.int .i64 4)))
 clear az0 af0 az1 af1 az2 af2 az3 af3 az4 af4
 clear hw2 HB HY HG
 obtain ⟨bz0,bz1,bz2,bz3,bz4,bf0,bf1,bf2,bf3,bf4⟩:=HB2.out.all5
 obtain ⟨yz0,yz1,yz2,yz3,yz4,yf0,yf1,yf2,yf3,yf4⟩:=HY2.out.all5
 go_wp2_with fail
 refine at_world (P:=bodyPost _ _ _ _ _) (w0:=(putCs w2 (g+1) [.int .i64 4,.int .i64 (dg:Nat),.int .i64 (ln:Nat),.int .i64 (lns:Nat),.int .i64 (lf-1)] 0)) ?_
 intro wy hwy
 obtain ⟨u0,u1,u2,u3,u4,hgy⟩:=put5 hwy HY2.out HG2.out (by have:=HGQ.out;omega)
 refine bodyPost_ret (v:=.tuple #[.agg #[.int .i64 4,.int .i64 (dg:Nat),.int .i64 (ln:Nat),.int .i64 (lns:Nat),.int .i64 (lf-1)],.bool true,.bool (true)]) (by simp [results,Tryz.results72,go_sem,u0,u1,u2,u3,u4]) rfl ⟨rfl,hgy⟩
set_option maxHeartbeats 4000000 in
set_option maxRecDepth 100000 in
theorem st10_g1 (dg ln lns:Nat) (lf:Int) (c:UInt8) (w:World) (h1:lf-1≠0) (h2:0≤lf) (h3:lf≤2305843009213693952):Calls Tryz.prog 72 #[.agg #[.int .i64 3,.int .i64 (dg:Nat),.int .i64 (ln:Nat),.int .i64 (lns:Nat),.int .i64 lf],.int .u8 c.toNat] w (St10 w #[.int .i64 3,.int .i64 (dg:Nat),.int .i64 (ln:Nat),.int .i64 (lns:Nat),.int .i64 (lf-1)] true (true)):=by
 have e1:IntKind.i64.wrap (lf-1)=lf-1:=IntWalk.i64_in _ (by omega)
 have dz:((lf-1)==0)=false:=by simp [h1]
 clear h1
 obtain ⟨hb,hy,hg⟩:=st10_start w #[.int .i64 3,.int .i64 (dg:Nat),.int .i64 (ln:Nat),.int .i64 (lns:Nat),.int .i64 lf] #[.int .i64 0,.int .i64 0,.int .i64 0,.int .i64 0,.int .i64 0] 98
 go_enter Tryz.func72,Tryz.ntmps72
 go_upto_region 1 with fail
 generalize (w.alloc (Obj.cells #[.int .i64 3,.int .i64 (dg:Nat),.int .i64 (ln:Nat),.int .i64 (lns:Nat),.int .i64 lf] 98)).alloc (Obj.cells #[.int .i64 0,.int .i64 0,.int .i64 0,.int .i64 0,.int .i64 0] 98)=w1 at *
 generalize hgq:w.heap.size=g at *
 have HGQ:=hid hgq
 have HB:=hid hb
 have HY:=hid hy
 have HG:=hid hg
 clear hb hy hg hgq
 obtain ⟨az0,az1,az2,az3,az4,af0,af1,af2,af3,af4⟩:=HB.out.all5
 go_upto_region 31 with fail
 refine at_world (P:=Code.wp _ _ _ _) (w0:=(w1.setCell ⟨g,4,none⟩ (.int .i64 (lf-1)))) ?_
 intro w2 hw2
 have HB2:=hid (show Bk w2 g 98 #[.int .i64 3,.int .i64 (dg:Nat),.int .i64 (ln:Nat),.int .i64 (lns:Nat),.int .i64 (lf-1)] (0,0) from by rw [hw2];exact (HB.out.set 4 (.int .i64 (lf-1))))
 have HY2:=hid (show Bk w2 (g+1) 98 #[.int .i64 0,.int .i64 0,.int .i64 0,.int .i64 0,.int .i64 0] (0,0) from by rw [hw2];exact (HY.out.far (p:=⟨g,4,none⟩) (by simp) (.int .i64 (lf-1))))
 have HG2:=hid (show Gr w w2 from by rw [hw2];exact (HG.out.st (p:=⟨g,4,none⟩) (by show w.heap.size≤g;have:=HGQ.out;omega) (.int .i64 (lf-1))))
 clear az0 af0 az1 af1 az2 af2 az3 af3 az4 af4
 clear hw2 HB HY HG
 obtain ⟨bz0,bz1,bz2,bz3,bz4,bf0,bf1,bf2,bf3,bf4⟩:=HB2.out.all5
 obtain ⟨yz0,yz1,yz2,yz3,yz4,yf0,yf1,yf2,yf3,yf4⟩:=HY2.out.all5
 go_wp2_with fail
 refine at_world (P:=bodyPost _ _ _ _ _) (w0:=(putCs w2 (g+1) [.int .i64 3,.int .i64 (dg:Nat),.int .i64 (ln:Nat),.int .i64 (lns:Nat),.int .i64 (lf-1)] 0)) ?_
 intro wy hwy
 obtain ⟨u0,u1,u2,u3,u4,hgy⟩:=put5 hwy HY2.out HG2.out (by have:=HGQ.out;omega)
 refine bodyPost_ret (v:=.tuple #[.agg #[.int .i64 3,.int .i64 (dg:Nat),.int .i64 (ln:Nat),.int .i64 (lns:Nat),.int .i64 (lf-1)],.bool true,.bool (true)]) (by simp [results,Tryz.results72,go_sem,u0,u1,u2,u3,u4]) rfl ⟨rfl,hgy⟩
set_option maxHeartbeats 4000000 in
set_option maxRecDepth 100000 in
theorem st10_h (dg ln lns:Nat) (lf:Int) (c:UInt8) (w:World):Calls Tryz.prog 72 #[.agg #[.int .i64 4,.int .i64 (dg:Nat),.int .i64 (ln:Nat),.int .i64 (lns:Nat),.int .i64 lf],.int .u8 c.toNat] w (St10 w #[.int .i64 5,.int .i64 (dg:Nat),.int .i64 (ln:Nat),.int .i64 (lns:Nat),.int .i64 lf] false (((c.toNat:Int)==13))):=by
 obtain ⟨hb,hy,hg⟩:=st10_start w #[.int .i64 4,.int .i64 (dg:Nat),.int .i64 (ln:Nat),.int .i64 (lns:Nat),.int .i64 lf] #[.int .i64 0,.int .i64 0,.int .i64 0,.int .i64 0,.int .i64 0] 98
 go_enter Tryz.func72,Tryz.ntmps72
 go_upto_region 1 with fail
 generalize (w.alloc (Obj.cells #[.int .i64 4,.int .i64 (dg:Nat),.int .i64 (ln:Nat),.int .i64 (lns:Nat),.int .i64 lf] 98)).alloc (Obj.cells #[.int .i64 0,.int .i64 0,.int .i64 0,.int .i64 0,.int .i64 0] 98)=w1 at *
 generalize hgq:w.heap.size=g at *
 have HGQ:=hid hgq
 have HB:=hid hb
 have HY:=hid hy
 have HG:=hid hg
 clear hb hy hg hgq
 obtain ⟨az0,az1,az2,az3,az4,af0,af1,af2,af3,af4⟩:=HB.out.all5
 go_upto_region 34 with fail
 refine at_world (P:=Code.wp _ _ _ _) (w0:=(w1.setCell ⟨g,0,none⟩ (.int .i64 5))) ?_
 intro w2 hw2
 have HB2:=hid (show Bk w2 g 98 #[.int .i64 5,.int .i64 (dg:Nat),.int .i64 (ln:Nat),.int .i64 (lns:Nat),.int .i64 lf] (0,0) from by rw [hw2];exact (HB.out.set 0 (.int .i64 5)))
 have HY2:=hid (show Bk w2 (g+1) 98 #[.int .i64 0,.int .i64 0,.int .i64 0,.int .i64 0,.int .i64 0] (0,0) from by rw [hw2];exact (HY.out.far (p:=⟨g,0,none⟩) (by simp) (.int .i64 5)))
 have HG2:=hid (show Gr w w2 from by rw [hw2];exact (HG.out.st (p:=⟨g,0,none⟩) (by show w.heap.size≤g;have:=HGQ.out;omega) (.int .i64 5)))
 clear az0 af0 az1 af1 az2 af2 az3 af3 az4 af4
 clear hw2 HB HY HG
 obtain ⟨bz0,bz1,bz2,bz3,bz4,bf0,bf1,bf2,bf3,bf4⟩:=HB2.out.all5
 obtain ⟨yz0,yz1,yz2,yz3,yz4,yf0,yf1,yf2,yf3,yf4⟩:=HY2.out.all5
 go_wp2_with fail
 refine at_world (P:=bodyPost _ _ _ _ _) (w0:=(putCs w2 (g+1) [.int .i64 5,.int .i64 (dg:Nat),.int .i64 (ln:Nat),.int .i64 (lns:Nat),.int .i64 lf] 0)) ?_
 intro wy hwy
 obtain ⟨u0,u1,u2,u3,u4,hgy⟩:=put5 hwy HY2.out HG2.out (by have:=HGQ.out;omega)
 refine bodyPost_ret (v:=.tuple #[.agg #[.int .i64 5,.int .i64 (dg:Nat),.int .i64 (ln:Nat),.int .i64 (lns:Nat),.int .i64 lf],.bool false,.bool (((c.toNat:Int)==13))]) (by simp [results,Tryz.results72,go_sem,u0,u1,u2,u3,u4]) rfl ⟨rfl,hgy⟩
set_option maxHeartbeats 4000000 in
set_option maxRecDepth 100000 in
theorem st10_i (dg ln lns:Nat) (lf:Int) (c:UInt8) (w:World):Calls Tryz.prog 72 #[.agg #[.int .i64 5,.int .i64 (dg:Nat),.int .i64 (ln:Nat),.int .i64 (lns:Nat),.int .i64 lf],.int .u8 c.toNat] w (St10 w #[.int .i64 0,.int .i64 0,.int .i64 0,.int .i64 0,.int .i64 0] false (((c.toNat:Int)==10))):=by
 obtain ⟨hb,hy,hg⟩:=st10_start w #[.int .i64 5,.int .i64 (dg:Nat),.int .i64 (ln:Nat),.int .i64 (lns:Nat),.int .i64 lf] #[.int .i64 0,.int .i64 0,.int .i64 0,.int .i64 0,.int .i64 0] 98
 go_enter Tryz.func72,Tryz.ntmps72
 go_upto_region 1 with fail
 generalize (w.alloc (Obj.cells #[.int .i64 5,.int .i64 (dg:Nat),.int .i64 (ln:Nat),.int .i64 (lns:Nat),.int .i64 lf] 98)).alloc (Obj.cells #[.int .i64 0,.int .i64 0,.int .i64 0,.int .i64 0,.int .i64 0] 98)=w1 at *
 generalize hgq:w.heap.size=g at *
 have HGQ:=hid hgq
 have HB:=hid hb
 have HY:=hid hy
 have HG:=hid hg
 clear hb hy hg hgq
 obtain ⟨az0,az1,az2,az3,az4,af0,af1,af2,af3,af4⟩:=HB.out.all5
 have HB2:=HB
 have HY2:=HY
 have HG2:=HG
 have hw2:w1=w1:=rfl
 clear az0 af0 az1 af1 az2 af2 az3 af3 az4 af4
 clear hw2 HB HY HG
 generalize w1=w2 at *
 obtain ⟨bz0,bz1,bz2,bz3,bz4,bf0,bf1,bf2,bf3,bf4⟩:=HB2.out.all5
 obtain ⟨yz0,yz1,yz2,yz3,yz4,yf0,yf1,yf2,yf3,yf4⟩:=HY2.out.all5
 go_wp2_with fail
 refine at_world (P:=bodyPost _ _ _ _ _) (w0:=(putCs w2 (g+1) [.int .i64 0,.int .i64 0,.int .i64 0,.int .i64 0,.int .i64 0] 0)) ?_
 intro wy hwy
 obtain ⟨u0,u1,u2,u3,u4,hgy⟩:=put5 hwy HY2.out HG2.out (by have:=HGQ.out;omega)
 refine bodyPost_ret (v:=.tuple #[.agg #[.int .i64 0,.int .i64 0,.int .i64 0,.int .i64 0,.int .i64 0],.bool false,.bool (((c.toNat:Int)==10))]) (by simp [results,Tryz.results72,go_sem,u0,u1,u2,u3,u4]) rfl ⟨rfl,hgy⟩
set_option maxHeartbeats 4000000 in
set_option maxRecDepth 100000 in
theorem st10_j (dg ln lns:Nat) (lf:Int) (c:UInt8) (w:World) (h1:c.toNat=13):Calls Tryz.prog 72 #[.agg #[.int .i64 6,.int .i64 (dg:Nat),.int .i64 (ln:Nat),.int .i64 (lns:Nat),.int .i64 lf],.int .u8 c.toNat] w (St10 w #[.int .i64 9,.int .i64 (dg:Nat),.int .i64 (ln:Nat),.int .i64 (lns:Nat),.int .i64 lf] false (true)):=by
 have d13:((c.toNat:Int)==13)=true:=by simp;omega
 clear h1
 obtain ⟨hb,hy,hg⟩:=st10_start w #[.int .i64 6,.int .i64 (dg:Nat),.int .i64 (ln:Nat),.int .i64 (lns:Nat),.int .i64 lf] #[.int .i64 0,.int .i64 0,.int .i64 0,.int .i64 0,.int .i64 0] 98
 go_enter Tryz.func72,Tryz.ntmps72
 go_upto_region 1 with fail
 generalize (w.alloc (Obj.cells #[.int .i64 6,.int .i64 (dg:Nat),.int .i64 (ln:Nat),.int .i64 (lns:Nat),.int .i64 lf] 98)).alloc (Obj.cells #[.int .i64 0,.int .i64 0,.int .i64 0,.int .i64 0,.int .i64 0] 98)=w1 at *
 generalize hgq:w.heap.size=g at *
 have HGQ:=hid hgq
 have HB:=hid hb
 have HY:=hid hy
 have HG:=hid hg
 clear hb hy hg hgq
 obtain ⟨az0,az1,az2,az3,az4,af0,af1,af2,af3,af4⟩:=HB.out.all5
 go_upto_region 40 with fail
 refine at_world (P:=Code.wp _ _ _ _) (w0:=(w1.setCell ⟨g,0,none⟩ (.int .i64 9))) ?_
 intro w2 hw2
 have HB2:=hid (show Bk w2 g 98 #[.int .i64 9,.int .i64 (dg:Nat),.int .i64 (ln:Nat),.int .i64 (lns:Nat),.int .i64 lf] (0,0) from by rw [hw2];exact (HB.out.set 0 (.int .i64 9)))
 have HY2:=hid (show Bk w2 (g+1) 98 #[.int .i64 0,.int .i64 0,.int .i64 0,.int .i64 0,.int .i64 0] (0,0) from by rw [hw2];exact (HY.out.far (p:=⟨g,0,none⟩) (by simp) (.int .i64 9)))
 have HG2:=hid (show Gr w w2 from by rw [hw2];exact (HG.out.st (p:=⟨g,0,none⟩) (by show w.heap.size≤g;have:=HGQ.out;omega) (.int .i64 9)))
 clear az0 af0 az1 af1 az2 af2 az3 af3 az4 af4
 clear hw2 HB HY HG
 obtain ⟨bz0,bz1,bz2,bz3,bz4,bf0,bf1,bf2,bf3,bf4⟩:=HB2.out.all5
 obtain ⟨yz0,yz1,yz2,yz3,yz4,yf0,yf1,yf2,yf3,yf4⟩:=HY2.out.all5
 go_wp2_with fail
 refine at_world (P:=bodyPost _ _ _ _ _) (w0:=(putCs w2 (g+1) [.int .i64 9,.int .i64 (dg:Nat),.int .i64 (ln:Nat),.int .i64 (lns:Nat),.int .i64 lf] 0)) ?_
 intro wy hwy
 obtain ⟨u0,u1,u2,u3,u4,hgy⟩:=put5 hwy HY2.out HG2.out (by have:=HGQ.out;omega)
 refine bodyPost_ret (v:=.tuple #[.agg #[.int .i64 9,.int .i64 (dg:Nat),.int .i64 (ln:Nat),.int .i64 (lns:Nat),.int .i64 lf],.bool false,.bool (true)]) (by simp [results,Tryz.results72,go_sem,u0,u1,u2,u3,u4]) rfl ⟨rfl,hgy⟩
set_option maxHeartbeats 4000000 in
set_option maxRecDepth 100000 in
theorem st10_l (dg ln lns:Nat) (lf:Int) (c:UInt8) (w:World) (h1:c.toNat=13):Calls Tryz.prog 72 #[.agg #[.int .i64 7,.int .i64 (dg:Nat),.int .i64 (ln:Nat),.int .i64 (lns:Nat),.int .i64 lf],.int .u8 c.toNat] w (St10 w #[.int .i64 8,.int .i64 (dg:Nat),.int .i64 (ln:Nat),.int .i64 (lns:Nat),.int .i64 lf] false (true)):=by
 have d13:((c.toNat:Int)==13)=true:=by simp;omega
 clear h1
 obtain ⟨hb,hy,hg⟩:=st10_start w #[.int .i64 7,.int .i64 (dg:Nat),.int .i64 (ln:Nat),.int .i64 (lns:Nat),.int .i64 lf] #[.int .i64 0,.int .i64 0,.int .i64 0,.int .i64 0,.int .i64 0] 98
 go_enter Tryz.func72,Tryz.ntmps72
 go_upto_region 1 with fail
 generalize (w.alloc (Obj.cells #[.int .i64 7,.int .i64 (dg:Nat),.int .i64 (ln:Nat),.int .i64 (lns:Nat),.int .i64 lf] 98)).alloc (Obj.cells #[.int .i64 0,.int .i64 0,.int .i64 0,.int .i64 0,.int .i64 0] 98)=w1 at *
 generalize hgq:w.heap.size=g at *
 have HGQ:=hid hgq
 have HB:=hid hb
 have HY:=hid hy
 have HG:=hid hg
 clear hb hy hg hgq
 obtain ⟨az0,az1,az2,az3,az4,af0,af1,af2,af3,af4⟩:=HB.out.all5
 go_upto_region 49 with fail
 refine at_world (P:=Code.wp _ _ _ _) (w0:=(w1.setCell ⟨g,0,none⟩ (.int .i64 8))) ?_
 intro w2 hw2
 have HB2:=hid (show Bk w2 g 98 #[.int .i64 8,.int .i64 (dg:Nat),.int .i64 (ln:Nat),.int .i64 (lns:Nat),.int .i64 lf] (0,0) from by rw [hw2];exact (HB.out.set 0 (.int .i64 8)))
 have HY2:=hid (show Bk w2 (g+1) 98 #[.int .i64 0,.int .i64 0,.int .i64 0,.int .i64 0,.int .i64 0] (0,0) from by rw [hw2];exact (HY.out.far (p:=⟨g,0,none⟩) (by simp) (.int .i64 8)))
 have HG2:=hid (show Gr w w2 from by rw [hw2];exact (HG.out.st (p:=⟨g,0,none⟩) (by show w.heap.size≤g;have:=HGQ.out;omega) (.int .i64 8)))
 clear az0 af0 az1 af1 az2 af2 az3 af3 az4 af4
 clear hw2 HB HY HG
 obtain ⟨bz0,bz1,bz2,bz3,bz4,bf0,bf1,bf2,bf3,bf4⟩:=HB2.out.all5
 obtain ⟨yz0,yz1,yz2,yz3,yz4,yf0,yf1,yf2,yf3,yf4⟩:=HY2.out.all5
 go_wp2_with fail
 refine at_world (P:=bodyPost _ _ _ _ _) (w0:=(putCs w2 (g+1) [.int .i64 8,.int .i64 (dg:Nat),.int .i64 (ln:Nat),.int .i64 (lns:Nat),.int .i64 lf] 0)) ?_
 intro wy hwy
 obtain ⟨u0,u1,u2,u3,u4,hgy⟩:=put5 hwy HY2.out HG2.out (by have:=HGQ.out;omega)
 refine bodyPost_ret (v:=.tuple #[.agg #[.int .i64 8,.int .i64 (dg:Nat),.int .i64 (ln:Nat),.int .i64 (lns:Nat),.int .i64 lf],.bool false,.bool (true)]) (by simp [results,Tryz.results72,go_sem,u0,u1,u2,u3,u4]) rfl ⟨rfl,hgy⟩
set_option maxHeartbeats 4000000 in
set_option maxRecDepth 100000 in
theorem st10_n (dg ln lns:Nat) (lf:Int) (c:UInt8) (w:World):Calls Tryz.prog 72 #[.agg #[.int .i64 8,.int .i64 (dg:Nat),.int .i64 (ln:Nat),.int .i64 (lns:Nat),.int .i64 lf],.int .u8 c.toNat] w (St10 w #[.int .i64 6,.int .i64 (dg:Nat),.int .i64 (ln:Nat),.int .i64 (lns:Nat),.int .i64 lf] false (((c.toNat:Int)==10))):=by
 obtain ⟨hb,hy,hg⟩:=st10_start w #[.int .i64 8,.int .i64 (dg:Nat),.int .i64 (ln:Nat),.int .i64 (lns:Nat),.int .i64 lf] #[.int .i64 0,.int .i64 0,.int .i64 0,.int .i64 0,.int .i64 0] 98
 go_enter Tryz.func72,Tryz.ntmps72
 go_upto_region 1 with fail
 generalize (w.alloc (Obj.cells #[.int .i64 8,.int .i64 (dg:Nat),.int .i64 (ln:Nat),.int .i64 (lns:Nat),.int .i64 lf] 98)).alloc (Obj.cells #[.int .i64 0,.int .i64 0,.int .i64 0,.int .i64 0,.int .i64 0] 98)=w1 at *
 generalize hgq:w.heap.size=g at *
 have HGQ:=hid hgq
 have HB:=hid hb
 have HY:=hid hy
 have HG:=hid hg
 clear hb hy hg hgq
 obtain ⟨az0,az1,az2,az3,az4,af0,af1,af2,af3,af4⟩:=HB.out.all5
 go_upto_region 54 with fail
 refine at_world (P:=Code.wp _ _ _ _) (w0:=(w1.setCell ⟨g,0,none⟩ (.int .i64 6))) ?_
 intro w2 hw2
 have HB2:=hid (show Bk w2 g 98 #[.int .i64 6,.int .i64 (dg:Nat),.int .i64 (ln:Nat),.int .i64 (lns:Nat),.int .i64 lf] (0,0) from by rw [hw2];exact (HB.out.set 0 (.int .i64 6)))
 have HY2:=hid (show Bk w2 (g+1) 98 #[.int .i64 0,.int .i64 0,.int .i64 0,.int .i64 0,.int .i64 0] (0,0) from by rw [hw2];exact (HY.out.far (p:=⟨g,0,none⟩) (by simp) (.int .i64 6)))
 have HG2:=hid (show Gr w w2 from by rw [hw2];exact (HG.out.st (p:=⟨g,0,none⟩) (by show w.heap.size≤g;have:=HGQ.out;omega) (.int .i64 6)))
 clear az0 af0 az1 af1 az2 af2 az3 af3 az4 af4
 clear hw2 HB HY HG
 obtain ⟨bz0,bz1,bz2,bz3,bz4,bf0,bf1,bf2,bf3,bf4⟩:=HB2.out.all5
 obtain ⟨yz0,yz1,yz2,yz3,yz4,yf0,yf1,yf2,yf3,yf4⟩:=HY2.out.all5
 go_wp2_with fail
 refine at_world (P:=bodyPost _ _ _ _ _) (w0:=(putCs w2 (g+1) [.int .i64 6,.int .i64 (dg:Nat),.int .i64 (ln:Nat),.int .i64 (lns:Nat),.int .i64 lf] 0)) ?_
 intro wy hwy
 obtain ⟨u0,u1,u2,u3,u4,hgy⟩:=put5 hwy HY2.out HG2.out (by have:=HGQ.out;omega)
 refine bodyPost_ret (v:=.tuple #[.agg #[.int .i64 6,.int .i64 (dg:Nat),.int .i64 (ln:Nat),.int .i64 (lns:Nat),.int .i64 lf],.bool false,.bool (((c.toNat:Int)==10))]) (by simp [results,Tryz.results72,go_sem,u0,u1,u2,u3,u4]) rfl ⟨rfl,hgy⟩
set_option maxHeartbeats 4000000 in
set_option maxRecDepth 100000 in
theorem st10_o (dg ln lns:Nat) (lf:Int) (c:UInt8) (w:World):Calls Tryz.prog 72 #[.agg #[.int .i64 9,.int .i64 (dg:Nat),.int .i64 (ln:Nat),.int .i64 (lns:Nat),.int .i64 lf],.int .u8 c.toNat] w (St10 w #[.int .i64 10,.int .i64 (dg:Nat),.int .i64 (ln:Nat),.int .i64 (lns:Nat),.int .i64 lf] false (((c.toNat:Int)==10))):=by
 obtain ⟨hb,hy,hg⟩:=st10_start w #[.int .i64 9,.int .i64 (dg:Nat),.int .i64 (ln:Nat),.int .i64 (lns:Nat),.int .i64 lf] #[.int .i64 0,.int .i64 0,.int .i64 0,.int .i64 0,.int .i64 0] 98
 go_enter Tryz.func72,Tryz.ntmps72
 go_upto_region 1 with fail
 generalize (w.alloc (Obj.cells #[.int .i64 9,.int .i64 (dg:Nat),.int .i64 (ln:Nat),.int .i64 (lns:Nat),.int .i64 lf] 98)).alloc (Obj.cells #[.int .i64 0,.int .i64 0,.int .i64 0,.int .i64 0,.int .i64 0] 98)=w1 at *
 generalize hgq:w.heap.size=g at *
 have HGQ:=hid hgq
 have HB:=hid hb
 have HY:=hid hy
 have HG:=hid hg
 clear hb hy hg hgq
 obtain ⟨az0,az1,az2,az3,az4,af0,af1,af2,af3,af4⟩:=HB.out.all5
 go_upto_region 56 with fail
 refine at_world (P:=Code.wp _ _ _ _) (w0:=(w1.setCell ⟨g,0,none⟩ (.int .i64 10))) ?_
 intro w2 hw2
 have HB2:=hid (show Bk w2 g 98 #[.int .i64 10,.int .i64 (dg:Nat),.int .i64 (ln:Nat),.int .i64 (lns:Nat),.int .i64 lf] (0,0) from by rw [hw2];exact (HB.out.set 0 (.int .i64 10)))
 have HY2:=hid (show Bk w2 (g+1) 98 #[.int .i64 0,.int .i64 0,.int .i64 0,.int .i64 0,.int .i64 0] (0,0) from by rw [hw2];exact (HY.out.far (p:=⟨g,0,none⟩) (by simp) (.int .i64 10)))
 have HG2:=hid (show Gr w w2 from by rw [hw2];exact (HG.out.st (p:=⟨g,0,none⟩) (by show w.heap.size≤g;have:=HGQ.out;omega) (.int .i64 10)))
 clear az0 af0 az1 af1 az2 af2 az3 af3 az4 af4
 clear hw2 HB HY HG
 obtain ⟨bz0,bz1,bz2,bz3,bz4,bf0,bf1,bf2,bf3,bf4⟩:=HB2.out.all5
 obtain ⟨yz0,yz1,yz2,yz3,yz4,yf0,yf1,yf2,yf3,yf4⟩:=HY2.out.all5
 go_wp2_with fail
 refine at_world (P:=bodyPost _ _ _ _ _) (w0:=(putCs w2 (g+1) [.int .i64 10,.int .i64 (dg:Nat),.int .i64 (ln:Nat),.int .i64 (lns:Nat),.int .i64 lf] 0)) ?_
 intro wy hwy
 obtain ⟨u0,u1,u2,u3,u4,hgy⟩:=put5 hwy HY2.out HG2.out (by have:=HGQ.out;omega)
 refine bodyPost_ret (v:=.tuple #[.agg #[.int .i64 10,.int .i64 (dg:Nat),.int .i64 (ln:Nat),.int .i64 (lns:Nat),.int .i64 lf],.bool false,.bool (((c.toNat:Int)==10))]) (by simp [results,Tryz.results72,go_sem,u0,u1,u2,u3,u4]) rfl ⟨rfl,hgy⟩
set_option maxHeartbeats 4000000 in
set_option maxRecDepth 100000 in
theorem st10_cp (dg ln lns:Nat) (lf X Y:Int) (c:UInt8) (w:World) (hd:dg≤100) (hl:ln≤1000) (e1:IntKind.i64.wrap (16*lf)=X) (e2:IntKind.i64.wrap (X+hexJ c)=Y) (h1:c.toNat≠13) (h2:c.toNat≠59) (h3:0≤hexJ c):Calls Tryz.prog 72 #[.agg #[.int .i64 0,.int .i64 (dg:Nat),.int .i64 (ln:Nat),.int .i64 (lns:Nat),.int .i64 lf],.int .u8 c.toNat] w (St10 w #[.int .i64 0,.int .i64 ((dg:Nat)+1),.int .i64 ((ln:Nat)+1),.int .i64 (lns:Nat),.int .i64 Y] false (decide (((dg:Nat):Int)+1≤15))):=by
 have d13:((c.toNat:Int)==13)=false:=by simp;omega
 have d59:((c.toNat:Int)==59)=false:=by simp;omega
 have dn:decide (0≤hexJ c)=true:=decide_eq_true h3
 clear h1 h2 h3
 obtain ⟨hb,hy,hg⟩:=st10_start w #[.int .i64 0,.int .i64 (dg:Nat),.int .i64 (ln:Nat),.int .i64 (lns:Nat),.int .i64 lf] #[.int .i64 0,.int .i64 0,.int .i64 0,.int .i64 0,.int .i64 0] 98
 have HHX:=hid (fun (x:World)=>refHex10_any c x)
 generalize hexJ c=hx at *
 go_enter Tryz.func72,Tryz.ntmps72
 go_upto_region 1 with fail
 generalize (w.alloc (Obj.cells #[.int .i64 0,.int .i64 (dg:Nat),.int .i64 (ln:Nat),.int .i64 (lns:Nat),.int .i64 lf] 98)).alloc (Obj.cells #[.int .i64 0,.int .i64 0,.int .i64 0,.int .i64 0,.int .i64 0] 98)=w0 at *
 generalize hgq:w.heap.size=g at *
 have HGQ:=hid hgq
 have HB0:=hid hb
 have HY0:=hid hy
 have HG0:=hid hg
 clear hb hy hg hgq
 obtain ⟨bz0,bz1,bz2,bz3,bz4,bf0,bf1,bf2,bf3,bf4⟩:=HB0.out.all5
 go_upto_region 11 with (go_at_call 100;refine (HHX.out _).mono ?_;rintro e w1 ⟨rfl,hg1⟩)
 have HB:=hid (HB0.out.gr hg1)
 have HY:=hid (HY0.out.gr hg1)
 have HG:=hid (Gr.tr HG0.out hg1)
 clear bz0 bf0 bz1 bf1 bz2 bf2 bz3 bf3 bz4 bf4 HB0 HY0 HG0 hg1
 obtain ⟨az0,az1,az2,az3,az4,af0,af1,af2,af3,af4⟩:=HB.out.all5
 go_upto_region 14 with fail
 refine at_world (P:=Code.wp _ _ _ _) (w0:=(((w1.setCell ⟨g,1,none⟩ (.int .i64 ((dg:Nat)+1))).setCell ⟨g,2,none⟩ (.int .i64 ((ln:Nat)+1))).setCell ⟨g,4,none⟩ (.int .i64 Y))) ?_
 intro w2 hw2
 have HB2:=hid (show Bk w2 g 98 #[.int .i64 0,.int .i64 ((dg:Nat)+1),.int .i64 ((ln:Nat)+1),.int .i64 (lns:Nat),.int .i64 Y] (0,0) from by rw [hw2];exact (((HB.out.set 1 (.int .i64 ((dg:Nat)+1))).set 2 (.int .i64 ((ln:Nat)+1))).set 4 (.int .i64 Y)))
 have HY2:=hid (show Bk w2 (g+1) 98 #[.int .i64 0,.int .i64 0,.int .i64 0,.int .i64 0,.int .i64 0] (0,0) from by rw [hw2];exact (((HY.out.far (p:=⟨g,1,none⟩) (by simp) (.int .i64 ((dg:Nat)+1))).far (p:=⟨g,2,none⟩) (by simp) (.int .i64 ((ln:Nat)+1))).far (p:=⟨g,4,none⟩) (by simp) (.int .i64 Y)))
 have HG2:=hid (show Gr w w2 from by rw [hw2];exact (((HG.out.st (p:=⟨g,1,none⟩) (by show w.heap.size≤g;have:=HGQ.out;omega) (.int .i64 ((dg:Nat)+1))).st (p:=⟨g,2,none⟩) (by show w.heap.size≤g;have:=HGQ.out;omega) (.int .i64 ((ln:Nat)+1))).st (p:=⟨g,4,none⟩) (by show w.heap.size≤g;have:=HGQ.out;omega) (.int .i64 Y)))
 clear az0 af0 az1 af1 az2 af2 az3 af3 az4 af4
 clear hw2 HB HY HG e1 e2
 obtain ⟨az0,az1,az2,az3,az4,af0,af1,af2,af3,af4⟩:=HB2.out.all5
 obtain ⟨yz0,yz1,yz2,yz3,yz4,yf0,yf1,yf2,yf3,yf4⟩:=HY2.out.all5
 go_region
 go_wp2_with fail
 refine at_world (P:=bodyPost _ _ _ _ _) (w0:=(putCs w2 (g+1) [.int .i64 0,.int .i64 ((dg:Nat)+1),.int .i64 ((ln:Nat)+1),.int .i64 (lns:Nat),.int .i64 Y] 0).drew) ?_
 intro wy hwy
 obtain ⟨u0,u1,u2,u3,u4,hgy⟩:=put5d hwy HY2.out HG2.out (by have:=HGQ.out;omega)
 refine bodyPost_ret (v:=.tuple #[.agg #[.int .i64 0,.int .i64 ((dg:Nat)+1),.int .i64 ((ln:Nat)+1),.int .i64 (lns:Nat),.int .i64 Y],.bool false,.bool (decide (((dg:Nat):Int)+1≤15))]) (by simp [results,Tryz.results72,go_sem,u0,u1,u2,u3,u4]) rfl ⟨rfl,hgy⟩
set_option maxHeartbeats 4000000 in
set_option maxRecDepth 100000 in
theorem st10_cn (dg ln lns:Nat) (lf X Y:Int) (c:UInt8) (w:World) (hd:dg≤100) (hl:ln≤1000) (e1:IntKind.i64.wrap (16*lf)=X) (e2:IntKind.i64.wrap (X+hexJ c)=Y) (h1:c.toNat≠13) (h2:c.toNat≠59) (h3:hexJ c < 0):Calls Tryz.prog 72 #[.agg #[.int .i64 0,.int .i64 (dg:Nat),.int .i64 (ln:Nat),.int .i64 (lns:Nat),.int .i64 lf],.int .u8 c.toNat] w (St10 w #[.int .i64 0,.int .i64 ((dg:Nat)+1),.int .i64 ((ln:Nat)+1),.int .i64 (lns:Nat),.int .i64 Y] false (false)):=by
 have d13:((c.toNat:Int)==13)=false:=by simp;omega
 have d59:((c.toNat:Int)==59)=false:=by simp;omega
 have dn:decide (0≤hexJ c)=false:=decide_eq_false (by omega)
 clear h1 h2 h3
 obtain ⟨hb,hy,hg⟩:=st10_start w #[.int .i64 0,.int .i64 (dg:Nat),.int .i64 (ln:Nat),.int .i64 (lns:Nat),.int .i64 lf] #[.int .i64 0,.int .i64 0,.int .i64 0,.int .i64 0,.int .i64 0] 98
 have HHX:=hid (fun (x:World)=>refHex10_any c x)
 generalize hexJ c=hx at *
 go_enter Tryz.func72,Tryz.ntmps72
 go_upto_region 1 with fail
 generalize (w.alloc (Obj.cells #[.int .i64 0,.int .i64 (dg:Nat),.int .i64 (ln:Nat),.int .i64 (lns:Nat),.int .i64 lf] 98)).alloc (Obj.cells #[.int .i64 0,.int .i64 0,.int .i64 0,.int .i64 0,.int .i64 0] 98)=w0 at *
 generalize hgq:w.heap.size=g at *
 have HGQ:=hid hgq
 have HB0:=hid hb
 have HY0:=hid hy
 have HG0:=hid hg
 clear hb hy hg hgq
 obtain ⟨bz0,bz1,bz2,bz3,bz4,bf0,bf1,bf2,bf3,bf4⟩:=HB0.out.all5
 go_upto_region 11 with (go_at_call 100;refine (HHX.out _).mono ?_;rintro e w1 ⟨rfl,hg1⟩)
 have HB:=hid (HB0.out.gr hg1)
 have HY:=hid (HY0.out.gr hg1)
 have HG:=hid (Gr.tr HG0.out hg1)
 clear bz0 bf0 bz1 bf1 bz2 bf2 bz3 bf3 bz4 bf4 HB0 HY0 HG0 hg1
 obtain ⟨az0,az1,az2,az3,az4,af0,af1,af2,af3,af4⟩:=HB.out.all5
 go_upto_region 14 with fail
 refine at_world (P:=Code.wp _ _ _ _) (w0:=(((w1.setCell ⟨g,1,none⟩ (.int .i64 ((dg:Nat)+1))).setCell ⟨g,2,none⟩ (.int .i64 ((ln:Nat)+1))).setCell ⟨g,4,none⟩ (.int .i64 Y))) ?_
 intro w2 hw2
 have HB2:=hid (show Bk w2 g 98 #[.int .i64 0,.int .i64 ((dg:Nat)+1),.int .i64 ((ln:Nat)+1),.int .i64 (lns:Nat),.int .i64 Y] (0,0) from by rw [hw2];exact (((HB.out.set 1 (.int .i64 ((dg:Nat)+1))).set 2 (.int .i64 ((ln:Nat)+1))).set 4 (.int .i64 Y)))
 have HY2:=hid (show Bk w2 (g+1) 98 #[.int .i64 0,.int .i64 0,.int .i64 0,.int .i64 0,.int .i64 0] (0,0) from by rw [hw2];exact (((HY.out.far (p:=⟨g,1,none⟩) (by simp) (.int .i64 ((dg:Nat)+1))).far (p:=⟨g,2,none⟩) (by simp) (.int .i64 ((ln:Nat)+1))).far (p:=⟨g,4,none⟩) (by simp) (.int .i64 Y)))
 have HG2:=hid (show Gr w w2 from by rw [hw2];exact (((HG.out.st (p:=⟨g,1,none⟩) (by show w.heap.size≤g;have:=HGQ.out;omega) (.int .i64 ((dg:Nat)+1))).st (p:=⟨g,2,none⟩) (by show w.heap.size≤g;have:=HGQ.out;omega) (.int .i64 ((ln:Nat)+1))).st (p:=⟨g,4,none⟩) (by show w.heap.size≤g;have:=HGQ.out;omega) (.int .i64 Y)))
 clear az0 af0 az1 af1 az2 af2 az3 af3 az4 af4
 clear hw2 HB HY HG e1 e2
 obtain ⟨az0,az1,az2,az3,az4,af0,af1,af2,af3,af4⟩:=HB2.out.all5
 obtain ⟨yz0,yz1,yz2,yz3,yz4,yf0,yf1,yf2,yf3,yf4⟩:=HY2.out.all5
 go_region
 go_wp2_with fail
 refine at_world (P:=bodyPost _ _ _ _ _) (w0:=(putCs w2 (g+1) [.int .i64 0,.int .i64 ((dg:Nat)+1),.int .i64 ((ln:Nat)+1),.int .i64 (lns:Nat),.int .i64 Y] 0).drew) ?_
 intro wy hwy
 obtain ⟨u0,u1,u2,u3,u4,hgy⟩:=put5d hwy HY2.out HG2.out (by have:=HGQ.out;omega)
 refine bodyPost_ret (v:=.tuple #[.agg #[.int .i64 0,.int .i64 ((dg:Nat)+1),.int .i64 ((ln:Nat)+1),.int .i64 (lns:Nat),.int .i64 Y],.bool false,.bool (false)]) (by simp [results,Tryz.results72,go_sem,u0,u1,u2,u3,u4]) rfl ⟨rfl,hgy⟩
set_option maxHeartbeats 4000000 in
set_option maxRecDepth 100000 in
theorem st10_cz (dg ln lns:Nat) (lf X Y:Int) (c:UInt8) (w:World) (hd:dg≤100) (hl:ln≤1000) (e1:IntKind.i64.wrap (16*lf)=X) (e2:IntKind.i64.wrap (X+hexJ c)=Y) (h1:c.toNat=59) (h2:dg=0) (h3:hexJ c < 0):Calls Tryz.prog 72 #[.agg #[.int .i64 0,.int .i64 (dg:Nat),.int .i64 (ln:Nat),.int .i64 (lns:Nat),.int .i64 lf],.int .u8 c.toNat] w (St10 w #[.int .i64 0,.int .i64 ((dg:Nat)+1),.int .i64 ((ln:Nat)+1),.int .i64 (lns:Nat),.int .i64 Y] false (false)):=by
 have d13:((c.toNat:Int)==13)=false:=by simp;omega
 have d59:((c.toNat:Int)==59)=true:=by simp;omega
 have dz:¬0 < dg:=by omega
 have dz2:decide (0 < ((dg:Nat):Int))=false:=decide_eq_false (by omega)
 have dn:decide (0≤hexJ c)=false:=decide_eq_false (by omega)
 clear h1 h2 h3
 obtain ⟨hb,hy,hg⟩:=st10_start w #[.int .i64 0,.int .i64 (dg:Nat),.int .i64 (ln:Nat),.int .i64 (lns:Nat),.int .i64 lf] #[.int .i64 0,.int .i64 0,.int .i64 0,.int .i64 0,.int .i64 0] 98
 have HHX:=hid (fun (x:World)=>refHex10_any c x)
 generalize hexJ c=hx at *
 go_enter Tryz.func72,Tryz.ntmps72
 go_upto_region 1 with fail
 generalize (w.alloc (Obj.cells #[.int .i64 0,.int .i64 (dg:Nat),.int .i64 (ln:Nat),.int .i64 (lns:Nat),.int .i64 lf] 98)).alloc (Obj.cells #[.int .i64 0,.int .i64 0,.int .i64 0,.int .i64 0,.int .i64 0] 98)=w0 at *
 generalize hgq:w.heap.size=g at *
 have HGQ:=hid hgq
 have HB0:=hid hb
 have HY0:=hid hy
 have HG0:=hid hg
 clear hb hy hg hgq
 obtain ⟨bz0,bz1,bz2,bz3,bz4,bf0,bf1,bf2,bf3,bf4⟩:=HB0.out.all5
 go_upto_region 11 with (go_at_call 100;refine (HHX.out _).mono ?_;rintro e w1 ⟨rfl,hg1⟩)
 have HB:=hid (HB0.out.gr hg1)
 have HY:=hid (HY0.out.gr hg1)
 have HG:=hid (Gr.tr HG0.out hg1)
 clear bz0 bf0 bz1 bf1 bz2 bf2 bz3 bf3 bz4 bf4 HB0 HY0 HG0 hg1
 obtain ⟨az0,az1,az2,az3,az4,af0,af1,af2,af3,af4⟩:=HB.out.all5
 go_upto_region 14 with fail
 refine at_world (P:=Code.wp _ _ _ _) (w0:=(((w1.setCell ⟨g,1,none⟩ (.int .i64 ((dg:Nat)+1))).setCell ⟨g,2,none⟩ (.int .i64 ((ln:Nat)+1))).setCell ⟨g,4,none⟩ (.int .i64 Y))) ?_
 intro w2 hw2
 have HB2:=hid (show Bk w2 g 98 #[.int .i64 0,.int .i64 ((dg:Nat)+1),.int .i64 ((ln:Nat)+1),.int .i64 (lns:Nat),.int .i64 Y] (0,0) from by rw [hw2];exact (((HB.out.set 1 (.int .i64 ((dg:Nat)+1))).set 2 (.int .i64 ((ln:Nat)+1))).set 4 (.int .i64 Y)))
 have HY2:=hid (show Bk w2 (g+1) 98 #[.int .i64 0,.int .i64 0,.int .i64 0,.int .i64 0,.int .i64 0] (0,0) from by rw [hw2];exact (((HY.out.far (p:=⟨g,1,none⟩) (by simp) (.int .i64 ((dg:Nat)+1))).far (p:=⟨g,2,none⟩) (by simp) (.int .i64 ((ln:Nat)+1))).far (p:=⟨g,4,none⟩) (by simp) (.int .i64 Y)))
 have HG2:=hid (show Gr w w2 from by rw [hw2];exact (((HG.out.st (p:=⟨g,1,none⟩) (by show w.heap.size≤g;have:=HGQ.out;omega) (.int .i64 ((dg:Nat)+1))).st (p:=⟨g,2,none⟩) (by show w.heap.size≤g;have:=HGQ.out;omega) (.int .i64 ((ln:Nat)+1))).st (p:=⟨g,4,none⟩) (by show w.heap.size≤g;have:=HGQ.out;omega) (.int .i64 Y)))
 clear az0 af0 az1 af1 az2 af2 az3 af3 az4 af4
 clear hw2 HB HY HG e1 e2
 obtain ⟨az0,az1,az2,az3,az4,af0,af1,af2,af3,af4⟩:=HB2.out.all5
 obtain ⟨yz0,yz1,yz2,yz3,yz4,yf0,yf1,yf2,yf3,yf4⟩:=HY2.out.all5
 go_region
 go_wp2_with fail
 refine at_world (P:=bodyPost _ _ _ _ _) (w0:=(putCs w2 (g+1) [.int .i64 0,.int .i64 ((dg:Nat)+1),.int .i64 ((ln:Nat)+1),.int .i64 (lns:Nat),.int .i64 Y] 0).drew) ?_
 intro wy hwy
 obtain ⟨u0,u1,u2,u3,u4,hgy⟩:=put5d hwy HY2.out HG2.out (by have:=HGQ.out;omega)
 refine bodyPost_ret (v:=.tuple #[.agg #[.int .i64 0,.int .i64 ((dg:Nat)+1),.int .i64 ((ln:Nat)+1),.int .i64 (lns:Nat),.int .i64 Y],.bool false,.bool (false)]) (by simp [results,Tryz.results72,go_sem,u0,u1,u2,u3,u4]) rfl ⟨rfl,hgy⟩
set_option maxHeartbeats 4000000 in
set_option maxRecDepth 100000 in
theorem st10_e (dg ln lns:Nat) (lf:Int) (c:UInt8) (w:World) (h1:c.toNat≠13) (h2:ln≤200):Calls Tryz.prog 72 #[.agg #[.int .i64 1,.int .i64 (dg:Nat),.int .i64 (ln:Nat),.int .i64 (lns:Nat),.int .i64 lf],.int .u8 c.toNat] w (St10 w #[.int .i64 1,.int .i64 (dg:Nat),.int .i64 ((ln:Nat)+1),.int .i64 (lns:Nat),.int .i64 lf] false (visC c&&decide (((ln:Nat):Int)+1≤200))):=by
 have d13:((c.toNat:Int)==13)=false:=by simp;omega
 clear h1
 obtain ⟨hb,hy,hg⟩:=st10_start w #[.int .i64 1,.int .i64 (dg:Nat),.int .i64 (ln:Nat),.int .i64 (lns:Nat),.int .i64 lf] #[.int .i64 0,.int .i64 0,.int .i64 0,.int .i64 0,.int .i64 0] 98
 go_enter Tryz.func72,Tryz.ntmps72
 go_upto_region 1 with fail
 generalize (w.alloc (Obj.cells #[.int .i64 1,.int .i64 (dg:Nat),.int .i64 (ln:Nat),.int .i64 (lns:Nat),.int .i64 lf] 98)).alloc (Obj.cells #[.int .i64 0,.int .i64 0,.int .i64 0,.int .i64 0,.int .i64 0] 98)=w1 at *
 generalize hgq:w.heap.size=g at *
 have HGQ:=hid hgq
 have HB:=hid hb
 have HY:=hid hy
 have HG:=hid hg
 clear hb hy hg hgq
 obtain ⟨az0,az1,az2,az3,az4,af0,af1,af2,af3,af4⟩:=HB.out.all5
 have HB2:=HB
 have HY2:=HY
 have HG2:=HG
 have hw2:w1=w1:=rfl
 clear az0 af0 az1 af1 az2 af2 az3 af3 az4 af4
 clear hw2 HB HY HG
 generalize w1=w2 at *
 obtain ⟨bz0,bz1,bz2,bz3,bz4,bf0,bf1,bf2,bf3,bf4⟩:=HB2.out.all5
 obtain ⟨yz0,yz1,yz2,yz3,yz4,yf0,yf1,yf2,yf3,yf4⟩:=HY2.out.all5
 have HTX:=hid (fun (x:World)=>show Calls Tryz.prog 101 #[.agg #[.int .i64 1,.int .i64 (dg:Nat),.int .i64 (ln:Nat),.int .i64 (lns:Nat),.int .i64 lf],.int .u8 c.toNat] x (fun e w'=>e=.returned (.tuple #[.agg #[.int .i64 1,.int .i64 (dg:Nat),.int .i64 ((ln:Nat)+1),.int .i64 (lns:Nat),.int .i64 lf],.bool (visC c&&decide (((ln:Nat):Int)+1≤200))])∧Gr x w') from text10_any 1 dg ln lns lf c _ x (by omega) rfl)
 go_upto_region 20 with (go_at_call 101;refine (HTX.out _).mono ?_;rintro e w3 ⟨rfl,hg3⟩)
 have hbn:=Bk.new w3 98 #[.int .i64 1,.int .i64 (dg:Nat),.int .i64 ((ln:Nat)+1),.int .i64 (lns:Nat),.int .i64 lf] (0,0)
 have hg34:=Gr.al (Gr.refl w3) (Obj.cells #[.int .i64 1,.int .i64 (dg:Nat),.int .i64 ((ln:Nat)+1),.int .i64 (lns:Nat),.int .i64 lf] 98)
 generalize w3.alloc (Obj.cells #[.int .i64 1,.int .i64 (dg:Nat),.int .i64 ((ln:Nat)+1),.int .i64 (lns:Nat),.int .i64 lf] 98)=w4 at *
 generalize w3.heap.size=gn at *
 have HN4:=hid hbn
 have HB4:=hid (HB2.out.gr (Gr.tr hg3 hg34))
 have HY4:=hid (HY2.out.gr (Gr.tr hg3 hg34))
 have HG4:=hid (Gr.tr HG2.out (Gr.tr hg3 hg34))
 clear bz0 bf0 bz1 bf1 bz2 bf2 bz3 bf3 bz4 bf4 hbn hg3 hg34 HTX HB2 HY2 HG2 yz0 yf0 yz1 yf1 yz2 yf2 yz3 yf3 yz4 yf4
 obtain ⟨nz0,nz1,nz2,nz3,nz4,nf0,nf1,nf2,nf3,nf4⟩:=HN4.out.all5
 obtain ⟨az0,az1,az2,az3,az4,af0,af1,af2,af3,af4⟩:=HB4.out.all5
 obtain ⟨yz0,yz1,yz2,yz3,yz4,yf0,yf1,yf2,yf3,yf4⟩:=HY4.out.all5
 go_wp2_with fail
 refine at_world (P:=bodyPost _ _ _ _ _) (w0:=(putCs w4 (g+1) [.int .i64 1,.int .i64 (dg:Nat),.int .i64 ((ln:Nat)+1),.int .i64 (lns:Nat),.int .i64 lf] 0)) ?_
 intro wy hwy
 obtain ⟨u0,u1,u2,u3,u4,hgy⟩:=put5 hwy HY4.out HG4.out (by have:=HGQ.out;omega)
 refine bodyPost_ret (v:=.tuple #[.agg #[.int .i64 1,.int .i64 (dg:Nat),.int .i64 ((ln:Nat)+1),.int .i64 (lns:Nat),.int .i64 lf],.bool false,.bool (visC c&&decide (((ln:Nat):Int)+1≤200))]) (by simp [results,Tryz.results72,go_sem,u0,u1,u2,u3,u4]) rfl ⟨rfl,hgy⟩
set_option maxHeartbeats 4000000 in
set_option maxRecDepth 100000 in
theorem st10_m (dg ln lns:Nat) (lf:Int) (c:UInt8) (w:World) (h1:c.toNat≠13) (h2:ln≤200):Calls Tryz.prog 72 #[.agg #[.int .i64 7,.int .i64 (dg:Nat),.int .i64 (ln:Nat),.int .i64 (lns:Nat),.int .i64 lf],.int .u8 c.toNat] w (St10 w #[.int .i64 7,.int .i64 (dg:Nat),.int .i64 ((ln:Nat)+1),.int .i64 (lns:Nat),.int .i64 lf] false (visC c&&decide (((ln:Nat):Int)+1≤200))):=by
 have d13:((c.toNat:Int)==13)=false:=by simp;omega
 clear h1
 obtain ⟨hb,hy,hg⟩:=st10_start w #[.int .i64 7,.int .i64 (dg:Nat),.int .i64 (ln:Nat),.int .i64 (lns:Nat),.int .i64 lf] #[.int .i64 0,.int .i64 0,.int .i64 0,.int .i64 0,.int .i64 0] 98
 go_enter Tryz.func72,Tryz.ntmps72
 go_upto_region 1 with fail
 generalize (w.alloc (Obj.cells #[.int .i64 7,.int .i64 (dg:Nat),.int .i64 (ln:Nat),.int .i64 (lns:Nat),.int .i64 lf] 98)).alloc (Obj.cells #[.int .i64 0,.int .i64 0,.int .i64 0,.int .i64 0,.int .i64 0] 98)=w1 at *
 generalize hgq:w.heap.size=g at *
 have HGQ:=hid hgq
 have HB:=hid hb
 have HY:=hid hy
 have HG:=hid hg
 clear hb hy hg hgq
 obtain ⟨az0,az1,az2,az3,az4,af0,af1,af2,af3,af4⟩:=HB.out.all5
 have HB2:=HB
 have HY2:=HY
 have HG2:=HG
 have hw2:w1=w1:=rfl
 clear az0 af0 az1 af1 az2 af2 az3 af3 az4 af4
 clear hw2 HB HY HG
 generalize w1=w2 at *
 obtain ⟨bz0,bz1,bz2,bz3,bz4,bf0,bf1,bf2,bf3,bf4⟩:=HB2.out.all5
 obtain ⟨yz0,yz1,yz2,yz3,yz4,yf0,yf1,yf2,yf3,yf4⟩:=HY2.out.all5
 have HTX:=hid (fun (x:World)=>show Calls Tryz.prog 101 #[.agg #[.int .i64 7,.int .i64 (dg:Nat),.int .i64 (ln:Nat),.int .i64 (lns:Nat),.int .i64 lf],.int .u8 c.toNat] x (fun e w'=>e=.returned (.tuple #[.agg #[.int .i64 7,.int .i64 (dg:Nat),.int .i64 ((ln:Nat)+1),.int .i64 (lns:Nat),.int .i64 lf],.bool (visC c&&decide (((ln:Nat):Int)+1≤200))])∧Gr x w') from text10_any 7 dg ln lns lf c _ x (by omega) rfl)
 go_upto_region 51 with (go_at_call 101;refine (HTX.out _).mono ?_;rintro e w3 ⟨rfl,hg3⟩)
 have hbn:=Bk.new w3 98 #[.int .i64 7,.int .i64 (dg:Nat),.int .i64 ((ln:Nat)+1),.int .i64 (lns:Nat),.int .i64 lf] (0,0)
 have hg34:=Gr.al (Gr.refl w3) (Obj.cells #[.int .i64 7,.int .i64 (dg:Nat),.int .i64 ((ln:Nat)+1),.int .i64 (lns:Nat),.int .i64 lf] 98)
 generalize w3.alloc (Obj.cells #[.int .i64 7,.int .i64 (dg:Nat),.int .i64 ((ln:Nat)+1),.int .i64 (lns:Nat),.int .i64 lf] 98)=w4 at *
 generalize w3.heap.size=gn at *
 have HN4:=hid hbn
 have HB4:=hid (HB2.out.gr (Gr.tr hg3 hg34))
 have HY4:=hid (HY2.out.gr (Gr.tr hg3 hg34))
 have HG4:=hid (Gr.tr HG2.out (Gr.tr hg3 hg34))
 clear bz0 bf0 bz1 bf1 bz2 bf2 bz3 bf3 bz4 bf4 hbn hg3 hg34 HTX HB2 HY2 HG2 yz0 yf0 yz1 yf1 yz2 yf2 yz3 yf3 yz4 yf4
 obtain ⟨nz0,nz1,nz2,nz3,nz4,nf0,nf1,nf2,nf3,nf4⟩:=HN4.out.all5
 obtain ⟨az0,az1,az2,az3,az4,af0,af1,af2,af3,af4⟩:=HB4.out.all5
 obtain ⟨yz0,yz1,yz2,yz3,yz4,yf0,yf1,yf2,yf3,yf4⟩:=HY4.out.all5
 go_wp2_with fail
 refine at_world (P:=bodyPost _ _ _ _ _) (w0:=(putCs w4 (g+1) [.int .i64 7,.int .i64 (dg:Nat),.int .i64 ((ln:Nat)+1),.int .i64 (lns:Nat),.int .i64 lf] 0)) ?_
 intro wy hwy
 obtain ⟨u0,u1,u2,u3,u4,hgy⟩:=put5 hwy HY4.out HG4.out (by have:=HGQ.out;omega)
 refine bodyPost_ret (v:=.tuple #[.agg #[.int .i64 7,.int .i64 (dg:Nat),.int .i64 ((ln:Nat)+1),.int .i64 (lns:Nat),.int .i64 lf],.bool false,.bool (visC c&&decide (((ln:Nat):Int)+1≤200))]) (by simp [results,Tryz.results72,go_sem,u0,u1,u2,u3,u4]) rfl ⟨rfl,hgy⟩
set_option maxHeartbeats 4000000 in
set_option maxRecDepth 100000 in
theorem st10_kt (dg ln lns:Nat) (lf:Int) (c:UInt8) (w:World) (h1:c.toNat≠13) (h2:visC c=true) (h3:lns≤64):Calls Tryz.prog 72 #[.agg #[.int .i64 6,.int .i64 (dg:Nat),.int .i64 (ln:Nat),.int .i64 (lns:Nat),.int .i64 lf],.int .u8 c.toNat] w (St10 w #[.int .i64 7,.int .i64 (dg:Nat),.int .i64 1,.int .i64 ((lns:Nat)+1),.int .i64 lf] false (decide (((lns:Nat):Int)+1≤64))):=by
 have d13:((c.toNat:Int)==13)=false:=by simp;omega
 clear h1
 obtain ⟨hb,hy,hg⟩:=st10_start w #[.int .i64 6,.int .i64 (dg:Nat),.int .i64 (ln:Nat),.int .i64 (lns:Nat),.int .i64 lf] #[.int .i64 0,.int .i64 0,.int .i64 0,.int .i64 0,.int .i64 0] 98
 go_enter Tryz.func72,Tryz.ntmps72
 go_upto_region 1 with fail
 generalize (w.alloc (Obj.cells #[.int .i64 6,.int .i64 (dg:Nat),.int .i64 (ln:Nat),.int .i64 (lns:Nat),.int .i64 lf] 98)).alloc (Obj.cells #[.int .i64 0,.int .i64 0,.int .i64 0,.int .i64 0,.int .i64 0] 98)=w1 at *
 generalize hgq:w.heap.size=g at *
 have HGQ:=hid hgq
 have HB:=hid hb
 have HY:=hid hy
 have HG:=hid hg
 clear hb hy hg hgq
 obtain ⟨az0,az1,az2,az3,az4,af0,af1,af2,af3,af4⟩:=HB.out.all5
 go_upto_region 44 with fail
 refine at_world (P:=Code.wp _ _ _ _) (w0:=(((w1.setCell ⟨g,0,none⟩ (.int .i64 7)).setCell ⟨g,2,none⟩ (.int .i64 0)).setCell ⟨g,3,none⟩ (.int .i64 ((lns:Nat)+1)))) ?_
 intro w2 hw2
 have HB2:=hid (show Bk w2 g 98 #[.int .i64 7,.int .i64 (dg:Nat),.int .i64 0,.int .i64 ((lns:Nat)+1),.int .i64 lf] (0,0) from by rw [hw2];exact (((HB.out.set 0 (.int .i64 7)).set 2 (.int .i64 0)).set 3 (.int .i64 ((lns:Nat)+1))))
 have HY2:=hid (show Bk w2 (g+1) 98 #[.int .i64 0,.int .i64 0,.int .i64 0,.int .i64 0,.int .i64 0] (0,0) from by rw [hw2];exact (((HY.out.far (p:=⟨g,0,none⟩) (by simp) (.int .i64 7)).far (p:=⟨g,2,none⟩) (by simp) (.int .i64 0)).far (p:=⟨g,3,none⟩) (by simp) (.int .i64 ((lns:Nat)+1))))
 have HG2:=hid (show Gr w w2 from by rw [hw2];exact (((HG.out.st (p:=⟨g,0,none⟩) (by show w.heap.size≤g;have:=HGQ.out;omega) (.int .i64 7)).st (p:=⟨g,2,none⟩) (by show w.heap.size≤g;have:=HGQ.out;omega) (.int .i64 0)).st (p:=⟨g,3,none⟩) (by show w.heap.size≤g;have:=HGQ.out;omega) (.int .i64 ((lns:Nat)+1))))
 clear az0 af0 az1 af1 az2 af2 az3 af3 az4 af4
 clear hw2 HB HY HG
 obtain ⟨bz0,bz1,bz2,bz3,bz4,bf0,bf1,bf2,bf3,bf4⟩:=HB2.out.all5
 obtain ⟨yz0,yz1,yz2,yz3,yz4,yf0,yf1,yf2,yf3,yf4⟩:=HY2.out.all5
 have HTX:=hid (fun (x:World)=>show Calls Tryz.prog 101 #[.agg #[.int .i64 7,.int .i64 (dg:Nat),.int .i64 0,.int .i64 ((lns:Nat)+1),.int .i64 lf],.int .u8 c.toNat] x (fun e w'=>e=.returned (.tuple #[.agg #[.int .i64 7,.int .i64 (dg:Nat),.int .i64 1,.int .i64 ((lns:Nat)+1),.int .i64 lf],.bool (true)])∧Gr x w') from text10_any 7 dg 0 ((lns:Nat)+1) lf c _ x (by omega) (by rw [h2];decide))
 go_upto_region 45 with (go_at_call 101;refine (HTX.out _).mono ?_;rintro e w3 ⟨rfl,hg3⟩)
 have hbn:=Bk.new w3 98 #[.int .i64 7,.int .i64 (dg:Nat),.int .i64 1,.int .i64 ((lns:Nat)+1),.int .i64 lf] (0,0)
 have hg34:=Gr.al (Gr.refl w3) (Obj.cells #[.int .i64 7,.int .i64 (dg:Nat),.int .i64 1,.int .i64 ((lns:Nat)+1),.int .i64 lf] 98)
 generalize w3.alloc (Obj.cells #[.int .i64 7,.int .i64 (dg:Nat),.int .i64 1,.int .i64 ((lns:Nat)+1),.int .i64 lf] 98)=w4 at *
 generalize w3.heap.size=gn at *
 have HN4:=hid hbn
 have HB4:=hid (HB2.out.gr (Gr.tr hg3 hg34))
 have HY4:=hid (HY2.out.gr (Gr.tr hg3 hg34))
 have HG4:=hid (Gr.tr HG2.out (Gr.tr hg3 hg34))
 clear bz0 bf0 bz1 bf1 bz2 bf2 bz3 bf3 bz4 bf4 hbn hg3 hg34 HTX HB2 HY2 HG2 yz0 yf0 yz1 yf1 yz2 yf2 yz3 yf3 yz4 yf4
 obtain ⟨nz0,nz1,nz2,nz3,nz4,nf0,nf1,nf2,nf3,nf4⟩:=HN4.out.all5
 obtain ⟨az0,az1,az2,az3,az4,af0,af1,af2,af3,af4⟩:=HB4.out.all5
 obtain ⟨yz0,yz1,yz2,yz3,yz4,yf0,yf1,yf2,yf3,yf4⟩:=HY4.out.all5
 go_region
 go_wp2_with fail
 refine at_world (P:=bodyPost _ _ _ _ _) (w0:=(putCs w4 (g+1) [.int .i64 7,.int .i64 (dg:Nat),.int .i64 1,.int .i64 ((lns:Nat)+1),.int .i64 lf] 0).drew) ?_
 intro wy hwy
 obtain ⟨u0,u1,u2,u3,u4,hgy⟩:=put5d hwy HY4.out HG4.out (by have:=HGQ.out;omega)
 refine bodyPost_ret (v:=.tuple #[.agg #[.int .i64 7,.int .i64 (dg:Nat),.int .i64 1,.int .i64 ((lns:Nat)+1),.int .i64 lf],.bool false,.bool (decide (((lns:Nat):Int)+1≤64))]) (by simp [results,Tryz.results72,go_sem,u0,u1,u2,u3,u4]) rfl ⟨rfl,hgy⟩
set_option maxHeartbeats 4000000 in
set_option maxRecDepth 100000 in
theorem st10_kf (dg ln lns:Nat) (lf:Int) (c:UInt8) (w:World) (h1:c.toNat≠13) (h2:visC c=false) (h3:lns≤64):Calls Tryz.prog 72 #[.agg #[.int .i64 6,.int .i64 (dg:Nat),.int .i64 (ln:Nat),.int .i64 (lns:Nat),.int .i64 lf],.int .u8 c.toNat] w (St10 w #[.int .i64 7,.int .i64 (dg:Nat),.int .i64 1,.int .i64 ((lns:Nat)+1),.int .i64 lf] false (false)):=by
 have d13:((c.toNat:Int)==13)=false:=by simp;omega
 clear h1
 obtain ⟨hb,hy,hg⟩:=st10_start w #[.int .i64 6,.int .i64 (dg:Nat),.int .i64 (ln:Nat),.int .i64 (lns:Nat),.int .i64 lf] #[.int .i64 0,.int .i64 0,.int .i64 0,.int .i64 0,.int .i64 0] 98
 go_enter Tryz.func72,Tryz.ntmps72
 go_upto_region 1 with fail
 generalize (w.alloc (Obj.cells #[.int .i64 6,.int .i64 (dg:Nat),.int .i64 (ln:Nat),.int .i64 (lns:Nat),.int .i64 lf] 98)).alloc (Obj.cells #[.int .i64 0,.int .i64 0,.int .i64 0,.int .i64 0,.int .i64 0] 98)=w1 at *
 generalize hgq:w.heap.size=g at *
 have HGQ:=hid hgq
 have HB:=hid hb
 have HY:=hid hy
 have HG:=hid hg
 clear hb hy hg hgq
 obtain ⟨az0,az1,az2,az3,az4,af0,af1,af2,af3,af4⟩:=HB.out.all5
 go_upto_region 44 with fail
 refine at_world (P:=Code.wp _ _ _ _) (w0:=(((w1.setCell ⟨g,0,none⟩ (.int .i64 7)).setCell ⟨g,2,none⟩ (.int .i64 0)).setCell ⟨g,3,none⟩ (.int .i64 ((lns:Nat)+1)))) ?_
 intro w2 hw2
 have HB2:=hid (show Bk w2 g 98 #[.int .i64 7,.int .i64 (dg:Nat),.int .i64 0,.int .i64 ((lns:Nat)+1),.int .i64 lf] (0,0) from by rw [hw2];exact (((HB.out.set 0 (.int .i64 7)).set 2 (.int .i64 0)).set 3 (.int .i64 ((lns:Nat)+1))))
 have HY2:=hid (show Bk w2 (g+1) 98 #[.int .i64 0,.int .i64 0,.int .i64 0,.int .i64 0,.int .i64 0] (0,0) from by rw [hw2];exact (((HY.out.far (p:=⟨g,0,none⟩) (by simp) (.int .i64 7)).far (p:=⟨g,2,none⟩) (by simp) (.int .i64 0)).far (p:=⟨g,3,none⟩) (by simp) (.int .i64 ((lns:Nat)+1))))
 have HG2:=hid (show Gr w w2 from by rw [hw2];exact (((HG.out.st (p:=⟨g,0,none⟩) (by show w.heap.size≤g;have:=HGQ.out;omega) (.int .i64 7)).st (p:=⟨g,2,none⟩) (by show w.heap.size≤g;have:=HGQ.out;omega) (.int .i64 0)).st (p:=⟨g,3,none⟩) (by show w.heap.size≤g;have:=HGQ.out;omega) (.int .i64 ((lns:Nat)+1))))
 clear az0 af0 az1 af1 az2 af2 az3 af3 az4 af4
 clear hw2 HB HY HG
 obtain ⟨bz0,bz1,bz2,bz3,bz4,bf0,bf1,bf2,bf3,bf4⟩:=HB2.out.all5
 obtain ⟨yz0,yz1,yz2,yz3,yz4,yf0,yf1,yf2,yf3,yf4⟩:=HY2.out.all5
 have HTX:=hid (fun (x:World)=>show Calls Tryz.prog 101 #[.agg #[.int .i64 7,.int .i64 (dg:Nat),.int .i64 0,.int .i64 ((lns:Nat)+1),.int .i64 lf],.int .u8 c.toNat] x (fun e w'=>e=.returned (.tuple #[.agg #[.int .i64 7,.int .i64 (dg:Nat),.int .i64 1,.int .i64 ((lns:Nat)+1),.int .i64 lf],.bool (false)])∧Gr x w') from text10_any 7 dg 0 ((lns:Nat)+1) lf c _ x (by omega) (by rw [h2];decide))
 go_upto_region 45 with (go_at_call 101;refine (HTX.out _).mono ?_;rintro e w3 ⟨rfl,hg3⟩)
 have hbn:=Bk.new w3 98 #[.int .i64 7,.int .i64 (dg:Nat),.int .i64 1,.int .i64 ((lns:Nat)+1),.int .i64 lf] (0,0)
 have hg34:=Gr.al (Gr.refl w3) (Obj.cells #[.int .i64 7,.int .i64 (dg:Nat),.int .i64 1,.int .i64 ((lns:Nat)+1),.int .i64 lf] 98)
 generalize w3.alloc (Obj.cells #[.int .i64 7,.int .i64 (dg:Nat),.int .i64 1,.int .i64 ((lns:Nat)+1),.int .i64 lf] 98)=w4 at *
 generalize w3.heap.size=gn at *
 have HN4:=hid hbn
 have HB4:=hid (HB2.out.gr (Gr.tr hg3 hg34))
 have HY4:=hid (HY2.out.gr (Gr.tr hg3 hg34))
 have HG4:=hid (Gr.tr HG2.out (Gr.tr hg3 hg34))
 clear bz0 bf0 bz1 bf1 bz2 bf2 bz3 bf3 bz4 bf4 hbn hg3 hg34 HTX HB2 HY2 HG2 yz0 yf0 yz1 yf1 yz2 yf2 yz3 yf3 yz4 yf4
 obtain ⟨nz0,nz1,nz2,nz3,nz4,nf0,nf1,nf2,nf3,nf4⟩:=HN4.out.all5
 obtain ⟨az0,az1,az2,az3,az4,af0,af1,af2,af3,af4⟩:=HB4.out.all5
 obtain ⟨yz0,yz1,yz2,yz3,yz4,yf0,yf1,yf2,yf3,yf4⟩:=HY4.out.all5
 go_region
 go_wp2_with fail
 refine at_world (P:=bodyPost _ _ _ _ _) (w0:=(putCs w4 (g+1) [.int .i64 7,.int .i64 (dg:Nat),.int .i64 1,.int .i64 ((lns:Nat)+1),.int .i64 lf] 0).drew) ?_
 intro wy hwy
 obtain ⟨u0,u1,u2,u3,u4,hgy⟩:=put5d hwy HY4.out HG4.out (by have:=HGQ.out;omega)
 refine bodyPost_ret (v:=.tuple #[.agg #[.int .i64 7,.int .i64 (dg:Nat),.int .i64 1,.int .i64 ((lns:Nat)+1),.int .i64 lf],.bool false,.bool (false)]) (by simp [results,Tryz.results72,go_sem,u0,u1,u2,u3,u4]) rfl ⟨rfl,hgy⟩
theorem beqN (c:UInt8) (k:Nat):((c.toNat:Int)==(k:Int))=(c.toNat==k):=by rw [Bool.eq_iff_iff,beq_iff_eq,beq_iff_eq];omega
def r10V (r:R10T):Value:=.agg #[.int .i64 (r.st:Nat),.int .i64 (r.dg:Nat),.int .i64 (r.ln:Nat),.int .i64 (r.lns:Nat),.int .i64 r.lf]
def Step10 (v:Value) (c:UInt8) (R:R10T×Bool×Bool):Prop:=∃r':R10T,(R.2.2=true→r'=R.1)∧∀w,Calls Tryz.prog 72 #[v,.int .u8 c.toNat] w fun e w'=>e=.returned (.tuple #[r10V r',.bool R.2.1,.bool R.2.2])∧Gr w w'
theorem st10_til {v:Value} {c:UInt8} {cs:Array Value} {d o:Bool} {R:R10T×Bool×Bool} (r':R10T) (h:∀w,Calls Tryz.prog 72 #[v,.int .u8 c.toNat] w (St10 w cs d o)) (hc:(.agg cs:Value)=r10V r') (hd:d=R.2.1) (ho:o=R.2.2) (hr:R.2.2=true→r'=R.1):Step10 v c R:=by
 subst hd ho
 exact ⟨r',hr,fun w=>(h w).mono fun e w' h=>⟨by rw [h.1,hc],h.2⟩⟩
theorem hexJ_le (c:UInt8):hexJ c≤15:=by
 unfold hexJ
 cases h:hexV c with
 | none=>simp
 | some d=>have:=hexV_lt h;simp only;omega
theorem hexJ_low (c:UInt8):-1≤hexJ c:=by
 unfold hexJ
 split
 ·omega
 ·omega
theorem step10_any (r:R10T) (c:UInt8) (hs:r.st≤9) (hd:r.dg≤15) (hl:r.ln≤200) (ht:r.lns≤64) (h0:0≤r.lf) (h1:r.lf < 1152921504606846976) (hf:r.st=0→r.dg≤14→r.lf < 72057594037927936) :
  Step10 (r10V r) c (r10Step r c):=by
 obtain ⟨st,dg,ln,lns,lf⟩:=r
 simp only at hs hd hl ht h0 h1 hf
 unfold r10V r10Step
 simp only
 obtain h | h | h | h | h | h | h | h | h | h:st=0∨st=1∨st=2∨st=3∨st=4∨st=5∨st=6∨st=7∨st=8∨st=9:=by omega
 all_goals subst h
 ·rw [if_pos rfl]
  by_cases h13:c.toNat=13
  ·rw [if_pos h13]
   exact st10_til ⟨2,dg,ln,lns,lf⟩ (fun w=>st10_a dg ln lns lf c w h13) rfl rfl (by simp) (fun _=>rfl)
  rw [if_neg h13]
  by_cases h59:c.toNat=59∧0 < dg
  ·rw [if_pos h59]
   exact st10_til ⟨1,dg,ln+1,lns,lf⟩ (fun w=>st10_b dg ln lns lf c w h59.1 h59.2 hl) (by simp [r10V]) rfl (by simp;omega) (fun _=>rfl)
  rw [if_neg h59]
  obtain ⟨X,hX⟩:∃X,IntKind.i64.wrap (16*lf)=X:=⟨_,rfl⟩
  obtain ⟨Y,hY⟩:∃Y,IntKind.i64.wrap (X+hexJ c)=Y:=⟨_,rfl⟩
  have hle:=hexJ_le c
  have hlo:=hexJ_low c
  have hYe:dg≤14→Y=16*lf+hexJ c:=fun h=>by
   have:=hf rfl h
   rw [←hY,←hX,IntWalk.i64_in (16*lf) (by omega),IntWalk.i64_in (16*lf+hexJ c) (by omega)]
  by_cases hn:0≤hexJ c
  ·have h59':c.toNat≠59:=fun h=>by
    have:hexJ c= -1:=by unfold hexJ;rw [hexV_low (.inr h)]
    omega
   refine st10_til ⟨0,dg+1,ln+1,lns,Y⟩ (fun w=>st10_cp dg ln lns lf X Y c w (by omega) (by omega) hX hY h13 h59' hn) (by simp [r10V]) rfl (by simp [hn];omega) (fun h=>?_)
   simp only [Bool.and_eq_true,decide_eq_true_eq] at h
   rw [hYe (by omega)]
  ·have hk:(decide (0≤hexJ c)&&decide (dg+1≤15))=false:=by rw [decide_eq_false hn];rfl
   by_cases h59':c.toNat=59
   ·exact st10_til ⟨0,dg+1,ln+1,lns,Y⟩ (fun w=>st10_cz dg ln lns lf X Y c w (by omega) (by omega) hX hY h59' (by omega) (by omega)) (by simp [r10V]) rfl hk.symm (fun h=>by rw [hk] at h;cases h)
   ·exact st10_til ⟨0,dg+1,ln+1,lns,Y⟩ (fun w=>st10_cn dg ln lns lf X Y c w (by omega) (by omega) hX hY h13 h59' (by omega)) (by simp [r10V]) rfl hk.symm (fun h=>by rw [hk] at h;cases h)
 ·rw [if_neg (by decide),if_pos rfl]
  by_cases h13:c.toNat=13
  ·rw [if_pos h13]
   exact st10_til ⟨2,dg,ln,lns,lf⟩ (fun w=>st10_d dg ln lns lf c w h13) rfl rfl rfl (fun _=>rfl)
  ·rw [if_neg h13]
   exact st10_til ⟨1,dg,ln+1,lns,lf⟩ (fun w=>st10_e dg ln lns lf c w h13 hl) (by simp [r10V]) rfl (by show (visC c&&decide (((ln:Nat):Int)+1≤200))=(visC c&&decide (ln+1≤200));rw [show decide (((ln:Nat):Int)+1≤200)=decide (ln+1≤200) from decide_eq_decide.2 (by omega)]) (fun _=>rfl)
 ·rw [if_neg (by decide),if_neg (by decide),if_pos rfl]
  by_cases hz:lf=0
  ·rw [if_pos hz]
   exact st10_til ⟨6,dg,0,lns,lf⟩ (fun w=>st10_f0 dg ln lns lf c w hz) rfl rfl (beqN c 10) (fun _=>rfl)
  ·rw [if_neg hz]
   exact st10_til ⟨3,dg,0,lns,lf⟩ (fun w=>st10_f1 dg ln lns lf c w hz) rfl rfl (beqN c 10) (fun _=>rfl)
 ·rw [if_neg (by decide),if_neg (by decide),if_neg (by decide),if_pos rfl]
  by_cases hz:lf-1=0
  ·rw [if_pos hz]
   exact st10_til ⟨4,dg,ln,lns,lf-1⟩ (fun w=>st10_g0 dg ln lns lf c w hz h0 (by omega)) rfl rfl rfl (fun _=>rfl)
  ·rw [if_neg hz]
   exact st10_til ⟨3,dg,ln,lns,lf-1⟩ (fun w=>st10_g1 dg ln lns lf c w hz h0 (by omega)) rfl rfl rfl (fun _=>rfl)
 ·rw [if_neg (by decide),if_neg (by decide),if_neg (by decide),if_neg (by decide),if_pos rfl]
  exact st10_til ⟨5,dg,ln,lns,lf⟩ (fun w=>st10_h dg ln lns lf c w) rfl rfl (beqN c 13) (fun _=>rfl)
 ·rw [if_neg (by decide),if_neg (by decide),if_neg (by decide),if_neg (by decide),if_neg (by decide),if_pos rfl]
  exact st10_til ⟨0,0,0,0,0⟩ (fun w=>st10_i dg ln lns lf c w) rfl rfl (beqN c 10) (fun _=>rfl)
 ·rw [if_neg (by decide),if_neg (by decide),if_neg (by decide),if_neg (by decide),if_neg (by decide),if_neg (by decide),if_pos rfl]
  by_cases h13:c.toNat=13
  ·rw [if_pos h13]
   exact st10_til ⟨9,dg,ln,lns,lf⟩ (fun w=>st10_j dg ln lns lf c w h13) rfl rfl rfl (fun _=>rfl)
  ·rw [if_neg h13]
   cases hv:visC c with
   | true=>exact st10_til ⟨7,dg,1,lns+1,lf⟩ (fun w=>st10_kt dg ln lns lf c w h13 hv ht) (by simp [r10V]) rfl (by simp;omega) (fun _=>rfl)
   | false=>exact st10_til ⟨7,dg,1,lns+1,lf⟩ (fun w=>st10_kf dg ln lns lf c w h13 hv ht) (by simp [r10V]) rfl rfl (fun _=>rfl)
 ·rw [if_neg (by decide),if_neg (by decide),if_neg (by decide),if_neg (by decide),if_neg (by decide),if_neg (by decide),if_neg (by decide),if_pos rfl]
  by_cases h13:c.toNat=13
  ·rw [if_pos h13]
   exact st10_til ⟨8,dg,ln,lns,lf⟩ (fun w=>st10_l dg ln lns lf c w h13) rfl rfl rfl (fun _=>rfl)
  ·rw [if_neg h13]
   exact st10_til ⟨7,dg,ln+1,lns,lf⟩ (fun w=>st10_m dg ln lns lf c w h13 hl) (by simp [r10V]) rfl (by show (visC c&&decide (((ln:Nat):Int)+1≤200))=(visC c&&decide (ln+1≤200));rw [show decide (((ln:Nat):Int)+1≤200)=decide (ln+1≤200) from decide_eq_decide.2 (by omega)]) (fun _=>rfl)
 ·rw [if_neg (by decide),if_neg (by decide),if_neg (by decide),if_neg (by decide),if_neg (by decide),if_neg (by decide),if_neg (by decide),if_neg (by decide),if_pos rfl]
  exact st10_til ⟨6,dg,ln,lns,lf⟩ (fun w=>st10_n dg ln lns lf c w) rfl rfl (beqN c 10) (fun _=>rfl)
 ·rw [if_neg (by decide),if_neg (by decide),if_neg (by decide),if_neg (by decide),if_neg (by decide),if_neg (by decide),if_neg (by decide),if_neg (by decide),if_neg (by decide)]
  exact st10_til ⟨10,dg,ln,lns,lf⟩ (fun w=>st10_o dg ln lns lf c w) rfl rfl (beqN c 10) (fun _=>rfl)
end Go.Proofs.YtgfckbhkgggkeaaGreatDoor
/- XClient18 -/
namespace Go.Proofs.YtgfckbhkgggkeaaGreatDoor
open Lib (hid)
open Go.RowKit
def Take10 (w:World) (c:UInt8) (R:R10T×Bool×Bool) (e:Ending) (w':World):Prop:=Gr w w'∧
 if R.2.2=true then ∃v,e=.returned (.tuple #[r10V R.1,v,.int .i64 1,.int .i64 0])∧Byts w' v (if R.2.1 then [c] else [])∧Fresh w v
 else ∃r':R10T,e=.returned (.tuple #[r10V r',.slice none 0 0,.int .i64 0,.int .i64 2])
theorem own_fresh18 {w w':World} {e:TypeId} {size n:Nat} {v:Value} {xs:List Value} (h:Own w w' e size v n xs):Fresh w v:=fun g hg=>by
 rcases h.2 with ⟨rfl,_⟩ | ⟨b,cap,cur,hv,hb,_⟩
 ·cases hg
 ·rw [hv] at hg
  have e:b=g:=by simpa [Value.ownBlock] using hg
  omega
set_option maxHeartbeats 4000000 in
set_option maxRecDepth 100000 in
theorem done10_any (r:R10T) (w:World):Calls Tryz.prog 47 #[r10V r] w fun e w'=>e=.returned (.bool (((r.st:Nat):Int)==10))∧Gr w w':=by
 obtain ⟨st,dg,ln,lns,lf⟩:=r
 unfold r10V
 simp only
 have hb:=Bk.new w 98 #[.int .i64 (st:Nat),.int .i64 (dg:Nat),.int .i64 (ln:Nat),.int .i64 (lns:Nat),.int .i64 lf] (0,0)
 have hg:=Gr.al (Gr.refl w) (Obj.cells #[.int .i64 (st:Nat),.int .i64 (dg:Nat),.int .i64 (ln:Nat),.int .i64 (lns:Nat),.int .i64 lf] 98)
 go_enter Tryz.func47,Tryz.ntmps47
 go_upto_region 1 with fail
 generalize w.alloc (Obj.cells #[.int .i64 (st:Nat),.int .i64 (dg:Nat),.int .i64 (ln:Nat),.int .i64 (lns:Nat),.int .i64 lf] 98)=w1 at *
 generalize w.heap.size=g at *
 have z0:w1.cell? ⟨g,0,none⟩=some (.int .i64 (st:Nat)):=hb.cell 0
 clear hb
 go_wp2_with fail
 go_ret
 exact ⟨rfl,hg⟩
set_option maxHeartbeats 16000000 in
set_option maxRecDepth 100000 in
theorem take10_any (r:R10T) (c:UInt8) (b o cb:Nat) (w:World) (hc:w.cell? ⟨b,o,none⟩=some (.int .u8 c.toNat)) (hs:r.st≤9) (hd:r.dg≤15) (hl:r.ln≤200) (ht:r.lns≤64) (h0:0≤r.lf) (h1:r.lf < 1152921504606846976) (hf:r.st=0→r.dg≤14→r.lf < 72057594037927936) :
  Calls Tryz.prog 46 #[r10V r,.slice (some ⟨b,o,none⟩) 1 cb] w (Take10 w c (r10Step r c)):=by
 obtain ⟨r',hr',hst⟩:=step10_any r c hs hd hl ht h0 h1 hf
 have HST:=hid hst
 have HR':=hid hr'
 have d11:(((r.st:Nat):Int)==11)=false:=by simp;omega
 have d10:(((r.st:Nat):Int)==10)=false:=by simp;omega
 generalize r10Step r c=R at *
 obtain ⟨R1,d,ok⟩:=R
 obtain ⟨st,dg,ln,lns,lf⟩:=r
 obtain ⟨s1,g1,l1,n1,f1⟩:=r'
 simp only at HST HR' d11 d10 ⊢
 clear hst hr' hs hd hl ht h0 h1 hf
 unfold r10V at HST ⊢
 simp only at HST ⊢
 obtain ⟨hb,hy,hg⟩:=st10_start w #[.int .i64 (st:Nat),.int .i64 (dg:Nat),.int .i64 (ln:Nat),.int .i64 (lns:Nat),.int .i64 lf] #[.int .i64 0,.int .i64 0,.int .i64 0,.int .i64 0,.int .i64 0] 98
 go_enter Tryz.func46,Tryz.ntmps46
 go_upto_region 1 with fail
 generalize (w.alloc (Obj.cells #[.int .i64 (st:Nat),.int .i64 (dg:Nat),.int .i64 (ln:Nat),.int .i64 (lns:Nat),.int .i64 lf] 98)).alloc (Obj.cells #[.int .i64 0,.int .i64 0,.int .i64 0,.int .i64 0,.int .i64 0] 98)=w1 at *
 generalize hgq:w.heap.size=g at *
 have HGQ:=hid hgq
 have HB:=hid hb
 have HY:=hid hy
 have HG:=hid hg
 have HC:=hid hc
 obtain ⟨az0,az1,az2,az3,az4,af0,af1,af2,af3,af4⟩:=HB.out.all5
 clear hb hy hg hgq hc
 go_wp2_with fail
 clear az0 az1 az2 az3 az4 af0 af1 af2 af3 af4
 go_loopw [8,9,10,11,12] (fun x8 x9 x10 x11 x12 wr=>(x8=.slice none 0 0∧x9=.int .i64 0∧Bk wr g 98 #[.int .i64 (st:Nat),.int .i64 (dg:Nat),.int .i64 (ln:Nat),.int .i64 (lns:Nat),.int .i64 lf] (0,0)∧Bk wr (g+1) 98 #[.int .i64 0,.int .i64 0,.int .i64 0,.int .i64 0,.int .i64 0] (0,0)∧Gr w wr)∨(x9=.int .i64 1∧ok=true∧Bk wr g 98 #[.int .i64 (s1:Nat),.int .i64 (g1:Nat),.int .i64 (l1:Nat),.int .i64 (n1:Nat),.int .i64 f1] (0,0)∧Bk wr (g+1) 98 #[.int .i64 0,.int .i64 0,.int .i64 0,.int .i64 0,.int .i64 0] (0,0)∧Gr w wr∧∃dl:List UInt8,dl=(if d then [c] else [])∧Own w wr 5 1 x8 dl.length (dl.map byt))) (fun _ x9 _ _ _ _=>1-(intOf x9).toNat)
 case atStart=>exact .inl ⟨rfl,rfl,HB.out,HY.out,HG.out⟩
 case round=>
  rcases hrel with ⟨rfl,rfl,hb,hy,hg⟩ | ⟨rfl,rfl,hb,hy,hg,dl,hdl,hown⟩
  ·have hc1:=Gr.cell hg HC.out
   have HB:=hid hb
   have HY:=hid hy
   have HG:=hid hg
   clear hb hy hg
   obtain ⟨az0,az1,az2,az3,az4,af0,af1,af2,af3,af4⟩:=HB.out.all5
   go_upto_region 9 with fail
   have p0:=gx_cell (r:=none) az0 (by simp)
   have p1:=gx_cell (r:=none) az1 (by simp)
   have p2:=gx_cell (r:=none) az2 (by simp)
   have p3:=gx_cell (r:=none) az3 (by simp)
   have p4:=gx_cell (r:=none) az4 (by simp)
   have p5:=gx_cell (r:=none) hc1 (by simp)
   refine wp_region_mix [0,1,2,3,4,5,6,7,8,9] none 4 (by kernel_rfl) rfl (by kernel_rfl) (fun o _ _ _ _ h=>by cases o <;> exact h) ?_
   simp only [pickOps,List.filterMap_cons,List.filterMap_nil,List.getElem?_cons_zero,List.getElem?_cons_succ]
   repeat (first | (refine wpGq_step (fun K hK=>?_);go_simp;refine hK _ ?_;clear hK K) | (refine wpGq_step (fun K hK=>?_);go_simp;simp only [↓IntWalk.iteOmega];go_simp;refine hK _ ?_;clear hK K) | (refine wpGq_step (fun K hK=>?_);go_simp;apply Exists.intro;refine ⟨fun _=>?_,hK _ ?_⟩;(go_at_call 72;exact HST.out _);clear hK K))
   refine wpGq_nil ?_
   refine wpG_one 10 (by kernel_rfl) rfl rfl (fun K hK wa hga=>?_)
   go_simp
   refine hK _ _ ((Gr.al hga _).by _) ?_
   clear hK K
   have hna:=Bk.new wa 98 #[.int .i64 0,.int .i64 0,.int .i64 0,.int .i64 0,.int .i64 0] (0,0)
   refine wpG_one 11 (by kernel_rfl) rfl rfl (fun K hK wb hgb=>?_)
   have hnb:=hna.gr hgb
   obtain ⟨nz0,nz1,nz2,nz3,nz4,nf0,nf1,nf2,nf3,nf4⟩:=hnb.all5
   have hgwb:=Gr.tr (Gr.al hga (.cells #[.int .i64 0,.int .i64 0,.int .i64 0,.int .i64 0,.int .i64 0] 98)) hgb
   have hgn:wr.heap.size≤wa.heap.size:=hga.size
   generalize wa.heap.size=gn at *
   go_simp
   refine hK _ _ ((putCs_gr hgn [.int .i64 (s1:Nat),.int .i64 (g1:Nat),.int .i64 (l1:Nat),.int .i64 (n1:Nat),.int .i64 f1] 0 _ hgwb).by _) ?_
   clear hK K
   refine wpG_quiet [12,13] 0 ((putCs_gr hgn [.int .i64 (s1:Nat),.int .i64 (g1:Nat),.int .i64 (l1:Nat),.int .i64 (n1:Nat),.int .i64 f1] 0 _ hgwb).by _) rfl (by kernel_rfl) (fun o _ _ _ _ h=>by cases o <;> exact h) ?_
   simp only [pickOps,List.filterMap_cons,List.filterMap_nil,List.getElem?_cons_zero,List.getElem?_cons_succ]
   repeat (first | (refine wpGq_step (fun K hK=>?_);go_simp;refine hK _ ?_;clear hK K) | (refine wpGq_step (fun K hK=>?_);go_simp;simp only [↓IntWalk.iteOmega];go_simp;refine hK _ ?_;clear hK K) | (refine wpGq_step (fun K hK=>?_);go_simp;apply Exists.intro;refine ⟨fun _=>?_,hK _ ?_⟩;fail;clear hK K))
   refine wpGq_nil ?_
   refine wpG_done (by kernel_rfl) (fun wz hgz=>?_)
   have HNZ:=hid ((putCs_bk hnb rfl:Bk (putCs wb gn [.int .i64 (s1:Nat),.int .i64 (g1:Nat),.int .i64 (l1:Nat),.int .i64 (n1:Nat),.int .i64 f1] 0) gn 98 #[.int .i64 (s1:Nat),.int .i64 (g1:Nat),.int .i64 (l1:Nat),.int .i64 (n1:Nat),.int .i64 f1] (0,0)).gr hgz)
   have HWZ:=hid (Gr.tr (putCs_gr hgn [.int .i64 (s1:Nat),.int .i64 (g1:Nat),.int .i64 (l1:Nat),.int .i64 (n1:Nat),.int .i64 f1] 0 _ hgwb) hgz)
   have HBz:=hid (HB.out.gr HWZ.out)
   have HYz:=hid (HY.out.gr HWZ.out)
   have HGz:=hid (Gr.tr HG.out HWZ.out)
   have hc2:=Gr.cell HWZ.out hc1
   clear p0 p1 p2 p3 p4 p5 nz0 nz1 nz2 nz3 nz4 nf0 nf1 nf2 nf3 nf4 hna hnb hgz hga hgb hgwb hgn az0 az1 az2 az3 az4 af0 af1 af2 af3 af4 HB HY HG hc1
   obtain ⟨az0,az1,az2,az3,az4,af0,af1,af2,af3,af4⟩:=HBz.out.all5
   obtain ⟨yz0,yz1,yz2,yz3,yz4,yf0,yf1,yf2,yf3,yf4⟩:=HYz.out.all5
   cases ok with
   | false=>
     go_upto_region 12 with fail
     refine at_world (P:=Code.wp _ _ _ _) (w0:=wz.setCell ⟨g,0,none⟩ (.int .i64 11)) ?_
     intro w5 hw5
     have HB5:=hid (show Bk w5 g 98 #[.int .i64 11,.int .i64 (dg:Nat),.int .i64 (ln:Nat),.int .i64 (lns:Nat),.int .i64 lf] (0,0) from by rw [hw5];exact HBz.out.set 0 (.int .i64 11))
     have HY5:=hid (show Bk w5 (g+1) 98 #[.int .i64 0,.int .i64 0,.int .i64 0,.int .i64 0,.int .i64 0] (0,0) from by rw [hw5];exact HYz.out.far (p:=⟨g,0,none⟩) (by simp) _)
     have HG5:=hid (show Gr w w5 from by rw [hw5];exact HGz.out.st (p:=⟨g,0,none⟩) (by show w.heap.size≤g;have:=HGQ.out;omega) _)
     clear hw5 HBz HYz HGz az0 az1 az2 az3 az4 af0 af1 af2 af3 af4 yz0 yz1 yz2 yz3 yz4 yf0 yf1 yf2 yf3 yf4 HNZ HWZ
     obtain ⟨az0,az1,az2,az3,az4,af0,af1,af2,af3,af4⟩:=HB5.out.all5
     obtain ⟨yz0,yz1,yz2,yz3,yz4,yf0,yf1,yf2,yf3,yf4⟩:=HY5.out.all5
     go_wp2_with fail
     refine at_world (P:=bodyPost _ _ _ _ _) (w0:=putCs w5 (g+1) [.int .i64 11,.int .i64 (dg:Nat),.int .i64 (ln:Nat),.int .i64 (lns:Nat),.int .i64 lf] 0) ?_
     intro wy hwy
     obtain ⟨u0,u1,u2,u3,u4,hgy⟩:=put5 hwy HY5.out HG5.out (by have:=HGQ.out;omega)
     refine bodyPost_ret (v:=.tuple #[.agg #[.int .i64 11,.int .i64 (dg:Nat),.int .i64 (ln:Nat),.int .i64 (lns:Nat),.int .i64 lf],.slice none 0 0,.int .i64 0,.int .i64 2]) (by simp [results,Tryz.results46,go_sem,u0,u1,u2,u3,u4]) rfl ⟨hgy,?_⟩
     rw [if_neg (by simp)]
     exact ⟨⟨11,dg,ln,lns,lf⟩,rfl⟩
   | true=>
     obtain ⟨nz0,nz1,nz2,nz3,nz4,-,-,-,-,-⟩:=HNZ.out.all5
     cases d with
     | false=>
       go_upto_region 6 with fail
       refine at_world (P:=Code.wp _ _ _ _) (w0:=putCs wz g [.int .i64 (s1:Nat),.int .i64 (g1:Nat),.int .i64 (l1:Nat),.int .i64 (n1:Nat),.int .i64 f1] 0) ?_
       intro w5 hw5
       have HB5:=hid (show Bk w5 g 98 #[.int .i64 (s1:Nat),.int .i64 (g1:Nat),.int .i64 (l1:Nat),.int .i64 (n1:Nat),.int .i64 f1] (0,0) from by rw [hw5];exact putCs_bk HBz.out rfl)
       have HY5:=hid (show Bk w5 (g+1) 98 #[.int .i64 0,.int .i64 0,.int .i64 0,.int .i64 0,.int .i64 0] (0,0) from by rw [hw5];exact bk_byo HYz.out (putCs_by17 [.int .i64 (s1:Nat),.int .i64 (g1:Nat),.int .i64 (l1:Nat),.int .i64 (n1:Nat),.int .i64 f1] 0 _ _ ((Gr.refl wz).by (some g))) (by simp))
       have HG5:=hid (show Gr w w5 from by rw [hw5];exact putCs_gr (by have:=HGQ.out;omega) _ _ _ HGz.out)
       clear hw5 HBz HYz HGz az0 az1 az2 az3 az4 af0 af1 af2 af3 af4 yz0 yz1 yz2 yz3 yz4 yf0 yf1 yf2 yf3 yf4 HNZ HWZ nz0 nz1 nz2 nz3 nz4
       go_wp2_with fail
       exact ⟨.inr ⟨by go_num,trivial,HB5.out,HY5.out,HG5.out,[],by simp,Own.nil _ _ _ _⟩,by simp [intOf]⟩
     | true=>
       go_upto_region 15 with (at_builtin;refine wpList_app1x (W0:=w) (n:=0) (xs:=[]) (v:=.slice none 0 0) (news:=[byt c]) elemByte rfl _ _ rfl rfl rfl HGz.out.size (Own.nil _ _ _ _) rfl (one_byt [c]) (by omega) (by omega) ?_;intro v6 w6 hown6 happ6)
       have hg6:Gr wz w6:=gr_none happ6.grown
       have HO6:=hid hown6
       have HB6:=hid (HBz.out.gr hg6)
       have HY6:=hid (HYz.out.gr hg6)
       have HG6:=hid (Gr.tr HGz.out hg6)
       have HN6:=hid (HNZ.out.gr hg6)
       clear hown6 happ6 hg6 HBz HYz HGz az0 az1 az2 az3 az4 af0 af1 af2 af3 af4 yz0 yz1 yz2 yz3 yz4 yf0 yf1 yf2 yf3 yf4 HNZ HWZ nz0 nz1 nz2 nz3 nz4 hc2
       obtain ⟨az0,az1,az2,az3,az4,af0,af1,af2,af3,af4⟩:=HB6.out.all5
       obtain ⟨nz0,nz1,nz2,nz3,nz4,-,-,-,-,-⟩:=HN6.out.all5
       go_upto_region 6 with fail
       refine at_world (P:=Code.wp _ _ _ _) (w0:=putCs w6 g [.int .i64 (s1:Nat),.int .i64 (g1:Nat),.int .i64 (l1:Nat),.int .i64 (n1:Nat),.int .i64 f1] 0) ?_
       intro w5 hw5
       have HB5:=hid (show Bk w5 g 98 #[.int .i64 (s1:Nat),.int .i64 (g1:Nat),.int .i64 (l1:Nat),.int .i64 (n1:Nat),.int .i64 f1] (0,0) from by rw [hw5];exact putCs_bk HB6.out rfl)
       have HY5:=hid (show Bk w5 (g+1) 98 #[.int .i64 0,.int .i64 0,.int .i64 0,.int .i64 0,.int .i64 0] (0,0) from by rw [hw5];exact bk_byo HY6.out (putCs_by17 [.int .i64 (s1:Nat),.int .i64 (g1:Nat),.int .i64 (l1:Nat),.int .i64 (n1:Nat),.int .i64 f1] 0 _ _ ((Gr.refl w6).by (some g))) (by simp))
       have HG5:=hid (show Gr w w5 from by rw [hw5];exact putCs_gr (by have:=HGQ.out;omega) _ _ _ HG6.out)
       have HO5:=hid (show Own w w5 5 1 v6 1 [byt c] from by rw [hw5];exact own_kr HO6.out (putCs_by17 [.int .i64 (s1:Nat),.int .i64 (g1:Nat),.int .i64 (l1:Nat),.int .i64 (n1:Nat),.int .i64 f1] 0 _ _ ((Gr.refl w6).by (some g))) (.inr (own_ne_bk HO6.out HB6.out (by decide))))
       clear hw5 HB6 HY6 HG6 az0 az1 az2 az3 az4 af0 af1 af2 af3 af4 HN6 nz0 nz1 nz2 nz3 nz4 HO6
       go_wp2_with fail
       exact ⟨.inr ⟨by go_num,trivial,HB5.out,HY5.out,HG5.out,[c],by simp,HO5.out⟩,by simp [intOf]⟩
  ·obtain ⟨A8,c8,rfl⟩:=hown.form
   have HB:=hid hb
   have HY:=hid hy
   have HG:=hid hg
   have HO:=hid hown
   have HDL:=hid hdl
   clear hb hy hg hown hdl
   obtain ⟨az0,az1,az2,az3,az4,af0,af1,af2,af3,af4⟩:=HB.out.all5
   obtain ⟨yz0,yz1,yz2,yz3,yz4,yf0,yf1,yf2,yf3,yf4⟩:=HY.out.all5
   go_wp2_with fail
   refine at_world (P:=bodyPost _ _ _ _ _) (w0:=putCs wr (g+1) [.int .i64 (s1:Nat),.int .i64 (g1:Nat),.int .i64 (l1:Nat),.int .i64 (n1:Nat),.int .i64 f1] 0) ?_
   intro wy hwy
   have HO2:=hid (show Own w wy 5 1 (.slice A8 dl.length c8) dl.length (dl.map byt) from by rw [hwy];exact own_kr HO.out (putCs_by17 [.int .i64 (s1:Nat),.int .i64 (g1:Nat),.int .i64 (l1:Nat),.int .i64 (n1:Nat),.int .i64 f1] 0 _ _ ((Gr.refl wr).by (some (g+1)))) (.inr (own_ne_bk HO.out HY.out (by decide))))
   obtain ⟨u0,u1,u2,u3,u4,hgy⟩:=put5 hwy HY.out HG.out (by have:=HGQ.out;omega)
   refine bodyPost_ret (v:=.tuple #[.agg #[.int .i64 (s1:Nat),.int .i64 (g1:Nat),.int .i64 (l1:Nat),.int .i64 (n1:Nat),.int .i64 f1],.slice A8 dl.length c8,.int .i64 1,.int .i64 0]) (by simp [results,Tryz.results46,go_sem,u0,u1,u2,u3,u4]) rfl ⟨hgy,?_⟩
   rw [if_pos rfl]
   have hr1:=HR'.out trivial
   subst hr1
   exact ⟨_,rfl,by rw [←HDL.out];exact HO2.out.sl (by decide),own_fresh18 HO2.out⟩
set_option maxHeartbeats 4000000 in
set_option maxRecDepth 100000 in
theorem new13_any (k z:Nat) (w:World) (h1:1≤k) (h4:k≤4) (hz:z≤1099511627776) (h0:k≠1→z=0):Calls Tryz.prog 51 #[.int .i64 (k:Nat),.int .i64 (z:Nat)] w fun e w'=>Gr w w'∧∃g,e=.returned (.tuple #[.pointer (some ⟨g,0,none⟩),.bool true])∧F13 w' g (FrT.new k z) 0∧w.heap.size≤g:=by
 have hF:F13 (w.alloc (.cells #[.int .i64 (k:Nat),.int .i64 (z:Nat),.int .i64 0,.int .i64 0,.int .i64 0,.int .i64 0,.int .i64 0,.bool false] 100)) w.heap.size (FrT.new k z) 0:=
  ⟨z,⟨0,0,0,0,0⟩,Bk.new w _ _ (0,0),r10_start,fun _=>rfl,fun h=>by have:=h0 h;omega⟩
 have hG:=Gr.al (Gr.refl w) (.cells #[.int .i64 (k:Nat),.int .i64 (z:Nat),.int .i64 0,.int .i64 0,.int .i64 0,.int .i64 0,.int .i64 0,.bool false] 100)
 have d1:decide ((k:Int) < 1)=false:=decide_eq_false (by omega)
 have d2:decide (4 < (k:Int))=false:=decide_eq_false (by omega)
 have d3:decide ((z:Int) < 0)=false:=decide_eq_false (by omega)
 have d4:decide (1099511627776 < (z:Int))=false:=decide_eq_false (by omega)
 by_cases hk:k=1
 ·have d5:((k:Int) != 1)=false:=by simp;omega
  clear h1 h4 hz h0 hk
  go_enter Tryz.func51,Tryz.ntmps51
  go_wp2_with fail
  go_ret2
  exact ⟨hG,_,rfl,hF,Nat.le_refl _⟩
 ·have d5:((k:Int) != 1)=true:=by simp;omega
  have d6:((z:Int) != 0)=false:=by have:=h0 hk;simp;omega
  clear h1 h4 hz h0 hk
  go_enter Tryz.func51,Tryz.ntmps51
  go_wp2_with fail
  go_ret2
  exact ⟨hG,_,rfl,hF,Nat.le_refl _⟩
set_option maxHeartbeats 4000000 in
set_option maxRecDepth 100000 in
theorem done13_any (fr:FrT) (m g:Nat) (w:World) (h:F13 w g fr m) (hbad:fr.bad=false) (hp:fr.ck.pos≤9) (h1:1≤fr.kind) (h4:fr.kind≤4):Calls Tryz.prog 24 #[.pointer (some ⟨g,0,none⟩)] w fun e w'=>e=.returned (.bool (frDone fr))∧Gr w w':=by
 obtain ⟨lv,r,hb,hr,hl,-⟩:=h
 obtain ⟨kd,left,ck,bad,en⟩:=fr
 simp only at hbad hp h1 h4 hb hr hl
 subst hbad
 unfold r13Cs at hb
 obtain h | h | h | h:kd=1∨kd=2∨kd=3∨kd=4:=by omega
 all_goals subst h
 ·obtain rfl:=hl rfl
  have z0:w.cell? ⟨g,0,none⟩=some (.int .i64 1):=hb.cell 0
  have z1:w.cell? ⟨g,1,none⟩=some (.int .i64 (left:Nat)):=hb.cell 1
  have hX:frDone ⟨1,left,ck,false,en⟩=((left:Int)==0):=by unfold frDone;simp only [if_true];rw [Bool.eq_iff_iff,beq_iff_eq,beq_iff_eq];omega
  have HX:=hid hX
  clear hb hr hl hp h1 h4 hX
  go_enter Tryz.func24,Tryz.ntmps24
  go_wp2_with fail
  go_ret
  rw [HX.out]
  exact ⟨rfl,Gr.refl _⟩
 ·have z0:w.cell? ⟨g,0,none⟩=some (.int .i64 2):=hb.cell 0
  have HD:=hid (fun (x:World)=>done10_any r x)
  have hX:frDone ⟨2,left,ck,false,en⟩=(((r.st:Nat):Int)==10):=by
   have:=r10_done hp hr
   unfold frDone
   simp only [if_true,if_neg (show ¬(2:Nat)=1 by decide),Bool.not_false,Bool.true_and]
   rw [Bool.eq_iff_iff,beq_iff_eq,beq_iff_eq];omega
  have HX:=hid hX
  obtain ⟨st,dg,ln,lns,lf⟩:=r
  unfold r10V at HD
  simp only at HD HX hb
  have z2:w.cell? ⟨g,2,none⟩=some (.int .i64 (st:Nat)):=hb.cell 2
  have z3:w.cell? ⟨g,3,none⟩=some (.int .i64 (dg:Nat)):=hb.cell 3
  have z4:w.cell? ⟨g,4,none⟩=some (.int .i64 (ln:Nat)):=hb.cell 4
  have z5:w.cell? ⟨g,5,none⟩=some (.int .i64 (lns:Nat)):=hb.cell 5
  have z6:w.cell? ⟨g,6,none⟩=some (.int .i64 lf):=hb.cell 6
  clear hb hr hl hp h1 h4 hX
  go_enter Tryz.func24,Tryz.ntmps24
  go_wp2_with (go_at_call 47;refine (HD.out _).mono ?_;rintro e w1 ⟨rfl,hg1⟩)
  go_ret
  rw [HX.out]
  exact ⟨rfl,hg1⟩
 ·have z0:w.cell? ⟨g,0,none⟩=some (.int .i64 3):=hb.cell 0
  have z7:w.cell? ⟨g,7,none⟩=some (.bool en):=hb.cell 7
  clear hb hr hl hp h1 h4
  go_enter Tryz.func24,Tryz.ntmps24
  go_wp2_with fail
  go_ret
  exact ⟨rfl,Gr.refl _⟩
 ·have z0:w.cell? ⟨g,0,none⟩=some (.int .i64 4):=hb.cell 0
  clear hb hr hl hp h1 h4
  go_enter Tryz.func24,Tryz.ntmps24
  go_wp2_with fail
  go_ret
  exact ⟨rfl,Gr.refl _⟩
set_option maxHeartbeats 4000000 in
set_option maxRecDepth 100000 in
theorem end13_any (fr:FrT) (m g:Nat) (w:World) (h:F13 w g fr m) (hbad:fr.bad=false) (hp:fr.ck.pos≤9) (h1:1≤fr.kind) (h4:fr.kind≤4):Calls Tryz.prog 27 #[.pointer (some ⟨g,0,none⟩)] w fun e w'=>e=.returned (.int .i64 (if frDone fr.stop then 0 else 13))∧w.grownBy w' (some g):=by
 obtain ⟨lv,r,hb,hr,hl,hl'⟩:=h
 have hF:F13 (w.setCell ⟨g,7,none⟩ (.bool true)) g fr.stop m:=⟨lv,r,hb.set 7 (.bool true),hr,hl,hl'⟩
 have hK:w.grownBy (w.setCell ⟨g,7,none⟩ (.bool true)) (some g):=by_st ((Gr.refl w).by (some g)) 7 _
 have HD:=hid (done13_any fr.stop m g _ hF hbad hp h1 h4)
 have z7:w.cell? ⟨g,7,none⟩=some (.bool fr.ended):=hb.cell 7
 have f7:w.frozen? ⟨g,7,none⟩=false:=hb.free 7 (.inr (Nat.zero_le _))
 clear hb hr hl hl' hF hp h1 h4 hbad
 generalize frDone fr.stop=D at *
 generalize fr.ended=en at *
 go_enter Tryz.func27,Tryz.ntmps27
 go_upto_region 2 with fail
 generalize w.setCell ⟨g,7,none⟩ (.bool true)=w1 at *
 clear z7 f7
 cases D
 all_goals
  go_wp2_with (go_at_call 24;refine HD.out.mono ?_;rintro e w2 ⟨rfl,hg2⟩)
  go_ret
  exact ⟨rfl,by_tr hK hg2⟩
def Take13 (w:World) (g:Nat) (u:Value) (n:Nat) (R:List UInt8×Nat×Nat×FrT) (e:Ending) (w':World):Prop:=w.grownBy w' (some g)∧
 if R.2.2.1=0 then ∃v k,e=.returned (.tuple #[v,.int .i64 k,.int .i64 0])∧Byts w' v R.1∧(∀b,v.ownBlock=some b→u.ownBlock=some b∨w.heap.size≤b)∧F13 w' g R.2.2.2 (n+R.1.length)
 else ∃v k,e=.returned (.tuple #[v,.int .i64 k,.int .i64 2])∧∃l,Byts w' v l∧l.length≤1
set_option maxHeartbeats 16000000 in
set_option maxRecDepth 100000 in
theorem take13_any (fr:FrT) (n g b o cb:Nat) (c:UInt8) (w:World) (h:F13 w g fr n) (hbad:fr.bad=false) (hck:CkOk fr.ck) (h1:1≤fr.kind) (h4:fr.kind≤4) (hen:fr.ended=false) (hd:frDone fr=false) (hn:n≤1000000) (hleft:fr.left≤1099511627776) (hy:Byts w (.slice (some ⟨b,o,none⟩) 1 cb) [c]) (hbg:b≠g) :
  Calls Tryz.prog 23 #[.pointer (some ⟨g,0,none⟩),.slice (some ⟨b,o,none⟩) 1 cb] w (Take13 w g (.slice (some ⟨b,o,none⟩) 1 cb) n (frTk fr [c])):=by
 obtain ⟨lv,r,hb,hr,hl,hl'⟩:=h
 obtain ⟨kd,left,ck,bad,en⟩:=fr
 simp only at hbad hck h1 h4 hen hb hr hl hl' hleft
 subst hbad hen
 unfold r13Cs at hb
 have HY:=hid (fun (x:World) (k:w.grownBy x (some g))=>(Sl.kept hy k (.inr (by simpa [Value.ownBlock] using hbg)):Byts x (.slice (some ⟨b,o,none⟩) 1 cb) [c]))
 have hgl:=hb.lt
 obtain h | h | h | h:kd=1∨kd=3∨kd=4∨kd=2:=by omega
 all_goals subst h
 ·obtain rfl:=hl rfl
  have hpos:1≤left:=by unfold frDone at hd;simp only [if_true] at hd;have:left≠0:=by simpa using hd
                       omega
  have hX:frTk ⟨1,left,ck,false,false⟩ [c]=([c],1,0,⟨1,left-1,ck,false,false⟩):=by
   unfold frTk
   simp only [Bool.false_eq_true,if_false,if_true,List.length_cons,List.length_nil,Nat.zero_add]
   rw [Nat.min_eq_right hpos]
   rfl
  rw [hX]
  have z0:w.cell? ⟨g,0,none⟩=some (.int .i64 1):=hb.cell 0
  have z1:w.cell? ⟨g,1,none⟩=some (.int .i64 (left:Nat)):=hb.cell 1
  have f1:w.frozen? ⟨g,1,none⟩=false:=hb.free 1 (.inr (Nat.zero_le _))
  have z7:w.cell? ⟨g,7,none⟩=some (.bool false):=hb.cell 7
  have dl:decide ((left:Int) < 1)=false:=decide_eq_false (by omega)
  have e1:IntKind.i64.wrap ((left:Int)-1)=(left:Int)-1:=IntWalk.i64_in _ (by omega)
  have HB:=hid (hb.set 1 (.int .i64 ((left:Int)-1)))
  have HK:=hid (by_st ((Gr.refl w).by (some g)) 1 (.int .i64 ((left:Int)-1)))
  have HR:=hid hr
  clear hb hr hl hl' hX hd hck hy
  go_enter Tryz.func23,Tryz.ntmps23
  go_wp2_with fail
  go_ret3
  refine ⟨HK.out,?_⟩
  rw [if_pos rfl]
  exact ⟨_,_,rfl,HY.out _ HK.out,fun b h=>.inl h,(left:Int)-1,r,HB.out,HR.out,fun _=>by simp only;omega,fun h=>absurd rfl h⟩
 ·have hX:frTk ⟨3,left,ck,false,false⟩ [c]=([c],1,0,⟨3,left,ck,false,false⟩):=rfl
  rw [hX]
  obtain ⟨hv1,hv2⟩:=hl' (by simp)
  have z0:w.cell? ⟨g,0,none⟩=some (.int .i64 3):=hb.cell 0
  have z1:w.cell? ⟨g,1,none⟩=some (.int .i64 lv):=hb.cell 1
  have f1:w.frozen? ⟨g,1,none⟩=false:=hb.free 1 (.inr (Nat.zero_le _))
  have z7:w.cell? ⟨g,7,none⟩=some (.bool false):=hb.cell 7
  have e1:IntKind.i64.wrap (lv-1)=lv-1:=IntWalk.i64_in _ (by omega)
  have HB:=hid (hb.set 1 (.int .i64 (lv-1)))
  have HK:=hid (by_st ((Gr.refl w).by (some g)) 1 (.int .i64 (lv-1)))
  have HR:=hid hr
  clear hb hr hl hl' hX hd hck hy
  go_enter Tryz.func23,Tryz.ntmps23
  go_wp2_with fail
  go_ret3
  refine ⟨HK.out,?_⟩
  rw [if_pos rfl]
  exact ⟨_,_,rfl,HY.out _ HK.out,fun b h=>.inl h,lv-1,r,HB.out,HR.out,fun h=>by simp at h,fun _=>⟨by show -((n+1:Nat):Int)≤lv-1;omega,by omega⟩⟩
 ·cases hd
 ·have h9:ck.pos≠9:=fun h9=>by unfold frDone at hd;simp [h9] at hd
  obtain ⟨b1,b2,b3,b4,b5,b6,b7⟩:=r10_bounds hck hr h9
  obtain ⟨_,_,e0,-,-,ho⟩:=hy.open
  obtain ⟨b0,o0,hbo,-,hc⟩:=ho 0 (by simp)
  have e0:some (⟨b,o,none⟩:Addr)=_:=(by simpa using e0:_∧_).1
  rw [←e0] at hbo
  obtain ⟨rfl,rfl⟩:b=b0∧o=o0:=by simpa using hbo
  have HT:=hid (take10_any r c b o cb w hc b1 b2 b3 b4 b5 b6 b7)
  obtain ⟨t1,t2⟩:=r10_take hck hr h9 c
  have HT2:=hid t2
  have hX:frTk ⟨2,left,ck,false,false⟩ [c]=(if (ckTake ck [c]).2.2.2 then (ckTake ck [c]).1 else [],(ckTake ck [c]).2.1,if (ckTake ck [c]).2.2.2 then 0 else 2,⟨2,left,(ckTake ck [c]).2.2.1,!(ckTake ck [c]).2.2.2,false⟩):=rfl
  rw [hX]
  have HV:=hid (hl' (by simp))
  obtain ⟨st,dg,ln,lns,lf⟩:=r
  unfold r10V at HT
  simp only at HT hb
  have z0:w.cell? ⟨g,0,none⟩=some (.int .i64 2):=hb.cell 0
  have z7:w.cell? ⟨g,7,none⟩=some (.bool false):=hb.cell 7
  have z2:w.cell? ⟨g,2,none⟩=some (.int .i64 (st:Nat)):=hb.cell 2
  have z3:w.cell? ⟨g,3,none⟩=some (.int .i64 (dg:Nat)):=hb.cell 3
  have z4:w.cell? ⟨g,4,none⟩=some (.int .i64 (ln:Nat)):=hb.cell 4
  have z5:w.cell? ⟨g,5,none⟩=some (.int .i64 (lns:Nat)):=hb.cell 5
  have z6:w.cell? ⟨g,6,none⟩=some (.int .i64 lf):=hb.cell 6
  generalize r10Step ⟨st,dg,ln,lns,lf⟩ c=R at *
  obtain ⟨R1,d,ok⟩:=R
  simp only at t1
  subst t1
  clear hX hd hck hy hr hl hl' b1 b2 b3 b4 b5 b6 b7 hc ho t2 h9 hleft hn
  generalize ckTake ck [c]=CT at *
  obtain ⟨cd,cn,cs,cok⟩:=CT
  simp only at HT HT2 ⊢
  cases cok with
  | false=>
    simp only [Bool.false_eq_true,if_false]
    go_enter Tryz.func23,Tryz.ntmps23
    go_upto_region 5 with (go_at_call 46;refine HT.out.mono ?_;rintro e w1 ⟨hg1,h2⟩;rw [if_neg (by simp)] at h2;obtain ⟨⟨s1,g1,l1,n1,f1⟩,rfl⟩:=h2;unfold r10V;simp only)
    have hb2:=Bk.new w1 98 #[.int .i64 (s1:Nat),.int .i64 (g1:Nat),.int .i64 (l1:Nat),.int .i64 (n1:Nat),.int .i64 f1] (0,0)
    have hg12:=Gr.al (Gr.refl w1) (.cells #[.int .i64 (s1:Nat),.int .i64 (g1:Nat),.int .i64 (l1:Nat),.int .i64 (n1:Nat),.int .i64 f1] 98)
    generalize w1.alloc (Obj.cells #[.int .i64 (s1:Nat),.int .i64 (g1:Nat),.int .i64 (l1:Nat),.int .i64 (n1:Nat),.int .i64 f1] 98)=w2 at *
    generalize w1.heap.size=gq at *
    have hg2:=Gr.tr hg1 hg12
    have HB2:=hid (hb.gr hg2)
    have q0:w2.cell? ⟨gq,0,none⟩=some (.int .i64 (s1:Nat)):=hb2.cell 0
    have q1:w2.cell? ⟨gq,1,none⟩=some (.int .i64 (g1:Nat)):=hb2.cell 1
    have q2:w2.cell? ⟨gq,2,none⟩=some (.int .i64 (l1:Nat)):=hb2.cell 2
    have q3:w2.cell? ⟨gq,3,none⟩=some (.int .i64 (n1:Nat)):=hb2.cell 3
    have q4:w2.cell? ⟨gq,4,none⟩=some (.int .i64 f1):=hb2.cell 4
    have y2:w2.cell? ⟨g,2,none⟩=some (.int .i64 (st:Nat)):=HB2.out.cell 2
    have y3:w2.cell? ⟨g,3,none⟩=some (.int .i64 (dg:Nat)):=HB2.out.cell 3
    have y4:w2.cell? ⟨g,4,none⟩=some (.int .i64 (ln:Nat)):=HB2.out.cell 4
    have y5:w2.cell? ⟨g,5,none⟩=some (.int .i64 (lns:Nat)):=HB2.out.cell 5
    have y6:w2.cell? ⟨g,6,none⟩=some (.int .i64 lf):=HB2.out.cell 6
    have k2:w2.frozen? ⟨g,2,none⟩=false:=HB2.out.free 2 (.inr (Nat.zero_le _))
    have k3:w2.frozen? ⟨g,3,none⟩=false:=HB2.out.free 3 (.inr (Nat.zero_le _))
    have k4:w2.frozen? ⟨g,4,none⟩=false:=HB2.out.free 4 (.inr (Nat.zero_le _))
    have k5:w2.frozen? ⟨g,5,none⟩=false:=HB2.out.free 5 (.inr (Nat.zero_le _))
    have k6:w2.frozen? ⟨g,6,none⟩=false:=HB2.out.free 6 (.inr (Nat.zero_le _))
    have HK:=hid (show w.grownBy (((((w2.setCell ⟨g,2,none⟩ (.int .i64 (s1:Nat))).setCell ⟨g,3,none⟩ (.int .i64 (g1:Nat))).setCell ⟨g,4,none⟩ (.int .i64 (l1:Nat))).setCell ⟨g,5,none⟩ (.int .i64 (n1:Nat))).setCell ⟨g,6,none⟩ (.int .i64 f1)) (some g) from by_st (by_st (by_st (by_st (by_st (hg2.by _) _ _) _ _) _ _) _ _) _ _)
    have HBF:=hid (show Bk (((((w2.setCell ⟨g,2,none⟩ (.int .i64 (s1:Nat))).setCell ⟨g,3,none⟩ (.int .i64 (g1:Nat))).setCell ⟨g,4,none⟩ (.int .i64 (l1:Nat))).setCell ⟨g,5,none⟩ (.int .i64 (n1:Nat))).setCell ⟨g,6,none⟩ (.int .i64 f1)) g 100 #[.int .i64 2,.int .i64 lv,.int .i64 (s1:Nat),.int .i64 (g1:Nat),.int .i64 (l1:Nat),.int .i64 (n1:Nat),.int .i64 f1,.bool false] (0,0) from ((((HB2.out.set 2 _).set 3 _).set 4 _).set 5 _).set 6 _)
    clear hb2 hb hg1 hg12 hg2 HB2 z0 z7 z2 z3 z4 z5 z6
    go_wp2_with fail
    go_ret3
    refine ⟨HK.out,?_⟩
    rw [if_neg (by simp)]
    exact ⟨_,_,rfl,[],Byts.nil _,Nat.zero_le _⟩
  | true=>
    try simp only [if_true,↓reduceIte]
    obtain ⟨hcd,hrr⟩:=HT2.out rfl
    have HCD:=hid hcd
    have HRR:=hid hrr
    clear hcd hrr HT2
    go_enter Tryz.func23,Tryz.ntmps23
    go_upto_region 5 with (go_at_call 46;refine HT.out.mono ?_;rintro e w1 ⟨hg1,h2⟩;rw [if_pos rfl] at h2;obtain ⟨v,rfl,hyv,hfv⟩:=h2;obtain ⟨s1,g1,l1,n1,f1⟩:=R1;unfold r10V;simp only)
    have hb2:=Bk.new w1 98 #[.int .i64 (s1:Nat),.int .i64 (g1:Nat),.int .i64 (l1:Nat),.int .i64 (n1:Nat),.int .i64 f1] (0,0)
    have hg12:=Gr.al (Gr.refl w1) (.cells #[.int .i64 (s1:Nat),.int .i64 (g1:Nat),.int .i64 (l1:Nat),.int .i64 (n1:Nat),.int .i64 f1] 98)
    generalize w1.alloc (Obj.cells #[.int .i64 (s1:Nat),.int .i64 (g1:Nat),.int .i64 (l1:Nat),.int .i64 (n1:Nat),.int .i64 f1] 98)=w2 at *
    generalize w1.heap.size=gq at *
    have hg2:=Gr.tr hg1 hg12
    have HB2:=hid (hb.gr hg2)
    have q0:w2.cell? ⟨gq,0,none⟩=some (.int .i64 (s1:Nat)):=hb2.cell 0
    have q1:w2.cell? ⟨gq,1,none⟩=some (.int .i64 (g1:Nat)):=hb2.cell 1
    have q2:w2.cell? ⟨gq,2,none⟩=some (.int .i64 (l1:Nat)):=hb2.cell 2
    have q3:w2.cell? ⟨gq,3,none⟩=some (.int .i64 (n1:Nat)):=hb2.cell 3
    have q4:w2.cell? ⟨gq,4,none⟩=some (.int .i64 f1):=hb2.cell 4
    have y2:w2.cell? ⟨g,2,none⟩=some (.int .i64 (st:Nat)):=HB2.out.cell 2
    have y3:w2.cell? ⟨g,3,none⟩=some (.int .i64 (dg:Nat)):=HB2.out.cell 3
    have y4:w2.cell? ⟨g,4,none⟩=some (.int .i64 (ln:Nat)):=HB2.out.cell 4
    have y5:w2.cell? ⟨g,5,none⟩=some (.int .i64 (lns:Nat)):=HB2.out.cell 5
    have y6:w2.cell? ⟨g,6,none⟩=some (.int .i64 lf):=HB2.out.cell 6
    have k2:w2.frozen? ⟨g,2,none⟩=false:=HB2.out.free 2 (.inr (Nat.zero_le _))
    have k3:w2.frozen? ⟨g,3,none⟩=false:=HB2.out.free 3 (.inr (Nat.zero_le _))
    have k4:w2.frozen? ⟨g,4,none⟩=false:=HB2.out.free 4 (.inr (Nat.zero_le _))
    have k5:w2.frozen? ⟨g,5,none⟩=false:=HB2.out.free 5 (.inr (Nat.zero_le _))
    have k6:w2.frozen? ⟨g,6,none⟩=false:=HB2.out.free 6 (.inr (Nat.zero_le _))
    have HK:=hid (show w.grownBy (((((w2.setCell ⟨g,2,none⟩ (.int .i64 (s1:Nat))).setCell ⟨g,3,none⟩ (.int .i64 (g1:Nat))).setCell ⟨g,4,none⟩ (.int .i64 (l1:Nat))).setCell ⟨g,5,none⟩ (.int .i64 (n1:Nat))).setCell ⟨g,6,none⟩ (.int .i64 f1)) (some g) from by_st (by_st (by_st (by_st (by_st (hg2.by _) _ _) _ _) _ _) _ _) _ _)
    have HBF:=hid (show Bk (((((w2.setCell ⟨g,2,none⟩ (.int .i64 (s1:Nat))).setCell ⟨g,3,none⟩ (.int .i64 (g1:Nat))).setCell ⟨g,4,none⟩ (.int .i64 (l1:Nat))).setCell ⟨g,5,none⟩ (.int .i64 (n1:Nat))).setCell ⟨g,6,none⟩ (.int .i64 f1)) g 100 #[.int .i64 2,.int .i64 lv,.int .i64 (s1:Nat),.int .i64 (g1:Nat),.int .i64 (l1:Nat),.int .i64 (n1:Nat),.int .i64 f1,.bool false] (0,0) from ((((HB2.out.set 2 _).set 3 _).set 4 _).set 5 _).set 6 _)
    have HYV:=hid (Sl.kept (hyv.gr hg12:Sl w2 v _ _) (by_st (by_st (by_st (by_st (by_st ((Gr.refl w2).by (some g)) 2 (.int .i64 (s1:Nat))) 3 (.int .i64 (g1:Nat))) 4 (.int .i64 (l1:Nat))) 5 (.int .i64 (n1:Nat))) 6 (.int .i64 f1)) (.inr (fun e=>by have:=hfv g e;have:=hgl;omega)):Byts _ v _)
    clear hyv
    clear hb2 hb hg1 hg12 hg2 HB2 z0 z7 z2 z3 z4 z5 z6
    go_wp2_with fail
    go_ret3
    refine ⟨HK.out,?_⟩
    rw [if_pos rfl]
    exact ⟨_,_,rfl,by rw [HCD.out];exact HYV.out,fun b hb=>.inr (hfv b hb),lv,⟨s1,g1,l1,n1,f1⟩,HBF.out,HRR.out,fun h=>by simp at h,fun _=>⟨by have:=HV.out;omega,HV.out.2⟩⟩
end Go.Proofs.YtgfckbhkgggkeaaGreatDoor
/- XClient19 -/
namespace Go.Proofs.YtgfckbhkgggkeaaGreatDoor
open Lib (hid)
open Go.RowKit
theorem ofN_sizes {fs:List Fld} (hr:fs.all right=true) (hn:fs.length≤100) (n:List UInt8):(∀x∈ofN fs n,x.length≤1000000)∧bulk1 (ofN fs n)+(ofN fs n).length≤1000000:=by
 have hx:∀x∈ofN fs n,x.length≤8192:=fun x hx=>by
  unfold ofN at hx
  rw [List.mem_map] at hx
  obtain ⟨f,hf,rfl⟩:=hx
  exact (right_sizes (List.all_eq_true.1 hr f (List.mem_filter.1 hf).1)).2
 have h2:=bulk1_le45 hx
 have h3:=ofN_len fs n
 have h4:(ofN fs n).length*8192≤100*8192:=Nat.mul_le_mul_right _ (by omega)
 exact ⟨fun x h=>Nat.le_trans (hx x h) (by decide),by omega⟩
theorem short_right {fs:List Fld} (hr:fs.all right=true):Short2 fs:=fun f hf=>by
 have:=right_sizes (List.all_eq_true.1 hr f hf)
 exact ⟨Nat.le_trans this.1 (by decide),Nat.le_trans this.2 (by decide)⟩
set_option maxHeartbeats 8000000 in
set_option maxRecDepth 100000 in
theorem of13_bare (st:Int) (fs:List Fld) (asked:List UInt8) (A:Option Addr) (c:Nat) (w:World) (h:asked=headB∨bareS st=true):Calls Tryz.prog 50 #[.int .i64 st,.slice A fs.length c,str asked] w (OfEnd w (4,0,0)):=by
 cases e1:(asked==[72,69,65,68]) with
 | true=>
   clear h
   go_enter Tryz.func50,Tryz.ntmps50
   go_wp2_with fail
   go_ret3
   exact ⟨rfl,Gr.refl _⟩
 | false=>
   have hb:bareS st=true:=h.resolve_left (fun h=>by rw [h] at e1;exact absurd e1 (by decide))
   unfold bareS at hb
   clear h
   cases e2:decide (100≤st) with
   | true=>
     cases e3:decide (st≤199) with
     | true=>
       clear hb
       go_enter Tryz.func50,Tryz.ntmps50
       go_wp2_with fail
       go_ret3
       exact ⟨rfl,Gr.refl _⟩
     | false=>
       rw [e2,e3] at hb
       cases e4:(st==204) with
       | true=>
         clear hb
         go_enter Tryz.func50,Tryz.ntmps50
         go_wp2_with fail
         go_ret3
         exact ⟨rfl,Gr.refl _⟩
       | false=>
         rw [e4] at hb
         have e5:(st==304)=true:=by simpa using hb
         clear hb
         go_enter Tryz.func50,Tryz.ntmps50
         go_wp2_with fail
         go_ret3
         exact ⟨rfl,Gr.refl _⟩
   | false=>
     rw [e2] at hb
     cases e4:(st==204) with
     | true=>
       clear hb
       go_enter Tryz.func50,Tryz.ntmps50
       go_wp2_with fail
       go_ret3
       exact ⟨rfl,Gr.refl _⟩
     | false=>
       rw [e4] at hb
       have e5:(st==304)=true:=by simpa using hb
       clear hb
       go_enter Tryz.func50,Tryz.ntmps50
       go_wp2_with fail
       go_ret3
       exact ⟨rfl,Gr.refl _⟩
theorem trim_le19 (l:List UInt8):(trim l).length≤l.length:=by
 have h1:∀l:List UInt8,(trimL l).length≤l.length:=fun l=>(List.dropWhile_sublist _).length_le
 refine Nat.le_trans (h1 _) ?_
 unfold trimR
 rw [List.length_reverse]
 exact Nat.le_trans ((List.dropWhile_sublist _).length_le) (by rw [List.length_reverse];exact Nat.le_refl _)
theorem scan_short:∀(l:List UInt8) (q n:Bool) (item:List UInt8),∀x∈scan q n item l,x.length≤item.length+l.length
 | [],q,n,item,x,h=>by
   have:x=item:=by simpa [scan] using h
   subst this
   simp
 | c::t,q,n,item,x,h=>by
   rw [scan_cons] at h
   simp only [List.length_cons]
   have h1:=scan_short t
   split at h
   ·rcases List.mem_cons.1 h with rfl | h
    ·omega
    ·have:=h1 _ _ _ x h;simp at this;omega
   ·split at h
    ·have:=h1 _ _ _ x h;simp at this;omega
    ·split at h
     ·have:=h1 _ _ _ x h;simp at this;omega
     ·split at h
      ·have:=h1 _ _ _ x h;simp at this;omega
      ·have:=h1 _ _ _ x h;simp at this;omega
theorem itemsAll_short {vs:List (List UInt8)} {B:Nat} (h:∀x∈vs,x.length≤B) (y:List UInt8) (hy:y∈itemsAll vs):y.length≤B:=by
 unfold itemsAll at hy
 rw [List.mem_flatMap] at hy
 obtain ⟨v,hv,hy⟩:=hy
 unfold itemsV at hy
 have hy:=(List.mem_filter.1 hy).1
 rw [List.mem_map] at hy
 obtain ⟨z,hz,rfl⟩:=hy
 have h1:=scan_short v _ _ _ z hz
 have h2:=trim_le19 z
 have h3:=h v hv
 simp only [List.length_nil] at h1
 omega
theorem frame_some {st:Int} {fs:List Fld} {asked:List UInt8} (h:¬(asked=headB∨bareS st=true)):frameL st fs asked=if itemsAll (ofN fs codingN)≠[] then
  (if (itemsAll (ofN fs codingN)).length=1∧(itemsAll (ofN fs codingN)).all (fun x=>alike x chunkedN)=true∧ofN fs lengthN=[] then (2,0,0) else (0,0,2))
 else if ofN fs lengthN=[] then (3,0,0)
 else if lenI (itemsAll (ofN fs lengthN)) < 0∨1099511627776 < lenI (itemsAll (ofN fs lengthN)) then (0,0,2)
 else (1,lenI (itemsAll (ofN fs lengthN)),0):=by unfold frameL;rw [if_neg h]
theorem lenI_off {l:List (List UInt8)} {k:Nat} (h0:0 < l.length) (hk:k < l.length) (h:numM l[k]≠numM l[0]):lenI l= -1:=by
 cases l with
 | nil=>simp at h0
 | cons x r=>
   show (if r.all (fun y=>numM y==numM x) then numM x else -1)= -1
   rw [if_neg]
   intro ha
   cases k with
   | zero=>exact h rfl
   | succ k=>
     have hk':k < r.length:=by simpa using hk
     have h2:=List.all_eq_true.1 ha r[k] (List.getElem_mem hk')
     have h3:numM r[k]=numM x:=by simpa using h2
     exact h h3
theorem lenI_good {l:List (List UInt8)} (h0:0 < l.length) (h:∀(k:Nat) (hk:k < l.length),numM l[k]=numM l[0]):lenI l=numM l[0]:=by
 cases l with
 | nil=>simp at h0
 | cons x r=>
   show (if r.all (fun y=>numM y==numM x) then numM x else -1)=_
   rw [if_pos]
   ·rfl
   ·refine List.all_eq_true.2 fun y hy=>?_
    obtain ⟨k,hk,rfl⟩:=List.getElem_of_mem hy
    have h2:numM r[k]=numM x:=h (k+1) (by simpa using hk)
    simpa using h2
set_option maxHeartbeats 16000000 in
set_option maxRecDepth 100000 in
theorem of13_some (st:Int) (fs:List Fld) (asked:List UInt8) (A:Option Addr) (c:Nat) (w:World) (hf:Flds w (.slice A fs.length c) fs) (hr:fs.all right=true) (hn:fs.length≤100)
  (e1:(asked==[72,69,65,68])=false) (hq:decide (100≤st)=false∨decide (100≤st)=true∧decide (st≤199)=false) (e4:(st==204)=false) (e5:(st==304)=false) (F:Nat×Int×Nat)
  (hF:F=if itemsAll (ofN fs codingN)≠[] then
  (if (itemsAll (ofN fs codingN)).length=1∧(itemsAll (ofN fs codingN)).all (fun x=>alike x chunkedN)=true∧ofN fs lengthN=[] then (2,0,0) else (0,0,2))
 else if ofN fs lengthN=[] then (3,0,0)
 else if lenI (itemsAll (ofN fs lengthN)) < 0∨1099511627776 < lenI (itemsAll (ofN fs lengthN)) then (0,0,2)
 else (1,lenI (itemsAll (ofN fs lengthN)),0)):Calls Tryz.prog 50 #[.int .i64 st,.slice A fs.length c,str asked] w (OfEnd w F):=by
 have HOC:=hid (fun (x:World) (hx:Gr w x)=>refOf_any (.slice A fs.length c) fs codingN x (hf.gr hx) (short_right hr) (by decide) (by omega))
 have HOL:=hid (fun (x:World) (hx:Gr w x)=>refOf_any (.slice A fs.length c) fs lengthN x (hf.gr hx) (short_right hr) (by decide) (by omega))
 have HIC:=hid (fun (v:Value) (x:World) (hv:Strs x v (ofN fs codingN))=>refItems_any v (ofN fs codingN) x hv (ofN_sizes hr hn codingN).1 (ofN_sizes hr hn codingN).2)
 have HIL:=hid (fun (v:Value) (x:World) (hv:Strs x v (ofN fs lengthN))=>refItems_any v (ofN fs lengthN) x hv (ofN_sizes hr hn lengthN).1 (ofN_sizes hr hn lengthN).2)
 have HSZ:=hid (fun (x:List UInt8) (hx:x∈itemsAll (ofN fs codingN))=>itemsAll_short (ofN_sizes hr hn codingN).1 x hx)
 have HF:=hid hF
 clear hf hr hF
 generalize ofN fs codingN=OC at *
 generalize ofN fs lengthN=OL at *
 have h00:=Gr.refl w
 rcases hq with e2 | ⟨e2,e3⟩
 all_goals
  go_enter Tryz.func50,Tryz.ntmps50
  go_upto_region 4 with (first
   | (go_at_call 75;refine (HIC.out _ _ HS1.out).mono ?_;rintro e w2 ⟨v2,rfl,hs2,hg2⟩;have h02:=Gr.tr h01 hg2)
   | (go_at_call 76;refine (HOC.out _ h00).mono ?_;rintro e w1 ⟨v1,rfl,hs1,hg1⟩;have HS1:=hid hs1;have h01:=Gr.tr h00 hg1;clear hs1))
  clear HOC HIC HS1
  obtain ⟨A2,c2,rfl,-,-,hI⟩:=id hs2.open
  have HI:=hid hI
  clear hI hs2
  go_upto_region 5 with (go_at_call 76;refine (HOL.out _ h02).mono ?_;rintro e w3 ⟨v3,rfl,hs3,hg3⟩;have h03:=Gr.tr h02 hg3)
  obtain ⟨A3,c3,rfl,-,-,hL⟩:=id hs3.open
  have HS3:=hid hs3
  clear hL hs3 HOL h01 h02
  have HI:=hid (fun (k:Nat) (hk:k < (itemsAll OC).length)=>by obtain ⟨b,o,h1,-,h2⟩:=HI.out k hk;exact (⟨b,o,h1,Gr.cell hg3 h2⟩:∃b o,A2=some ⟨b,o,none⟩∧w3.cell? ⟨b,o+k,none⟩=some (str (itemsAll OC)[k])))
  clear hg2 hg3 hg1
  generalize itemsAll OC=IC at *
  by_cases n0:IC.length=0
  ·have hI0:IC=[]:=List.eq_nil_of_length_eq_zero n0
   have d0:¬0 < IC.length:=by omega
   rw [if_neg (by simp [hI0])] at HF
   have HI0:=hid hI0
   clear hI0 n0 HI HSZ
   by_cases m0:OL.length=0
   ·have hL0:OL=[]:=List.eq_nil_of_length_eq_zero m0
    have dm0:((OL.length:Int)==0)=true:=by simp [m0]
    rw [if_pos hL0] at HF
    clear hL0 HIL
    go_wp2_with fail
    go_ret3
    rw [HF.out]
    exact ⟨rfl,h03⟩
   ·have hL0:¬OL=[]:=fun h=>m0 (by rw [h];rfl)
    have dm0:((OL.length:Int)==0)=false:=by rw [beq_eq_false_iff_ne];omega
    rw [if_neg hL0] at HF
    clear hL0
    go_upto_region 12 with (go_at_call 75;refine (HIL.out _ _ HS3.out).mono ?_;rintro e w4 ⟨v4,rfl,hs4,hg4⟩;have h04:=Gr.tr h03 hg4)
    obtain ⟨A4,c4,rfl,-,hm4,hJ⟩:=id hs4.open
    have HJ:=hid hJ
    clear hJ hs4 HIL HS3 hg4 h03
    generalize itemsAll OL=IL at *
    by_cases q0:IL.length=0
    ·have dq0:((IL.length:Int)==0)=true:=by simp [q0]
     have hl:lenI IL= -1:=by rw [List.eq_nil_of_length_eq_zero q0];rfl
     rw [hl,if_pos (.inl (by decide))] at HF
     clear hl HJ
     go_wp2_with fail
     go_ret3
     rw [HF.out]
     exact ⟨rfl,h04⟩
    ·have dq0:((IL.length:Int)==0)=false:=by rw [beq_eq_false_iff_ne];omega
     have hpos:0 < IL.length:=by omega
     obtain ⟨b4,o4,rfl,-,z4⟩:=HJ.out 0 hpos
     simp only [Nat.add_zero] at z4
     go_upto_region 15 with (go_at_call 78;refine (refNum13_any _ _).mono ?_;rintro e w5 ⟨rfl,rfl⟩)
     have H0:=hid h04
     go_wp2_with fail
     go_loopw [13] (fun i wr=>∃k:Nat,k≤IL.length∧i=.int .i64 k∧wr=w4∧∀(j:Nat) (hj:j < IL.length),j < k→numM IL[j]=numM IL[0]) (fun i _=>IL.length-(intOf i).toNat)
     case atStart=>exact ⟨0,Nat.zero_le _,rfl,rfl,fun j _ h=>absurd h (Nat.not_lt_zero _)⟩
     case round=>
      obtain ⟨k,hk,rfl,rfl,hall⟩:=hrel
      have HALL:=hid hall
      clear hall
      by_cases hlt:k < IL.length
      ·obtain ⟨b5,o5,hb5,-,z5⟩:=HJ.out k hlt
       have hb5:b4=b5∧o4=o5:=by simpa using hb5
       obtain ⟨rfl,rfl⟩:=hb5
       by_cases hne:numM IL[k]=numM IL[0]
       ·have dn:(numM IL[k] != numM IL[0])=false:=by simp [hne]
        go_wp2_with (go_at_call 78;refine (refNum13_any _ _).mono ?_;rintro e w5 ⟨rfl,rfl⟩)
        exact ⟨⟨k+1,by omega,by go_num,by simp,fun j hj hjk=>by
         by_cases h:j < k
         ·exact HALL.out j hj h
         ·have:j=k:=by omega
          subst this;exact hne⟩,by simp [intOf];omega⟩
       ·have dn:(numM IL[k] != numM IL[0])=true:=by simp [hne]
        have hl:=lenI_off hpos hlt hne
        rw [hl,if_pos (.inl (by decide))] at HF
        clear hl HALL
        go_wp2_with (go_at_call 78;refine (refNum13_any _ _).mono ?_;rintro e w5 ⟨rfl,rfl⟩)
        go_ret3
        rw [HF.out]
        exact ⟨rfl,H0.out⟩
      ·have hl:=lenI_good hpos (fun j hj=>HALL.out j hj (by omega))
       rw [hl] at HF
       generalize numM IL[0]=nm at *
       clear hl HALL HJ
       by_cases hlow:nm < 0
       ·have dl:decide (nm < 0)=true:=decide_eq_true hlow
        rw [if_pos (.inl hlow)] at HF
        clear hlow
        go_wp2_with fail
        go_ret3
        rw [HF.out]
        exact ⟨rfl,H0.out⟩
       ·have dl:decide (nm < 0)=false:=decide_eq_false hlow
        by_cases hhi:1099511627776 < nm
        ·have dh:decide (1099511627776 < nm)=true:=decide_eq_true hhi
         rw [if_pos (.inr hhi)] at HF
         clear hlow hhi
         go_wp2_with fail
         go_ret3
         rw [HF.out]
         exact ⟨rfl,H0.out⟩
        ·have dh:decide (1099511627776 < nm)=false:=decide_eq_false hhi
         rw [if_neg (fun h=>h.elim hlow hhi)] at HF
         clear hlow hhi
         go_wp2_with fail
         go_ret3
         rw [HF.out]
         exact ⟨rfl,H0.out⟩
  ·have hI0:IC≠[]:=fun h=>n0 (by rw [h];rfl)
   have d0:0 < IC.length:=by omega
   rw [if_pos hI0] at HF
   clear hI0 HIL HS3
   by_cases n1:IC.length=1
   ·have d1:decide (1 < (IC.length:Int))=false:=decide_eq_false (by omega)
    have hlen : (IC[0]'d0).length ≤ 1000000 := HSZ.out _ (List.getElem_mem ..)
    have hone : IC = [IC[0]'d0] := List.ext_getElem (by simpa using n1) (fun i h1 h2 => by have h3 : i = 0 := (by simpa using h2); subst h3; rfl)
    obtain ⟨b5,o5,rfl,z5⟩:=HI.out 0 d0
    simp only [Nat.add_zero] at z5
    have hall : IC.all (fun x => alike x chunkedN) = alike (IC[0]'d0) chunkedN := by conv => lhs; rw [hone]; simp
    rw [hall] at HF
    have HAL := hid (fun (x : World) => refAlike_any (IC[0]'d0) chunkedN x (by omega) (by decide))
    generalize IC[0]'d0 = X at *
    clear hall hone HI HSZ n0
    cases ha:alike X chunkedN with
    | false=>
      rw [ha] at HF HAL
      rw [if_neg (by simp)] at HF
      clear ha
      go_wp2_with (go_at_call 77;refine (HAL.out _).mono ?_;rintro e w5 ⟨rfl,hg5⟩)
      go_ret3
      rw [HF.out]
      exact ⟨rfl,Gr.tr h03 hg5⟩
    | true=>
      rw [ha] at HF HAL
      clear ha
      by_cases m0:OL.length=0
      ·have hL0:OL=[]:=List.eq_nil_of_length_eq_zero m0
       have dm0:¬0 < OL.length:=by omega
       rw [if_pos ⟨n1,rfl,hL0⟩] at HF
       clear hL0
       go_wp2_with (go_at_call 77;refine (HAL.out _).mono ?_;rintro e w5 ⟨rfl,hg5⟩)
       go_ret3
       rw [HF.out]
       exact ⟨rfl,Gr.tr h03 hg5⟩
      ·have dm0:0 < OL.length:=by omega
       rw [if_neg (fun h=>m0 (by rw [h.2.2];rfl))] at HF
       go_wp2_with (go_at_call 77;refine (HAL.out _).mono ?_;rintro e w5 ⟨rfl,hg5⟩)
       go_ret3
       rw [HF.out]
       exact ⟨rfl,Gr.tr h03 hg5⟩
   ·have d1:decide (1 < (IC.length:Int))=true:=decide_eq_true (by omega)
    rw [if_neg (fun h=>n1 h.1)] at HF
    clear HI HSZ
    go_wp2_with fail
    go_ret3
    rw [HF.out]
    exact ⟨rfl,h03⟩
theorem of13_any (st:Int) (fs:List Fld) (asked:List UInt8) (A:Option Addr) (c:Nat) (w:World) (hf:Flds w (.slice A fs.length c) fs) (hr:fs.all right=true) (hn:fs.length≤100):Calls Tryz.prog 50 #[.int .i64 st,.slice A fs.length c,str asked] w (OfEnd w (frameL st fs asked)):=by
 by_cases h:asked=headB∨bareS st=true
 ·rw [show frameL st fs asked=(4,0,0) from by unfold frameL;rw [if_pos h]]
  exact of13_bare st fs asked A c w h
 ·have hb:bareS st=false:=by cases hb:bareS st with
   | false=>rfl
   | true=>exact absurd (.inr hb) h
  unfold bareS at hb
  simp only [Bool.or_eq_false_iff,Bool.and_eq_false_iff] at hb
  refine of13_some st fs asked A c w hf hr hn ?_ ?_ hb.2.1 hb.2.2 _ (frame_some h)
  ·cases e:(asked==[72,69,65,68]) with
   | false=>rfl
   | true=>exact absurd (.inl (by simpa [headB] using e)) h
  ·cases e2:decide (100≤st) with
   | false=>exact .inl rfl
   | true=>exact .inr ⟨rfl,hb.1.resolve_left (by rw [e2];decide)⟩
end Go.Proofs.YtgfckbhkgggkeaaGreatDoor
