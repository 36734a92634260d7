/- Parts. No conditions but those that each theorem names. -/
import Derived.Test.YtflepnkpihfidaaGreatDoorJTopL
import Derived.Test.YtflepnkpihfidaaGreatDoorJCond
import Derived.Test.YtflepnkpihfidaaGreatDoorJCond3
import Derived.Test.YtflepnkpihfidaaGreatDoorJWords
import Derived.Test.YtflepnkpihfidaaGreatDoorDig
import Derived.Test.YtflepnkpihfidaaGreatDoorJGate6
set_option linter.unusedVariables false
set_option linter.unusedSimpArgs false
namespace Go.Proofs.YtflepnkpihfidaaGreatDoor
open Lib (hid)
open Go.RowKit
theorem two_box (w:World) (r z:Array Value) (t t2:TypeId):Bk ((w.alloc (Obj.cells r t)).alloc (Obj.cells z t2)) w.heap.size t r (0,0)∧Bk ((w.alloc (Obj.cells r t)).alloc (Obj.cells z t2)) (w.heap.size+1) t2 z (0,0)∧Gr w ((w.alloc (Obj.cells r t)).alloc (Obj.cells z t2)):=by
 refine ⟨(Bk.new w t r (0,0)).al _,?_,Gr.al (Gr.al (Gr.refl w) _) _⟩
 have h:=Bk.new (w.alloc (Obj.cells r t)) t2 z (0,0)
 rwa [show (w.alloc (Obj.cells r t)).heap.size=w.heap.size+1 from by show (w.heap.push _).size=_;simp] at h
set_option maxHeartbeats 4000000 in
set_option maxRecDepth 100000 in
theorem tagWeak_any (a b:TagT) (w:World) (ha:a.1.length≤140737488355328) (hb:b.1.length≤140737488355328) :
  Calls Tryz.prog 150 #[.agg #[str a.1,.bool a.2],.agg #[str b.1,.bool b.2]] w fun e w'=>e=.returned (.bool (weakT a b))∧Gr w w':=by
 obtain ⟨x,p⟩:=a
 obtain ⟨y,q⟩:=b
 simp only at ha hb ⊢
 obtain ⟨b1,b2,hG0⟩:=two_box w #[str x,.bool p] #[str y,.bool q] 25 25
 have HX:=hid (fun (v:World)=>tagRight_any x p v (by omega))
 have HY:=hid (fun (v:World)=>tagRight_any y q v (by omega))
 have HW:=hid (show weakT (x,p) (y,q)=(tagB x&&(tagB y&&x==y)) from rfl)
 go_enter Tryz.func150,Tryz.ntmps150
 go_upto_region 1 with fail
 generalize (w.alloc (Obj.cells #[str x,.bool p] 25)).alloc (Obj.cells #[str y,.bool q] 25)=w0 at *
 generalize w.heap.size=g at *
 have r0:∀v,Gr w0 v→v.cell? ⟨g,0,none⟩=some (str x):=fun v h=>(b1.gr h).cell 0
 have r1:∀v,Gr w0 v→v.cell? ⟨g,1,none⟩=some (.bool p):=fun v h=>(b1.gr h).cell 1
 have r2:∀v,Gr w0 v→v.cell? ⟨g+1,0,none⟩=some (str y):=fun v h=>(b2.gr h).cell 0
 have r3:∀v,Gr w0 v→v.cell? ⟨g+1,1,none⟩=some (.bool q):=fun v h=>(b2.gr h).cell 1
 have h00:Gr w0 w0:=Gr.refl w0
 clear b1 b2 ha hb
 cases h1:tagB x with
 | false=>
   rw [h1] at HX HW
   clear h1
   go_wp2_with (go_at_call 56;refine (HX.out _).mono ?_;rintro e wn ⟨rfl,hgn⟩;have hgg:Gr w0 wn:=hgn)
   go_ret
   exact ⟨ret_bool HW.out.symm,Gr.tr hG0 (by assumption)⟩
 | true=>
   rw [h1] at HX HW
   clear h1
   cases h2:tagB y with
   | false=>
     rw [h2] at HY HW
     clear h2
     go_wp2_with (go_at_call 56;first
      | ((with_reducible refine (HX.out _).mono ?_);rintro e wn ⟨rfl,hgn⟩;have hg1:Gr w0 wn:=hgn;clear hgn)
      | ((with_reducible refine (HY.out _).mono ?_);rintro e wm ⟨rfl,hgm⟩;have hg2:Gr w0 wm:=Gr.tr hg1 hgm;clear hgm))
     go_ret
     exact ⟨ret_bool HW.out.symm,Gr.tr hG0 (by assumption)⟩
   | true=>
     rw [h2] at HY HW
     clear h2
     generalize hxy:(x==y)=xy at *
     cases xy
     all_goals
      go_wp2_with (go_at_call 56;first
       | ((with_reducible refine (HX.out _).mono ?_);rintro e wn ⟨rfl,hgn⟩;have hg1:Gr w0 wn:=hgn;clear hgn)
       | ((with_reducible refine (HY.out _).mono ?_);rintro e wm ⟨rfl,hgm⟩;have hg2:Gr w0 wm:=Gr.tr hg1 hgm;clear hgm))
      go_ret
      exact ⟨ret_bool HW.out.symm,Gr.tr hG0 hg2⟩
set_option maxHeartbeats 4000000 in
set_option maxRecDepth 100000 in
theorem tagStrong_any (a b:TagT) (w:World) (ha:a.1.length≤140737488355328) (hb:b.1.length≤140737488355328) :
  Calls Tryz.prog 74 #[.agg #[str a.1,.bool a.2],.agg #[str b.1,.bool b.2]] w fun e w'=>e=.returned (.bool (strongT a b))∧Gr w w':=by
 have HK:=hid (fun (v:World)=>tagWeak_any a b v ha hb)
 have HW:=hid (show strongT a b=(!a.2&&(!b.2&&weakT a b)) from rfl)
 generalize weakT a b=wk at *
 generalize strongT a b=st at *
 obtain ⟨x,p⟩:=a
 obtain ⟨y,q⟩:=b
 simp only at HK HW ⊢
 obtain ⟨b1,b2,hG0⟩:=two_box w #[str x,.bool p] #[str y,.bool q] 25 25
 go_enter Tryz.func74,Tryz.ntmps74
 go_upto_region 1 with fail
 generalize (w.alloc (Obj.cells #[str x,.bool p] 25)).alloc (Obj.cells #[str y,.bool q] 25)=w0 at *
 generalize w.heap.size=g at *
 have r0:w0.cell? ⟨g,0,none⟩=some (str x):=b1.cell 0
 have r1:w0.cell? ⟨g,1,none⟩=some (.bool p):=b1.cell 1
 have r2:w0.cell? ⟨g+1,0,none⟩=some (str y):=b2.cell 0
 have r3:w0.cell? ⟨g+1,1,none⟩=some (.bool q):=b2.cell 1
 clear b1 b2 ha hb
 cases p <;> cases q
 ·cases wk
  all_goals
   go_wp2_with (go_at_call 150;refine (HK.out _).mono ?_;rintro e wn ⟨rfl,hgn⟩)
   go_ret
   exact ⟨ret_bool HW.out.symm,Gr.tr hG0 hgn⟩
 all_goals
  go_wp2_with fail
  go_ret
  exact ⟨ret_bool HW.out.symm,hG0⟩
theorem any_snoc {α:Type} (l:List α) (k:Nat) (h:k < l.length) (f:α→Bool):(l.take (k+1)).any f=((l.take k).any f||f l[k]):=by
 rw [take_snoc l k h,List.any_append];simp
theorem any_hit {α:Type} {l:List α} {k:Nat} (h:k < l.length) {f:α→Bool} (hf:f l[k]=true):l.any f=true:=List.any_eq_true.2 ⟨_,List.getElem_mem h,hf⟩
set_option maxHeartbeats 4000000 in
set_option maxRecDepth 100000 in
theorem tagIn_any (u:Value) (l:List TagT) (t:TagT) (s:Bool) (w:World) (hu:Tags w u l) (hs:ShortT l) (ht:t.1.length≤140737488355328) :
  Calls Tryz.prog 73 #[u,.agg #[str t.1,.bool t.2],.bool s] w fun e w'=>e=.returned (.bool (inT l t s))∧Gr w w':=by
 obtain ⟨A,c,rfl,hc,hm,hA⟩:=hu.open
 have HA:=hid hA
 have HST:=hid (fun (k:Nat) (hk:k < l.length) (v:World)=>tagStrong_any l[k] t v (hs _ (List.getElem_mem hk)) ht)
 have HWK:=hid (fun (k:Nat) (hk:k < l.length) (v:World)=>tagWeak_any l[k] t v (hs _ (List.getElem_mem hk)) ht)
 have HSN:=hid (fun (k:Nat) (hk:k < l.length)=>any_snoc l k hk (fun x=>if s then strongT x t else weakT x t))
 have HHT:=hid (fun (k:Nat) (hk:k < l.length)=>any_hit (l:=l) hk (f:=fun x=>if s then strongT x t else weakT x t))
 have HTK:=hid (show ∀k,l.length≤k→l.take k=l from fun k h=>List.take_of_length_le h)
 unfold inT
 generalize hf:(fun x=>if s then strongT x t else weakT x t)=f at *
 have HF:=hid (show ∀x,f x=if s then strongT x t else weakT x t from fun x=>by rw [←hf])
 clear hf
 obtain ⟨x,p⟩:=t
 simp only at HST HWK HF ⊢
 obtain ⟨hG0,b0,b1⟩:=box2 w (str x) (.bool p) 25
 clear hA hu hs ht
 go_enter Tryz.func73,Tryz.ntmps73
 go_upto_region 1 with fail
 generalize w.alloc (Obj.cells #[str x,.bool p] 25)=w0 at *
 generalize w.heap.size=g at *
 have HG0:=hid hG0
 have HB0:=hid b0
 have HB1:=hid b1
 have h00:=Gr.refl w0
 have HA0:=hid (fun (k:Nat) (hk:k < l.length)=>HA.out k hk)
 clear b0 b1 hG0
 go_wp2_with fail
 go_loopw [6,8,11] (fun x6 x8 i wr=>∃k:Nat,k≤l.length∧i=.int .i64 k∧Gr w0 wr∧(l.take k).any f=false) (fun _ _ i _=>l.length-(intOf i).toNat)
 case atStart=>exact ⟨0,Nat.zero_le _,rfl,h00,rfl⟩
 case round=>
  obtain ⟨k,hk,rfl,hG,hno⟩:=hrel
  have HNO:=hid hno
  clear hno
  by_cases hlt:k < l.length
  ·obtain ⟨b1,o1,rfl,hb1,p0,p1⟩:=HA0.out k hlt
   have p0:=Gr.cell (Gr.tr HG0.out hG) p0
   have p1:=Gr.cell (Gr.tr HG0.out hG) p1
   have HST:=hid (HST.out k hlt)
   have HWK:=hid (HWK.out k hlt)
   have HSN:=hid (HSN.out k hlt)
   have HHT:=hid (HHT.out k hlt)
   have HF:=hid (HF.out l[k])
   generalize l[k]=y at *
   obtain ⟨y,q⟩:=y
   simp only at HST HWK p0 p1 HF
   generalize strongT (y,q) (x,p)=sb at *
   generalize weakT (y,q) (x,p)=wb at *
   go_upto_region 4 with fail
   obtain ⟨hGb,y0,y1⟩:=box2 wr (str y) (.bool q) 25
   have z0:=Gr.cell (Gr.tr hG hGb) HB0.out
   have z1:=Gr.cell (Gr.tr hG hGb) HB1.out
   have hGG:=Gr.tr hG hGb
   clear p0 p1 hGb hG
   generalize wr.alloc (Obj.cells #[str y,.bool q] 25)=wb0 at *
   cases s
   ·cases wb
    ·go_wp2_with (go_at_call 150;refine (HWK.out _).mono ?_;rintro e wn ⟨rfl,hgn⟩)
     exact ⟨⟨k+1,by omega,by go_num,Gr.tr hGG hgn,by rw [HSN.out,HNO.out];rfl⟩,by simp [intOf];omega⟩
    ·go_wp2_with (go_at_call 150;refine (HWK.out _).mono ?_;rintro e wn ⟨rfl,hgn⟩)
     go_ret
     exact ⟨ret_bool (HHT.out rfl).symm,Gr.tr HG0.out (Gr.tr hGG hgn)⟩
   ·cases sb
    ·go_wp2_with (go_at_call 74;refine (HST.out _).mono ?_;rintro e wn ⟨rfl,hgn⟩)
     exact ⟨⟨k+1,by omega,by go_num,Gr.tr hGG hgn,by rw [HSN.out,HNO.out];rfl⟩,by simp [intOf];omega⟩
    ·go_wp2_with (go_at_call 74;refine (HST.out _).mono ?_;rintro e wn ⟨rfl,hgn⟩)
     go_ret
     exact ⟨ret_bool (HHT.out rfl).symm,Gr.tr HG0.out (Gr.tr hGG hgn)⟩
  ·have HE:=hid (show l.any f=false from by have h1:=HNO.out;rw [HTK.out k (by omega)] at h1;exact h1)
   go_wp2_with fail
   go_ret
   exact ⟨ret_bool HE.out.symm,Gr.tr HG0.out hG⟩
end Go.Proofs.YtflepnkpihfidaaGreatDoor
namespace Go.Proofs.YtflepnkpihfidaaGreatDoor
open Lib (hid)
open Go.RowKit
theorem ticks_any (n:Int) (w:World):Calls Tryz.prog 57 #[.int .i64 n] w fun e w'=>e=.returned (.bool (ticksB n))∧Gr w w':=by
 by_cases h1:0≤n
 ·by_cases h2:n≤1099511627776
  ·have HC:=hid (show ticksB n=true from ticksB_iff.2 ⟨h1,h2⟩)
   go_enter Tryz.func57,Tryz.ntmps57
   go_wp2_with fail
   go_ret
   exact ⟨ret_bool HC.out.symm,Gr.refl _⟩
  ·have HC:=hid (show ticksB n=false from by rw [Bool.eq_false_iff];exact fun h=>h2 (ticksB_iff.1 h).2)
   have k2:decide (n≤1099511627776)=false:=decide_eq_false h2
   go_enter Tryz.func57,Tryz.ntmps57
   go_wp2_with fail
   go_ret
   exact ⟨ret_bool HC.out.symm,Gr.refl _⟩
 ·have HC:=hid (show ticksB n=false from by rw [Bool.eq_false_iff];exact fun h=>h1 (ticksB_iff.1 h).1)
  have k1:decide (0≤n)=false:=decide_eq_false h1
  go_enter Tryz.func57,Tryz.ntmps57
  go_wp2_with fail
  go_ret
  exact ⟨ret_bool HC.out.symm,Gr.refl _⟩
theorem keyC_yes {c:UInt8} (h:33≤c.toNat∧c.toNat≤126):keyC c=true:=by unfold keyC;simp;omega
theorem keyC_no {c:UInt8} (h:¬(33≤c.toNat∧c.toNat≤126)):keyC c=false:=by unfold keyC;simp;omega
theorem keyB_len {l:List UInt8} (h:¬(1≤l.length∧l.length≤200)):keyB l=false:=by
 unfold keyB;rw [Bool.eq_false_iff];intro h'
 simp only [Bool.and_eq_true,decide_eq_true_eq] at h'
 exact h ⟨h'.1,h'.2.1⟩
theorem keyB_rest {l:List UInt8} (h1:1≤l.length) (h2:l.length≤200):keyB l=l.all keyC:=by unfold keyB;simp [h1,h2]
set_option maxHeartbeats 2000000 in
theorem key_any (l:List UInt8) (w:World) (hl:l.length≤9223372036854775800):Calls Tryz.prog 59 #[str l] w fun e w'=>e=.returned (.bool (keyB l))∧Gr w w':=by
 by_cases h1:1≤l.length
 case neg=>
  have HC:=hid (keyB_len (l:=l) (by omega))
  have k1:decide ((l.length:Int) < 1)=true:=decide_eq_true (by omega)
  go_enter Tryz.func59,Tryz.ntmps59
  go_wp2_with fail
  go_ret
  exact ⟨ret_bool HC.out.symm,Gr.refl _⟩
 have k1:decide ((l.length:Int) < 1)=false:=decide_eq_false (by omega)
 by_cases h2:l.length≤200
 case neg=>
  have HC:=hid (keyB_len (l:=l) (by omega))
  have k2:decide (200 < (l.length:Int))=true:=decide_eq_true (by omega)
  go_enter Tryz.func59,Tryz.ntmps59
  go_wp2_with fail
  go_ret
  exact ⟨ret_bool HC.out.symm,Gr.refl _⟩
 have k2:decide (200 < (l.length:Int))=false:=decide_eq_false (by omega)
 have HR:=hid (keyB_rest h1 h2)
 go_enter Tryz.func59,Tryz.ntmps59
 go_wp2_with fail
 go_loopw [2,3,14] (fun x0 x1 i wr=>∃k:Nat,k≤l.length∧i=.int .i64 k∧Gr w wr∧(l.take k).all keyC=true) (fun _ _ i _=>l.length-(intOf i).toNat)
 case atStart=>exact ⟨0,Nat.zero_le _,rfl,Gr.refl _,rfl⟩
 case round=>
  obtain ⟨k,hk,rfl,hG,hE⟩:=hrel
  have HE:=hid hE;clear hE k1 k2
  by_cases hlt:k < l.length
  ·have hx:=l[k].toNat_lt
   rcases (show (33≤l[k].toNat∧l[k].toNat≤126)∨(0≤l[k].toNat∧l[k].toNat≤32)∨(127≤l[k].toNat∧l[k].toNat≤255) by omega) with h | h | h
   ·have ddlt33:decide (((l[k].toNat:Nat):Int) < 33)=false:=decide_eq_false (by omega)
    have ddgt126:decide (126 < ((l[k].toNat:Nat):Int))=false:=decide_eq_false (by omega)
    have hc:=hid (keyC_yes (c:=l[k]) (by omega))
    clear hx
    go_wp2_with fail
    exact ⟨⟨k+1,by omega,by go_num,hG,all_take_succ _ l k hlt HE.out hc.out⟩,by simp [intOf];omega⟩
   ·have ddlt33:decide (((l[k].toNat:Nat):Int) < 33)=true:=decide_eq_true (by omega)
    have ddgt126:decide (126 < ((l[k].toNat:Nat):Int))=false:=decide_eq_false (by omega)
    have hc:=hid (keyC_no (c:=l[k]) (by omega))
    clear hx
    go_wp2_with fail
    go_ret
    exact ⟨ret_bool (by rw [HR.out];exact (all_no _ l k hlt hc.out).symm),hG⟩
   ·have ddlt33:decide (((l[k].toNat:Nat):Int) < 33)=false:=decide_eq_false (by omega)
    have ddgt126:decide (126 < ((l[k].toNat:Nat):Int))=true:=decide_eq_true (by omega)
    have hc:=hid (keyC_no (c:=l[k]) (by omega))
    clear hx
    go_wp2_with fail
    go_ret
    exact ⟨ret_bool (by rw [HR.out];exact (all_no _ l k hlt hc.out).symm),hG⟩
  ·have hA:=hid (all_end _ l k hlt HE.out)
   go_wp2_with fail
   go_ret
   exact ⟨ret_bool (by rw [HR.out];exact hA.out.symm),hG⟩
theorem tenC_letter {c:UInt8} (h:letterC c=true):tenC c=true:=by unfold tenC;rw [h];rfl
theorem tenC_sign {c:UInt8} (h:c.toNat=45∨c.toNat=95):tenC c=true:=by
 unfold tenC
 have:c=45∨c=95:=by rcases h with h | h;exact .inl (UInt8.toNat_inj.1 h);exact .inr (UInt8.toNat_inj.1 h)
 rcases this with rfl | rfl <;> decide
theorem tenC_no {c:UInt8} (h:letterC c=false) (h1:c.toNat≠45) (h2:c.toNat≠95):tenC c=false:=by
 unfold tenC
 rw [h]
 simp only [Bool.false_or,Bool.or_eq_false_iff,beq_eq_false_iff_ne,ne_eq]
 exact ⟨fun e=>h1 (by rw [e];rfl),fun e=>h2 (by rw [e];rfl)⟩
theorem hasDash_any (l:List UInt8) (w:World):Calls Tryz.prog 115 #[str l,.string ⟨#[45]⟩] w fun e w'=>e=.returned (.bool ([45].isPrefixOf l))∧Gr w w':=
 (Tryz.strings_HasPrefix ⟨l.toArray⟩ ⟨#[45]⟩ w).mono fun _ _ ⟨h1,h2⟩=>⟨h1,by rw [h2];exact Gr.refl _⟩
set_option maxHeartbeats 4000000 in
theorem tenant_any (l:List UInt8) (w:World) (hl:l.length≤9223372036854775800):Calls Tryz.prog 58 #[str l] w fun e w'=>e=.returned (.bool (tenB l))∧Gr w w':=by
 have HB:=hid (show tenB l=(decide (l.length≤40)&&(!([45].isPrefixOf l)&&l.all tenC)) from rfl)
 by_cases h1:l.length≤40
 case neg=>
  have HC:=hid (show tenB l=false from by rw [HB.out,decide_eq_false h1];rfl)
  have k1:decide (40 < (l.length:Int))=true:=decide_eq_true (by omega)
  go_enter Tryz.func58,Tryz.ntmps58
  go_wp2_with fail
  go_ret
  exact ⟨ret_bool HC.out.symm,Gr.refl _⟩
 have k1:decide (40 < (l.length:Int))=false:=decide_eq_false (by omega)
 rw [decide_eq_true h1,Bool.true_and] at HB
 have HP:=hid (fun (x:World)=>hasDash_any l x)
 cases hp:[45].isPrefixOf l with
 | true=>
   rw [hp] at HP HB
   clear hp
   go_enter Tryz.func58,Tryz.ntmps58
   go_wp2_with (go_at_call 115;refine (HP.out _).mono ?_;rintro e w1 ⟨rfl,hG1⟩)
   go_ret
   exact ⟨ret_bool HB.out.symm,hG1⟩
 | false=>
   rw [hp,Bool.not_false,Bool.true_and] at HB
   rw [hp] at HP
   clear hp
   go_enter Tryz.func58,Tryz.ntmps58
   go_wp2_with (go_at_call 115;refine (HP.out _).mono ?_;rintro e w1 ⟨rfl,hG1⟩)
   go_loopw [2,3,4,5,15] (fun x0 x1 x2 x3 i wr=>∃k:Nat,k≤l.length∧i=.int .i64 k∧Gr w wr∧(l.take k).all tenC=true) (fun _ _ _ _ i _=>l.length-(intOf i).toNat)
   case atStart=>exact ⟨0,Nat.zero_le _,rfl,hG1,rfl⟩
   case round=>
    obtain ⟨k,hk,rfl,hG,hE⟩:=hrel
    have HE:=hid hE;clear hE k1 hG1
    by_cases hlt:k < l.length
    ·have hx:=l[k].toNat_lt
     rcases (show (48≤l[k].toNat∧l[k].toNat≤57)∨(65≤l[k].toNat∧l[k].toNat≤90)∨(97≤l[k].toNat∧l[k].toNat≤122)∨(45≤l[k].toNat∧l[k].toNat≤45)∨(95≤l[k].toNat∧l[k].toNat≤95)∨(0≤l[k].toNat∧l[k].toNat≤44)∨(46≤l[k].toNat∧l[k].toNat≤47)∨(58≤l[k].toNat∧l[k].toNat≤64)∨(91≤l[k].toNat∧l[k].toNat≤94)∨(96≤l[k].toNat∧l[k].toNat≤96)∨(123≤l[k].toNat∧l[k].toNat≤255) by omega) with h | h | h | h | h | h | h | h | h | h | h
     ·have ddge97:decide (97≤((l[k].toNat:Nat):Int))=false:=decide_eq_false (by omega)
      have ddle122:decide (((l[k].toNat:Nat):Int)≤122)=true:=decide_eq_true (by omega)
      have ddge65:decide (65≤((l[k].toNat:Nat):Int))=false:=decide_eq_false (by omega)
      have ddle90:decide (((l[k].toNat:Nat):Int)≤90)=true:=decide_eq_true (by omega)
      have ddge48:decide (48≤((l[k].toNat:Nat):Int))=true:=decide_eq_true (by omega)
      have ddle57:decide (((l[k].toNat:Nat):Int)≤57)=true:=decide_eq_true (by omega)
      have hc:=hid (tenC_letter (tokC_letter l[k] (by omega)))
      clear hx
      go_wp2_with fail
      exact ⟨⟨k+1,by omega,by go_num,hG,all_take_succ _ l k hlt HE.out hc.out⟩,by simp [intOf];omega⟩
     ·have ddge97:decide (97≤((l[k].toNat:Nat):Int))=false:=decide_eq_false (by omega)
      have ddle122:decide (((l[k].toNat:Nat):Int)≤122)=true:=decide_eq_true (by omega)
      have ddge65:decide (65≤((l[k].toNat:Nat):Int))=true:=decide_eq_true (by omega)
      have ddle90:decide (((l[k].toNat:Nat):Int)≤90)=true:=decide_eq_true (by omega)
      have ddge48:decide (48≤((l[k].toNat:Nat):Int))=true:=decide_eq_true (by omega)
      have ddle57:decide (((l[k].toNat:Nat):Int)≤57)=false:=decide_eq_false (by omega)
      have hc:=hid (tenC_letter (tokC_letter l[k] (by omega)))
      clear hx
      go_wp2_with fail
      exact ⟨⟨k+1,by omega,by go_num,hG,all_take_succ _ l k hlt HE.out hc.out⟩,by simp [intOf];omega⟩
     ·have ddge97:decide (97≤((l[k].toNat:Nat):Int))=true:=decide_eq_true (by omega)
      have ddle122:decide (((l[k].toNat:Nat):Int)≤122)=true:=decide_eq_true (by omega)
      have ddge65:decide (65≤((l[k].toNat:Nat):Int))=true:=decide_eq_true (by omega)
      have ddle90:decide (((l[k].toNat:Nat):Int)≤90)=false:=decide_eq_false (by omega)
      have ddge48:decide (48≤((l[k].toNat:Nat):Int))=true:=decide_eq_true (by omega)
      have ddle57:decide (((l[k].toNat:Nat):Int)≤57)=false:=decide_eq_false (by omega)
      have hc:=hid (tenC_letter (tokC_letter l[k] (by omega)))
      clear hx
      go_wp2_with fail
      exact ⟨⟨k+1,by omega,by go_num,hG,all_take_succ _ l k hlt HE.out hc.out⟩,by simp [intOf];omega⟩
     ·have ddge97:decide (97≤((l[k].toNat:Nat):Int))=false:=decide_eq_false (by omega)
      have ddle122:decide (((l[k].toNat:Nat):Int)≤122)=true:=decide_eq_true (by omega)
      have ddge65:decide (65≤((l[k].toNat:Nat):Int))=false:=decide_eq_false (by omega)
      have ddle90:decide (((l[k].toNat:Nat):Int)≤90)=true:=decide_eq_true (by omega)
      have ddge48:decide (48≤((l[k].toNat:Nat):Int))=false:=decide_eq_false (by omega)
      have ddle57:decide (((l[k].toNat:Nat):Int)≤57)=true:=decide_eq_true (by omega)
      have ddne45:(((l[k].toNat:Nat):Int) != 45)=false:=by simp;omega
      have ddne95:(((l[k].toNat:Nat):Int) != 95)=true:=by simp;omega
      have hc:=hid (tenC_sign (c:=l[k]) (by omega))
      clear hx
      go_wp2_with fail
      exact ⟨⟨k+1,by omega,by go_num,hG,all_take_succ _ l k hlt HE.out hc.out⟩,by simp [intOf];omega⟩
     ·have ddge97:decide (97≤((l[k].toNat:Nat):Int))=false:=decide_eq_false (by omega)
      have ddle122:decide (((l[k].toNat:Nat):Int)≤122)=true:=decide_eq_true (by omega)
      have ddge65:decide (65≤((l[k].toNat:Nat):Int))=true:=decide_eq_true (by omega)
      have ddle90:decide (((l[k].toNat:Nat):Int)≤90)=false:=decide_eq_false (by omega)
      have ddge48:decide (48≤((l[k].toNat:Nat):Int))=true:=decide_eq_true (by omega)
      have ddle57:decide (((l[k].toNat:Nat):Int)≤57)=false:=decide_eq_false (by omega)
      have ddne45:(((l[k].toNat:Nat):Int) != 45)=true:=by simp;omega
      have ddne95:(((l[k].toNat:Nat):Int) != 95)=false:=by simp;omega
      have hc:=hid (tenC_sign (c:=l[k]) (by omega))
      clear hx
      go_wp2_with fail
      exact ⟨⟨k+1,by omega,by go_num,hG,all_take_succ _ l k hlt HE.out hc.out⟩,by simp [intOf];omega⟩
     ·have ddge97:decide (97≤((l[k].toNat:Nat):Int))=false:=decide_eq_false (by omega)
      have ddle122:decide (((l[k].toNat:Nat):Int)≤122)=true:=decide_eq_true (by omega)
      have ddge65:decide (65≤((l[k].toNat:Nat):Int))=false:=decide_eq_false (by omega)
      have ddle90:decide (((l[k].toNat:Nat):Int)≤90)=true:=decide_eq_true (by omega)
      have ddge48:decide (48≤((l[k].toNat:Nat):Int))=false:=decide_eq_false (by omega)
      have ddle57:decide (((l[k].toNat:Nat):Int)≤57)=true:=decide_eq_true (by omega)
      have ddne45:(((l[k].toNat:Nat):Int) != 45)=true:=by simp;omega
      have ddne95:(((l[k].toNat:Nat):Int) != 95)=true:=by simp;omega
      have hc:=hid (tenC_no (letterC_no l[k] (by omega)) (by omega) (by omega))
      clear hx
      go_wp2_with fail
      go_ret
      exact ⟨ret_bool (by rw [HB.out];exact (all_no _ l k hlt hc.out).symm),hG⟩
     ·have ddge97:decide (97≤((l[k].toNat:Nat):Int))=false:=decide_eq_false (by omega)
      have ddle122:decide (((l[k].toNat:Nat):Int)≤122)=true:=decide_eq_true (by omega)
      have ddge65:decide (65≤((l[k].toNat:Nat):Int))=false:=decide_eq_false (by omega)
      have ddle90:decide (((l[k].toNat:Nat):Int)≤90)=true:=decide_eq_true (by omega)
      have ddge48:decide (48≤((l[k].toNat:Nat):Int))=false:=decide_eq_false (by omega)
      have ddle57:decide (((l[k].toNat:Nat):Int)≤57)=true:=decide_eq_true (by omega)
      have ddne45:(((l[k].toNat:Nat):Int) != 45)=true:=by simp;omega
      have ddne95:(((l[k].toNat:Nat):Int) != 95)=true:=by simp;omega
      have hc:=hid (tenC_no (letterC_no l[k] (by omega)) (by omega) (by omega))
      clear hx
      go_wp2_with fail
      go_ret
      exact ⟨ret_bool (by rw [HB.out];exact (all_no _ l k hlt hc.out).symm),hG⟩
     ·have ddge97:decide (97≤((l[k].toNat:Nat):Int))=false:=decide_eq_false (by omega)
      have ddle122:decide (((l[k].toNat:Nat):Int)≤122)=true:=decide_eq_true (by omega)
      have ddge65:decide (65≤((l[k].toNat:Nat):Int))=false:=decide_eq_false (by omega)
      have ddle90:decide (((l[k].toNat:Nat):Int)≤90)=true:=decide_eq_true (by omega)
      have ddge48:decide (48≤((l[k].toNat:Nat):Int))=true:=decide_eq_true (by omega)
      have ddle57:decide (((l[k].toNat:Nat):Int)≤57)=false:=decide_eq_false (by omega)
      have ddne45:(((l[k].toNat:Nat):Int) != 45)=true:=by simp;omega
      have ddne95:(((l[k].toNat:Nat):Int) != 95)=true:=by simp;omega
      have hc:=hid (tenC_no (letterC_no l[k] (by omega)) (by omega) (by omega))
      clear hx
      go_wp2_with fail
      go_ret
      exact ⟨ret_bool (by rw [HB.out];exact (all_no _ l k hlt hc.out).symm),hG⟩
     ·have ddge97:decide (97≤((l[k].toNat:Nat):Int))=false:=decide_eq_false (by omega)
      have ddle122:decide (((l[k].toNat:Nat):Int)≤122)=true:=decide_eq_true (by omega)
      have ddge65:decide (65≤((l[k].toNat:Nat):Int))=true:=decide_eq_true (by omega)
      have ddle90:decide (((l[k].toNat:Nat):Int)≤90)=false:=decide_eq_false (by omega)
      have ddge48:decide (48≤((l[k].toNat:Nat):Int))=true:=decide_eq_true (by omega)
      have ddle57:decide (((l[k].toNat:Nat):Int)≤57)=false:=decide_eq_false (by omega)
      have ddne45:(((l[k].toNat:Nat):Int) != 45)=true:=by simp;omega
      have ddne95:(((l[k].toNat:Nat):Int) != 95)=true:=by simp;omega
      have hc:=hid (tenC_no (letterC_no l[k] (by omega)) (by omega) (by omega))
      clear hx
      go_wp2_with fail
      go_ret
      exact ⟨ret_bool (by rw [HB.out];exact (all_no _ l k hlt hc.out).symm),hG⟩
     ·have ddge97:decide (97≤((l[k].toNat:Nat):Int))=false:=decide_eq_false (by omega)
      have ddle122:decide (((l[k].toNat:Nat):Int)≤122)=true:=decide_eq_true (by omega)
      have ddge65:decide (65≤((l[k].toNat:Nat):Int))=true:=decide_eq_true (by omega)
      have ddle90:decide (((l[k].toNat:Nat):Int)≤90)=false:=decide_eq_false (by omega)
      have ddge48:decide (48≤((l[k].toNat:Nat):Int))=true:=decide_eq_true (by omega)
      have ddle57:decide (((l[k].toNat:Nat):Int)≤57)=false:=decide_eq_false (by omega)
      have ddne45:(((l[k].toNat:Nat):Int) != 45)=true:=by simp;omega
      have ddne95:(((l[k].toNat:Nat):Int) != 95)=true:=by simp;omega
      have hc:=hid (tenC_no (letterC_no l[k] (by omega)) (by omega) (by omega))
      clear hx
      go_wp2_with fail
      go_ret
      exact ⟨ret_bool (by rw [HB.out];exact (all_no _ l k hlt hc.out).symm),hG⟩
     ·have ddge97:decide (97≤((l[k].toNat:Nat):Int))=true:=decide_eq_true (by omega)
      have ddle122:decide (((l[k].toNat:Nat):Int)≤122)=false:=decide_eq_false (by omega)
      have ddge65:decide (65≤((l[k].toNat:Nat):Int))=true:=decide_eq_true (by omega)
      have ddle90:decide (((l[k].toNat:Nat):Int)≤90)=false:=decide_eq_false (by omega)
      have ddge48:decide (48≤((l[k].toNat:Nat):Int))=true:=decide_eq_true (by omega)
      have ddle57:decide (((l[k].toNat:Nat):Int)≤57)=false:=decide_eq_false (by omega)
      have ddne45:(((l[k].toNat:Nat):Int) != 45)=true:=by simp;omega
      have ddne95:(((l[k].toNat:Nat):Int) != 95)=true:=by simp;omega
      have hc:=hid (tenC_no (letterC_no l[k] (by omega)) (by omega) (by omega))
      clear hx
      go_wp2_with fail
      go_ret
      exact ⟨ret_bool (by rw [HB.out];exact (all_no _ l k hlt hc.out).symm),hG⟩
    ·have hA:=hid (all_end _ l k hlt HE.out)
     go_wp2_with fail
     go_ret
     exact ⟨ret_bool (by rw [HB.out];exact hA.out.symm),hG⟩
def metaCs (m:MetaT) (vk:Value):List Value:=[str m.tag.1,.bool m.tag.2,.int .i64 m.mod,.int .i64 m.len,.int .i64 m.hv,.int .i64 m.fr,.int .i64 m.wh,.int .i64 m.er,vk,str m.ten,.bool m.keep]
def metaV (m:MetaT) (vk:Value):Value:=.agg (metaCs m vk).toArray
structure MetaLow (m:MetaT):Prop where
 tag:m.tag.1.length≤140737488355328
 ten:m.ten.length≤140737488355328
 keys:Short m.keys
theorem keysB_bad:∀(l acc:List (List UInt8)) (k:Nat) (h:k < l.length),(keyB l[k]&&!(acc++l.take k).contains l[k])=false→keysB acc l=false
 | [],_,_,h,_=>by simp at h
 | x::l,acc,0,_,hb=>by
   rw [keysB]
   simp only [List.take_zero,List.append_nil,List.getElem_cons_zero] at hb
   rw [hb];rfl
 | x::l,acc,k+1,h,hb=>by
   rw [keysB]
   simp only [List.getElem_cons_succ,List.take_succ_cons] at hb
   rw [keysB_bad l (acc++[x]) k (by simpa using h) (by simpa using hb),Bool.and_false]
theorem keysB_all_of:∀(l acc:List (List UInt8)),(∀k (h:k < l.length),(keyB l[k]&&!(acc++l.take k).contains l[k])=true)→keysB acc l=true
 | [],_,_=>rfl
 | x::l,acc,h=>by
   rw [keysB]
   have h0:=h 0 (by simp)
   simp only [List.take_zero,List.append_nil,List.getElem_cons_zero] at h0
   rw [h0,keysB_all_of l (acc++[x]) (fun k hk=>by
    have:=h (k+1) (by simpa using hk)
    simpa using this)]
   rfl
theorem contains_arr (zs:List (List UInt8)) (x:List UInt8):Lib.containsS (zs.map fun z=>(⟨z.toArray⟩:ByteArray)) ⟨x.toArray⟩=zs.contains x:=by
 rw [Bool.eq_iff_iff,Lib.containsS_iff,List.contains_iff_mem,List.mem_map]
 constructor
 ·rintro ⟨z,hz,he⟩
  have:z.toArray=x.toArray:=congrArg ByteArray.data he
  have:z=x:=by simpa using congrArg Array.toList this
  rw [←this];exact hz
 ·intro h;exact ⟨x,h,rfl⟩
end Go.Proofs.YtflepnkpihfidaaGreatDoor
namespace Go.Proofs.YtflepnkpihfidaaGreatDoor
open Lib (hid)
open Go.RowKit
theorem contains_any (b o c k:Nat) (keys:List (List UInt8)) (x:List UInt8) (w:World) (hk:k≤keys.length) (hl:keys.length≤9223372036854775807) (hc:∀j (h:j < keys.length),w.cell? ⟨b,o+j,none⟩=some (str keys[j])) :
  Calls Tryz.prog 60 #[.slice (some ⟨b,o,none⟩) k c,str x] w fun e w'=>e=.returned (.bool ((keys.take k).contains x))∧Gr w w':=by
 have h:=Tryz.slices_Contains_string b o k c (keys.map fun z=>(⟨z.toArray⟩:ByteArray)) ⟨x.toArray⟩ w (by rw [List.length_map];exact hk) (by omega) (fun j hj=>by
  rw [List.length_map] at hj
  rw [hc j hj]
  simp [List.getD,hj])
 rw [←List.map_take,contains_arr] at h
 exact h.mono fun _ _ ⟨h1,h2⟩=>⟨h1,by rw [h2];exact Gr.refl _⟩
set_option maxHeartbeats 16000000 in
set_option maxRecDepth 100000 in
theorem metaRight_any (m:MetaT) (vk:Value) (w:World) (hk:Strs w vk m.keys) (hm:MetaLow m) (hn:m.keys.length≤1000000) :
  Calls Tryz.prog 21 #[metaV m vk] w fun e w'=>e=.returned (.bool (metaB m))∧Gr w w':=by
 have HN:=hid (fun (h:¬MetaOk m)=>show metaB m=false from by rw [Bool.eq_false_iff];exact fun h'=>h (metaB_iff.1 h'))
 have HY:=hid (fun (h:MetaOk m)=>metaB_iff.2 h)
 generalize metaB m=mb at *
 obtain ⟨hl1,hl2,hl3⟩:=hm
 have HT:=hid (fun (x:World)=>tagRight_any m.tag.1 m.tag.2 x (by omega))
 have HTN:=hid (fun (x:World)=>tenant_any m.ten x (by omega))
 have HKY:=hid (fun (k:Nat) (h:k < m.keys.length) (x:World)=>key_any m.keys[k] x (by have:=hl3.at k h;omega))
 have HKB:=hid (fun (k:Nat) (h:k < m.keys.length) (hb:(keyB m.keys[k]&&!(m.keys.take k).contains m.keys[k])=false)=>keysB_bad m.keys [] k h (by rw [List.nil_append];exact hb))
 have HKA:=hid (fun (h:∀k (h:k < m.keys.length),(keyB m.keys[k]&&!(m.keys.take k).contains m.keys[k])=true)=>keysB_all_of m.keys [] (fun k hk=>by rw [List.nil_append];exact h k hk))
 have HCN:=hid (fun (b o c k:Nat) (x:List UInt8) (v:World) (h:k≤m.keys.length)=>contains_any b o c k m.keys x v h (by omega))
 obtain ⟨A,c,rfl,hcap,hmx,hA⟩:=hk.open
 have HA:=hid hA
 have HOK:=hid (show ∀(h:MetaOk m),_ from fun h=>(⟨h.tag,h.mod,h.len,h.hv,h.hl,h.fr,h.wh,h.er,h.few,h.ten,h.keys⟩:_∧_∧_∧_∧_∧_∧_∧_∧_∧_∧_))
 have HMK:=hid (MetaOk.mk (m:=m))
 obtain ⟨⟨tg,tk⟩,mod,len,hv,fr,wh,er,keys,ten,kp⟩:=m
 unfold metaV metaCs
 simp only at *
 have hqe:=neq_tag
 have hqg:=fun (w:World) (x y:Operand) (a b:Array Value)=>run_eqGuard_agg (P:=Tryz.prog) w .neq 25 x y a b (by kernel_rfl)
 have hbx:=Bk.new w 66 #[str tg,.bool tk,.int .i64 mod,.int .i64 len,.int .i64 hv,.int .i64 fr,.int .i64 wh,.int .i64 er,.slice A keys.length c,str ten,.bool kp] (0,0)
 have hG0:=Gr.al (Gr.refl w) (Obj.cells #[str tg,.bool tk,.int .i64 mod,.int .i64 len,.int .i64 hv,.int .i64 fr,.int .i64 wh,.int .i64 er,.slice A keys.length c,str ten,.bool kp] 66)
 clear hA hk hl1 hl2 hl3
 go_enter Tryz.func21,Tryz.ntmps21
 go_upto_region 1 with fail
 generalize w.alloc (Obj.cells #[str tg,.bool tk,.int .i64 mod,.int .i64 len,.int .i64 hv,.int .i64 fr,.int .i64 wh,.int .i64 er,.slice A keys.length c,str ten,.bool kp] 66)=w0 at *
 generalize w.heap.size=g at *
 have HG0:=hid hG0
 have HBX:=hid (fun (x:World) (h:Gr w0 x)=>hbx.gr h)
 clear hG0 hbx
 have h00:=Gr.refl w0
 have b0:w0.cell? ⟨g,0,none⟩=some (str tg):=(HBX.out _ h00).cell 0
 have b1:w0.cell? ⟨g,1,none⟩=some (.bool tk):=(HBX.out _ h00).cell 1
 go_cut [14] (fun s wx=>s=.bool (!((tg,tk)==(([],false):TagT))&&!(tagB tg))∧Gr w0 wx)
 case first=>
  cases hz:((tg,tk)==(([],false):TagT)) with
  | true=>
    have HZ:=hid hz
    go_wp2_with fail
    go_meet
    exact ⟨by rw [HZ.out];rfl,h00⟩
  | false=>
    have HZ:=hid hz
    cases hb:tagB tg
    all_goals
     rw [hb] at HT
     have HBB:=hid hb
     clear hb
     go_wp2_with (go_at_call 56;refine (HT.out _).mono ?_;rintro e w1 ⟨rfl,hG1⟩)
     go_meet
     exact ⟨by rw [HZ.out,HBB.out];rfl,hG1⟩
 case rest=>
 obtain ⟨rfl,h01⟩:=hcut
 generalize wc=w1 at *
 clear b0 b1 h00 HT hqe hqg
 cases htv:(!((tg,tk)==(([],false):TagT))&&!(tagB tg)) with
 | true=>
   have HC:=hid (HN.out (fun h=>by
    simp only [Bool.and_eq_true,Bool.not_eq_true'] at htv
    rcases (HOK.out h).1 with h1 | h1
    ·rw [h1] at htv;simp at htv
    ·rw [htv.2] at h1;cases h1))
   clear htv
   go_wp2_with fail
   go_ret
   exact ⟨ret_bool HC.out.symm,Gr.tr HG0.out h01⟩
 | false=>
 have HTG:=hid (show (tg,tk)=(([],false):TagT)∨tagB tg=true from by
  rw [Bool.and_eq_false_iff] at htv
  rcases htv with h | h
  ·left;simpa using h
  ·right;simpa using h)
 clear htv
 have b2:w1.cell? ⟨g,2,none⟩=some (.int .i64 mod):=(HBX.out _ h01).cell 2
 have b3:w1.cell? ⟨g,3,none⟩=some (.int .i64 len):=(HBX.out _ h01).cell 3
 by_cases c1:mod < -1
 ·have HC:=hid (HN.out (fun h=>by have:=(HOK.out h).2.1;omega))
  have kc1:decide (mod < -1)=true:=decide_eq_true c1
  go_wp2_with fail
  go_ret
  exact ⟨ret_bool HC.out.symm,Gr.tr HG0.out h01⟩
 have kc1:decide (mod < -1)=false:=decide_eq_false c1
 by_cases c2:253402300799 < mod
 ·have HC:=hid (HN.out (fun h=>by have:=(HOK.out h).2.1;omega))
  have kc2:decide (253402300799 < mod)=true:=decide_eq_true c2
  go_wp2_with fail
  go_ret
  exact ⟨ret_bool HC.out.symm,Gr.tr HG0.out h01⟩
 have kc2:decide (253402300799 < mod)=false:=decide_eq_false c2
 by_cases c3:len < -1
 ·have HC:=hid (HN.out (fun h=>by have:=(HOK.out h).2.2.1;omega))
  have kc3:decide (len < -1)=true:=decide_eq_true c3
  go_wp2_with fail
  go_ret
  exact ⟨ret_bool HC.out.symm,Gr.tr HG0.out h01⟩
 have kc3:decide (len < -1)=false:=decide_eq_false c3
 by_cases c4:1099511627776 < len
 ·have HC:=hid (HN.out (fun h=>by have:=(HOK.out h).2.2.1;omega))
  have kc4:decide (1099511627776 < len)=true:=decide_eq_true c4
  go_wp2_with fail
  go_ret
  exact ⟨ret_bool HC.out.symm,Gr.tr HG0.out h01⟩
 have kc4:decide (1099511627776 < len)=false:=decide_eq_false c4
 go_upto_region 5 with fail
 have HMOD:=hid (show -1≤mod∧mod≤253402300799 from by omega)
 have HLEN:=hid (show -1≤len∧len≤1099511627776 from by omega)
 have b4:w1.cell? ⟨g,4,none⟩=some (.int .i64 hv):=(HBX.out _ h01).cell 4
 clear c1 c2 c3 c4 kc1 kc2 kc3 kc4 b2
 go_cut [52] (fun s wx=>∃bb,s=.bool bb∧w1=wx∧(bb=false→(0≤hv∧hv≤1099511627776)∧(len= -1∨hv=len))∧(bb=true→¬((0≤hv∧hv≤1099511627776)∧(len= -1∨hv=len))))
 case first=>
  by_cases c1:hv < 0
  ·have kc1:decide (hv < 0)=true:=decide_eq_true c1
   go_wp2_with fail
   go_meet
   exact ⟨true,rfl,rfl,by simp,fun _ h=>by omega⟩
  have kc1:decide (hv < 0)=false:=decide_eq_false c1
  by_cases c2:1099511627776 < hv
  ·have kc2:decide (1099511627776 < hv)=true:=decide_eq_true c2
   go_wp2_with fail
   go_meet
   exact ⟨true,rfl,rfl,by simp,fun _ h=>by omega⟩
  have kc2:decide (1099511627776 < hv)=false:=decide_eq_false c2
  by_cases c3:len= -1
  ·have k3:(len != -1)=false:=by simp [c3]
   have HL:=hid c3
   clear c3
   go_wp2_with fail
   go_meet
   exact ⟨false,rfl,rfl,fun _=>⟨by omega,.inl HL.out⟩,by simp⟩
  have k3:(len != -1)=true:=by simp [c3]
  by_cases c4:hv=len
  ·have k4:(hv != len)=false:=by simp [c4]
   have HL:=hid c4
   clear c4 c3
   go_wp2_with fail
   go_meet
   exact ⟨false,rfl,rfl,fun _=>⟨by omega,.inr HL.out⟩,by simp⟩
  ·have k4:(hv != len)=true:=by simp [c4]
   go_wp2_with fail
   go_meet
   exact ⟨true,rfl,rfl,by simp,fun _ h=>by omega⟩
 case rest=>
 obtain ⟨bb,rfl,rfl,hbf,hbt⟩:=hcut
 clear b3 b4
 cases bb with
 | true=>
   have HC:=hid (HN.out (fun h=>hbt rfl ⟨(HOK.out h).2.2.2.1,(HOK.out h).2.2.2.2.1⟩))
   go_wp2_with fail
   go_ret
   exact ⟨ret_bool HC.out.symm,Gr.tr HG0.out h01⟩
 | false=>
 have HHV:=hid (hbf rfl).1
 have HHL:=hid (hbf rfl).2
 clear hbf hbt
 have r5:∀x,Gr w0 x→x.cell? ⟨g,5,none⟩=some (.int .i64 fr):=fun x h=>(HBX.out _ h).cell 5
 have r6:∀x,Gr w0 x→x.cell? ⟨g,6,none⟩=some (.int .i64 wh):=fun x h=>(HBX.out _ h).cell 6
 have r7:∀x,Gr w0 x→x.cell? ⟨g,7,none⟩=some (.int .i64 er):=fun x h=>(HBX.out _ h).cell 7
 have r8:∀x,Gr w0 x→x.cell? ⟨g,8,none⟩=some (.slice A keys.length c):=fun x h=>(HBX.out _ h).cell 8
 have r9:∀x,Gr w0 x→x.cell? ⟨g,9,none⟩=some (str ten):=fun x h=>(HBX.out _ h).cell 9
 have HF:=hid (fun (x:World)=>ticks_any fr x)
 have HW:=hid (fun (x:World)=>ticks_any wh x)
 have HE:=hid (fun (x:World)=>ticks_any er x)
 cases hfr:ticksB fr with
 | false=>
   have HC:=hid (HN.out (fun h=>by rw [ticksB_iff.2 (HOK.out h).2.2.2.2.2.1] at hfr;cases hfr))
   rw [hfr] at HF
   clear hfr
   go_wp2_with (first
    | (go_at_call 57;(with_reducible refine (HF.out _).mono ?_);rintro e wn ⟨rfl,hgn⟩;have h04:Gr w0 wn:=Gr.tr h01 hgn;clear hgn))
   go_ret
   exact ⟨ret_bool HC.out.symm,Gr.tr HG0.out h04⟩
 | true=>
 rw [hfr] at HF
 have HFRT:=hid (ticksB_iff.1 hfr)
 clear hfr
 cases hwh:ticksB wh with
 | false=>
   have HC:=hid (HN.out (fun h=>by rw [ticksB_iff.2 (HOK.out h).2.2.2.2.2.2.1] at hwh;cases hwh))
   rw [hwh] at HW
   clear hwh
   go_wp2_with (first
    | (go_at_call 57;(with_reducible refine (HF.out _).mono ?_);rintro e wn ⟨rfl,hgn⟩;have h04:Gr w0 wn:=Gr.tr h01 hgn;clear hgn)
    | (go_at_call 57;(with_reducible refine (HW.out _).mono ?_);rintro e wm ⟨rfl,hgm⟩;have h05:Gr w0 wm:=Gr.tr h04 hgm;clear hgm HF))
   go_ret
   exact ⟨ret_bool HC.out.symm,Gr.tr HG0.out h05⟩
 | true=>
 rw [hwh] at HW
 have HWHT:=hid (ticksB_iff.1 hwh)
 clear hwh
 cases her:ticksB er with
 | false=>
   have HC:=hid (HN.out (fun h=>by rw [ticksB_iff.2 (HOK.out h).2.2.2.2.2.2.2.1] at her;cases her))
   rw [her] at HE
   clear her
   go_wp2_with (first
    | (go_at_call 57;(with_reducible refine (HF.out _).mono ?_);rintro e wn ⟨rfl,hgn⟩;have h04:Gr w0 wn:=Gr.tr h01 hgn;clear hgn)
    | (go_at_call 57;(with_reducible refine (HW.out _).mono ?_);rintro e wm ⟨rfl,hgm⟩;have h05:Gr w0 wm:=Gr.tr h04 hgm;clear hgm HF)
    | (go_at_call 57;(with_reducible refine (HE.out _).mono ?_);rintro e wl ⟨rfl,hgl⟩;have h06:Gr w0 wl:=Gr.tr h05 hgl;clear hgl HW))
   go_ret
   exact ⟨ret_bool HC.out.symm,Gr.tr HG0.out h06⟩
 | true=>
 rw [her] at HE
 have HERT:=hid (ticksB_iff.1 her)
 clear her
 by_cases c5:32 < keys.length
 ·have HC:=hid (HN.out (fun h=>by have:=(HOK.out h).2.2.2.2.2.2.2.2.1;omega))
  have k5:decide (32 < (keys.length:Int))=true:=decide_eq_true (by omega)
  go_wp2_with (first
   | (go_at_call 57;(with_reducible refine (HF.out _).mono ?_);rintro e wn ⟨rfl,hgn⟩;have h04:Gr w0 wn:=Gr.tr h01 hgn;clear hgn)
   | (go_at_call 57;(with_reducible refine (HW.out _).mono ?_);rintro e wm ⟨rfl,hgm⟩;have h05:Gr w0 wm:=Gr.tr h04 hgm;clear hgm HF)
   | (go_at_call 57;(with_reducible refine (HE.out _).mono ?_);rintro e wl ⟨rfl,hgl⟩;have h06:Gr w0 wl:=Gr.tr h05 hgl;clear hgl HW))
  go_ret
  exact ⟨ret_bool HC.out.symm,Gr.tr HG0.out h06⟩
 have k5:decide (32 < (keys.length:Int))=false:=decide_eq_false (by omega)
 cases ht:tenB ten with
 | false=>
   have HC:=hid (HN.out (fun h=>by rw [(HOK.out h).2.2.2.2.2.2.2.2.2.1] at ht;cases ht))
   rw [ht] at HTN
   clear ht
   go_wp2_with (first
    | (go_at_call 57;(with_reducible refine (HF.out _).mono ?_);rintro e wn ⟨rfl,hgn⟩;have h04:Gr w0 wn:=Gr.tr h01 hgn;clear hgn)
    | (go_at_call 57;(with_reducible refine (HW.out _).mono ?_);rintro e wm ⟨rfl,hgm⟩;have h05:Gr w0 wm:=Gr.tr h04 hgm;clear hgm HF)
    | (go_at_call 57;(with_reducible refine (HE.out _).mono ?_);rintro e wl ⟨rfl,hgl⟩;have h06:Gr w0 wl:=Gr.tr h05 hgl;clear hgl HW)
    | (go_at_call 58;refine (HTN.out _).mono ?_;rintro e wk ⟨rfl,hgk⟩;have h07:Gr w0 wk:=Gr.tr h06 hgk;clear hgk))
   go_ret
   exact ⟨ret_bool HC.out.symm,Gr.tr HG0.out h07⟩
 | true=>
 rw [ht] at HTN
 have HX:=hid (fun (h:keysB [] keys=true)=>HY.out (HMK.out HTG.out HMOD.out HLEN.out HHV.out HHL.out HFRT.out HWHT.out HERT.out (by omega) ht h))
 have HNK:=hid (fun (h:keysB [] keys=false)=>HN.out (fun h'=>by rw [(HOK.out h').2.2.2.2.2.2.2.2.2.2] at h;cases h))
 clear ht HY HN HOK HMK HTG HMOD HLEN HHV HHL HFRT HWHT HERT c5
 go_upto_region 9 with (first
  | (go_at_call 57;(with_reducible refine (HF.out _).mono ?_);rintro e wn ⟨rfl,hgn⟩;have h04:Gr w0 wn:=Gr.tr h01 hgn;clear hgn)
  | (go_at_call 57;(with_reducible refine (HW.out _).mono ?_);rintro e wm ⟨rfl,hgm⟩;have h05:Gr w0 wm:=Gr.tr h04 hgm;clear hgm HF)
  | (go_at_call 57;(with_reducible refine (HE.out _).mono ?_);rintro e wl ⟨rfl,hgl⟩;have h06:Gr w0 wl:=Gr.tr h05 hgl;clear hgl HW)
  | (go_at_call 58;refine (HTN.out _).mono ?_;rintro e wk ⟨rfl,hgk⟩;have h07:Gr w0 wk:=Gr.tr h06 hgk;clear hgk))
 clear HTN k5 r5 r6 r7 r9 HE h01 h04 h05 h06
 go_wp2_with fail
 go_loopw [2,3,4,84] (fun x0 x1 x2 i wr=>∃k:Nat,k≤keys.length∧i=.int .i64 k∧Gr w0 wr∧∀j (h:j < keys.length),j < k→(keyB keys[j]&&!(keys.take j).contains keys[j])=true) (fun _ _ _ i _=>keys.length-(intOf i).toNat)
 case atStart=>exact ⟨0,Nat.zero_le _,rfl,h07,fun j _ h=>by omega⟩
 case round=>
  obtain ⟨k,hk,rfl,hG,hall⟩:=hrel
  have HALL:=hid hall
  clear hall h07
  by_cases hlt:k < keys.length
  ·obtain ⟨b1,o1,hA1,hb1,p0⟩:=HA.out k hlt
   have HCELL:=hid (fun (x:World) (h:Gr w0 x) (j:Nat) (hj:j < keys.length)=>show x.cell? ⟨b1,o1+j,none⟩=some (str keys[j]) from by
    obtain ⟨b2,o2,hA2,hb2,p2⟩:=HA.out j hj
    rw [hA1] at hA2
    cases hA2
    exact Gr.cell (Gr.tr HG0.out h) p2)
   subst hA1
   have p0:=Gr.cell (Gr.tr HG0.out hG) p0
   have HKK:=hid (fun (x:World)=>HKY.out k hlt x)
   have HCC:=hid (fun (x:World) (h:Gr w0 x)=>HCN.out b1 o1 c k keys[k] x hk (HCELL.out x h))
   have HBD:=hid (HKB.out k hlt)
   have HG1:=hid (show (keyB keys[k]&&!(keys.take k).contains keys[k])=true→∀j (h:j < keys.length),j < k+1→(keyB keys[j]&&!(keys.take j).contains keys[j])=true from fun hh j hj hjk=>by
    by_cases e:j=k
    ·subst e;exact hh
    ·exact HALL.out j hj (by omega))
   generalize keys[k]=kk at *
   cases hky:keyB kk with
   | false=>
     rw [hky] at HKK HBD
     have HC:=hid (HNK.out (HBD.out rfl))
     clear hky
     go_wp2_with (go_at_call 59;refine (HKK.out _).mono ?_;rintro e wn ⟨rfl,hgn⟩)
     go_ret
     exact ⟨ret_bool HC.out.symm,Gr.tr HG0.out (Gr.tr hG hgn)⟩
   | true=>
     rw [hky] at HKK HBD HG1
     clear hky
     cases hct:(keys.take k).contains kk with
     | true=>
       rw [hct] at HCC HBD
       have HC:=hid (HNK.out (HBD.out rfl))
       clear hct
       go_wp2_with (first
        | (go_at_call 59;refine (HKK.out _).mono ?_;rintro e wn ⟨rfl,hgn⟩;have h05:Gr w0 wn:=Gr.tr hG hgn;clear hgn)
        | (go_at_call 60;refine (HCC.out _ h05).mono ?_;rintro e wm ⟨rfl,hgm⟩))
       go_ret
       exact ⟨ret_bool HC.out.symm,Gr.tr HG0.out (Gr.tr h05 hgm)⟩
     | false=>
       rw [hct] at HCC HG1
       clear hct
       go_wp2_with (first
        | (go_at_call 59;refine (HKK.out _).mono ?_;rintro e wn ⟨rfl,hgn⟩;have h05:Gr w0 wn:=Gr.tr hG hgn;clear hgn)
        | (go_at_call 60;refine (HCC.out _ h05).mono ?_;rintro e wm ⟨rfl,hgm⟩))
       exact ⟨⟨k+1,by omega,by go_num,Gr.tr h05 hgm,HG1.out rfl⟩,by simp [intOf];omega⟩
  ·have HC:=hid (HX.out (HKA.out (fun j hj=>HALL.out j hj (by omega))))
   go_wp2_with fail
   go_ret
   exact ⟨ret_bool HC.out.symm,Gr.tr HG0.out hG⟩
end Go.Proofs.YtflepnkpihfidaaGreatDoor
namespace Go.Proofs.YtflepnkpihfidaaGreatDoor
open Lib (hid)
open Go.RowKit
theorem joinB_snoc:∀(l:List (List UInt8)) (t:List UInt8),joinB (l++[t])=joinB l++((if l=[] then [] else [32])++t)
 | [],t=>rfl
 | [u],t=>by simp [joinB]
 | u::v::r,t=>by
   have:=joinB_snoc (v::r) t
   simp only [List.cons_append] at this ⊢
   rw [joinB,this,joinB]
   simp
theorem joinB_succ (l:List (List UInt8)) (k:Nat) (h:k < l.length):joinB (l.take (k+1))=joinB (l.take k)++((if k=0 then [] else [32])++l[k]):=by
 rw [take_snoc l k h,joinB_snoc]
 congr 2
 by_cases hk:k=0
 ·subst hk;simp
 ·rw [if_neg hk,if_neg]
  intro e
  have:=congrArg List.length e
  rw [List.length_take,List.length_nil] at this;omega
theorem joinB_len:∀(l:List (List UInt8)),(joinB l).length≤bulk1 l+2*l.length
 | []=>by simp [joinB]
 | [t]=>by simp [joinB,bulk1]
 | t::u::r=>by
   have:=joinB_len (u::r)
   simp only [joinB,bulk1,List.length_append,List.length_cons,List.map_cons,List.sum_cons] at this ⊢
   omega
theorem joinB_take_len (l:List (List UInt8)) (k:Nat) (hb:∀x∈l,x.length≤70000):(joinB (l.take k)).length≤k*70002:=by
 have h1:=joinB_len (l.take k)
 have h2:(l.take k).length≤k:=by rw [List.length_take];omega
 have h3:bulk1 (l.take k)≤(l.take k).length*70000:=by
  have:∀x∈l.take k,x.length≤70000:=fun x hx=>hb x (List.mem_of_mem_take hx)
  clear h1 h2
  generalize l.take k=m at *
  induction m with
  | nil=>simp [bulk1]
  | cons x m ih=>
    have h4:=ih (fun y hy=>this y (List.mem_cons_of_mem _ hy))
    have h5:=this x (by simp)
    simp only [bulk1,List.map_cons,List.sum_cons,List.length_cons,Nat.succ_mul] at h4 ⊢
    omega
 have h4:(l.take k).length*70000≤k*70000:=Nat.mul_le_mul_right _ h2
 omega
set_option maxHeartbeats 4000000 in
set_option maxRecDepth 100000 in
theorem joinB_any (u:Value) (vs:List (List UInt8)) (w:World) (hu:Strs w u vs) (hl:vs.length≤130) (hb:∀x∈vs,x.length≤70000):Calls Tryz.prog 143 #[u,str [32]] w fun e w'=>e=.returned (str (joinB vs))∧Gr w w':=by
 obtain ⟨A,c,rfl,hc,hx,hA⟩:=hu.open
 have HA:=hid hA;have HB:=hid hb;clear hA hu hb
 rcases (show vs.length=0∨vs.length=1∨2≤vs.length by omega) with h | h | h
 ·have hv:vs=[]:=List.eq_nil_of_length_eq_zero h
  subst hv
  go_enter Tryz.func143,Tryz.ntmps143
  go_wp2_with fail
  go_ret
  exact ⟨rfl,Gr.refl _⟩
 ·obtain ⟨x,rfl⟩:=List.length_eq_one_iff.1 h
  obtain ⟨b1,o1,rfl,hb1,p0⟩:=HA.out 0 (by simp)
  simp only [Nat.add_zero,List.getElem_cons_zero] at p0
  go_enter Tryz.func143,Tryz.ntmps143
  go_wp2_with fail
  go_ret
  exact ⟨rfl,Gr.refl _⟩
 ·obtain ⟨b1,o1,rfl,hb1,p0⟩:=HA.out 0 (by omega)
  simp only [Nat.add_zero] at p0
  have k0:((vs.length:Int)==0)=false:=by rw [beq_eq_false_iff_ne];omega
  have k1:((vs.length:Int)==1)=false:=by rw [beq_eq_false_iff_ne];omega
  have k2:decide (9223372036854775807 / ((vs.length:Int)-1)≤1)=false:=decide_eq_false (by
   have:(2:Int)≤9223372036854775807 / ((vs.length:Int)-1):=by
    have h3:(2:Int)*((vs.length:Int)-1)≤9223372036854775807:=by omega
    have h4:(0:Int) < (vs.length:Int)-1:=by omega
    exact (Int.le_ediv_iff_mul_le h4).2 h3
   exact fun h=>absurd (Int.le_trans this h) (by decide))
  go_enter Tryz.func143,Tryz.ntmps143
  go_upto_region 12 with fail
  go_loop [5,7,41] (fun n x i=>∃k N:Nat,k≤vs.length∧i=.int .i64 k∧n=.int .i64 N∧N≤1000+k*70000) (fun _ _ i=>vs.length-(intOf i).toNat)
  case atStart=>exact ⟨0,vs.length-1,Nat.zero_le _,rfl,by simp only [Value.int.injEq,true_and];omega,by omega⟩
  case round=>
   clear k0 k1 k2
   obtain ⟨k,N,hk,rfl,rfl,hN⟩:=hrel
   by_cases hlt:k < vs.length
   ·obtain ⟨b2,o2,hbe,hb2,p2⟩:=HA.out k hlt
    obtain ⟨rfl,rfl⟩:b1=b2∧o1=o2:=by cases hbe;exact ⟨rfl,rfl⟩
    have hxl:=HB.out _ (List.getElem_mem hlt)
    have k3:decide (9223372036854775807-(N:Int) < (vs[k].length:Int))=false:=decide_eq_false (by omega)
    clear hbe
    go_wp2_with fail
    exact ⟨⟨k+1,N+vs[k].length,by omega,by go_num,by go_num,by omega⟩,by simp [intOf];omega⟩
   ·go_upto_region 19 with fail
    have hbk:=Bk.new w 171 #[.pointer none,.slice none 0 0] (0,0)
    have hga:=Gr.al (Gr.refl w) (.cells #[.pointer none,.slice none 0 0] 171)
    have HGW:=hid (grow_any w _ w.heap.size N (Nat.le_refl _) hga hbk (by omega))
    have q0:=p0
    clear p0
    generalize w.alloc (.cells #[.pointer none,.slice none 0 0] 171)=wb at *
    generalize w.heap.size=bb at *
    clear hbk hga
    have hx0:=HB.out _ (List.getElem_mem (show 0 < vs.length by omega))
    have hs1:vs.length≠1:=by omega
    go_upto_region 22 with (first
     | (go_at_call 116;refine HGW.out.mono ?_;rintro e w1 ⟨rfl,hB1⟩;have p0:=hB1.2.1.cell q0;have HB1:=hid hB1;clear hB1)
     | (go_at_call 102;refine (writeString_any w _ bb [] _ HB1.out (by simp;omega)).mono ?_;rintro e w2 ⟨rfl,hB2,hO2⟩;have HB2:=hid hB2;clear hB2 hO2))
    have HQ0:=hid q0
    clear p0 q0
    rw [List.nil_append] at HB2
    go_loopw [10,65] (fun x i wr=>∃k:Nat,k+1≤vs.length∧i=.int .i64 k∧Bld w wr bb (joinB (vs.take (k+1)))) (fun _ i _=>vs.length-(intOf i).toNat)
    case atStart=>exact ⟨0,by omega,rfl,by rw [joinB_succ vs 0 (by omega)];simpa [joinB] using HB2.out⟩
    case round=>
     clear HB1 HB2 HGW
     obtain ⟨k,hk,rfl,hB⟩:=hrel
     have HBK:=hid hB;clear hB
     have hGq:=HBK.out.2.1
     by_cases hlt:k+1 < vs.length
     ·obtain ⟨b2,o2,hbe,hb2,p2⟩:=HA.out (k+1) hlt
      obtain ⟨rfl,rfl⟩:b1=b2∧o1=o2:=by cases hbe;exact ⟨rfl,rfl⟩
      have p2:=Gr.cell hGq p2
      have hxl:=HB.out _ (List.getElem_mem hlt)
      have hjl:=joinB_take_len vs (k+1) HB.out
      have HJ:=hid (joinB_succ vs (k+1) hlt)
      rw [if_neg (by omega),←List.append_assoc] at HJ
      have k4:decide ((k:Int) < (vs.length:Int)-1)=true:=decide_eq_true (by omega)
      rw [show o1+(k+1)=o1+1+k from by omega] at p2
      clear hbe
      go_wp2_with (first
       | (go_at_call 102;first
         | ((with_reducible refine (writeString_any w _ bb (joinB (vs.take (k+1))) [32] HBK.out (by simp;omega)).mono ?_);rintro e w2 ⟨rfl,hB2,hO2⟩;have HB3:=hid hB2;clear hB2 hO2)
         | (refine (writeString_any w _ bb (joinB (vs.take (k+1))++[32]) _ HB3.out (by simp;omega)).mono ?_;rintro e w2 ⟨rfl,hB2,hO2⟩;have HB4:=hid hB2;clear hB2 hO2)))
      exact ⟨⟨k+1,by omega,by go_num,by rw [HJ.out];exact HB4.out⟩,by simp [intOf];omega⟩
     ·have k4:decide ((k:Int) < (vs.length:Int)-1)=false:=decide_eq_false (by omega)
      have HTK:=hid (show joinB (vs.take (k+1))=joinB vs from by rw [List.take_of_length_le (by omega)])
      rw [HTK.out] at HBK
      go_wp2_with (go_at_call 104;refine (string_any w _ bb _ HBK.out).mono ?_;rintro e w2 ⟨rfl,hG2⟩)
      go_ret
      exact ⟨rfl,hG2⟩
theorem within_any (n:Int) (w:World) (h0:0≤n) (h1:n≤1099511627776):Calls Tryz.prog 151 #[.int .i64 n] w fun e w'=>e=.returned (.int .i64 n)∧Gr w w':=by
 have e1:max n 0=n:=by omega
 have e2:min n 1099511627776=n:=by omega
 go_enter Tryz.func151,Tryz.ntmps151
 go_wp2_with fail
 go_ret
 exact ⟨rfl,Gr.refl _⟩
def ruleCs (r:RuleT):List Value:=[.int .i64 r.mx,.int .i64 r.sh,.int .i64 r.wh,.int .i64 r.er,.bool r.ns,.bool r.nc,.bool r.pv]
structure PutL (W:World) (gl:Nat) (L:List (List UInt8)) (x:World):Prop where
 gr:Gr W x
 lo:W.heap.size≤gl
 row:∃v,Bk x gl 64 #[v] (0,0)∧Own W x 9 1 v L.length (L.map str)
def KeepB (x x':World) (gl:Nat) (ty:TypeId):Prop:=∀k t cs fr,t≠ty→k≠gl→Bk x k t cs fr→Bk x' k t cs fr
theorem PutL.to {W:World} {gl:Nat} {L:List (List UInt8)} {x x':World} (h:PutL W gl L x) (g:Gr x x'):PutL W gl L x':=by
 obtain ⟨v,h1,h2⟩:=h.row
 exact ⟨Gr.tr h.gr g,h.lo,v,h1.gr g,h2.gr g⟩
theorem KeepB.gr {x x':World} {gl:Nat} {ty:TypeId} (g:Gr x x'):KeepB x x' gl ty:=fun _ _ _ _ _ _ h=>h.gr g
theorem KeepB.tr {x y z:World} {gl:Nat} {ty:TypeId} (h:KeepB x y gl ty) (k:KeepB y z gl ty):KeepB x z gl ty:=fun b t cs fr h1 h2 h3=>k b t cs fr h1 h2 (h b t cs fr h1 h2 h3)
theorem strsNe:(64:Nat)≠9:=by decide
theorem one_strL (a:List UInt8):∀u∈[str a],u.oneCell'=true:=by
 intro u hu
 simp only [List.mem_cons,List.not_mem_nil,or_false] at hu
 rcases hu with rfl;rfl
theorem putL_app {W x:World} {gl:Nat} {L:List (List UInt8)} (h:PutL W gl L x) {v:Value} (hb:Bk x gl 64 #[v] (0,0)) (hown:Own W x 9 1 v L.length (L.map str)) {v':Value} {x':World} {a:List UInt8} (hown':Own W x' 9 1 v' (L.length+1) (L.map str++[str a])) (happ:App v v' x x') :
  Bk x' gl 64 #[v] (0,0)∧PutL W gl (L++[a]) (x'.setCell ⟨gl,0,none⟩ v')∧KeepB x (x'.setCell ⟨gl,0,none⟩ v') gl 9:=by
 have hb':Bk x' gl 64 #[v] (0,0):=(happ.grown.block gl hb.lt (Ne.symm (own_ne_ty hown hb strsNe))).trans hb
 refine ⟨hb',⟨Gr.st (happ.gr h.gr hown) h.lo _,h.lo,_,hb'.set 0 _,?_⟩,?_⟩
 ·have hst:=own_kr hown' (by_st ((Gr.refl x').by (some gl)) 0 v') (.inr (own_ne_ty hown' hb' strsNe))
  rw [List.length_append,List.map_append]
  exact hst
 ·intro k t cs fr hne hk hbk
  have:Bk x' k t cs fr:=(happ.grown.block k hbk.lt (Ne.symm (own_ne_ty hown hbk hne))).trans hbk
  exact this.far (p:=⟨gl,0,none⟩) hk _
def numD (name:List UInt8) (n:Int):List (List UInt8):=if 0≤n then [name++61::Lib.itoa n] else []
theorem wp_region_mix0 {P:Program} {Q:Exit→Act→World→Prop} {w0:World} {id:Nat} {a:Act} {w:World} {l:List Oper} (idx:List Nat) (r:Option Nat) (n:Nat) (hw0:w0.grownBy w r) (hm:P.follows .mixedOrders=true) (hn:l.toArray.size=idx.length+n) (hB:mixB .any l.toArray idx=true)
  (hQ:∀(o:Option Tmp) (v:Value) c a w,Q (.panic c) (a.put o v) w→Q (.panic c) a w)
  (h:wpGq P l.toArray w0 r (fun a'=>wpG P .any l.toArray Q w0 r n (mixAt idx (Array.replicate l.toArray.size false)) a' w) (pickOps l idx) a):(Code.region id l.toArray true).wp P Q a w:=by
 simp only [mixB,Bool.and_eq_true] at hB
 refine wp_region_any hm ?_
 have hlq:idx.map (l.toArray[·]?)=(pickOps l idx).map some:=pick_some hB.2
 have h1:=wpG_lex (P:=P) (md:=.any) (ops:=l.toArray) (Q:=Q) (w0:=w0) (r:=r) hB.1 hQ (w:=w) hw0 n idx (pickOps l idx) _ a hlq hB.2 h
 rw [hn]
 rw [hn] at h1
 exact wpG_any _ _ _ _ (wpG_mono (Gr.dr (Gr.refl w)) h1)
set_option maxHeartbeats 8000000 in
set_option maxRecDepth 100000 in
theorem putT_any (name:List UInt8) (n:Int) (W x:World) (gl:Nat) (L:List (List UInt8)) (h:PutL W gl L x) (hl:L.length≤100) (hn:name.length≤1000) (hp:Pw W) (h1:-1≤n∧n≤1099511627776) :
  Calls Tryz.prog 213 #[str name,.int .i64 n,.pointer (some ⟨gl,0,none⟩)] x fun e x'=>e=.returned (.tuple #[])∧PutL W gl (L++numD name n) x'∧KeepB x x' gl 9:=by
 by_cases h0:0≤n
 case neg=>
  have k0:decide (0≤n)=false:=decide_eq_false h0
  have HF:=hid (show PutL W gl (L++numD name n) x∧KeepB x x gl 9 from ⟨by unfold numD;rw [if_neg h0,List.append_nil];exact h,KeepB.gr (Gr.refl x)⟩)
  clear h
  go_enter Tryz.func213,Tryz.ntmps213
  go_wp2_with fail
  go_end0
  exact ⟨rfl,HF.out⟩
 obtain ⟨v,hb,hown⟩:=h.row
 obtain ⟨A,c,rfl⟩:=hown.form
 have HB:=hid hb;have HO:=hid hown;have HH:=hid h
 have em:min n 1099511627776=n:=by omega
 have HFI:=hid (fun (y:World) (g:Gr W y)=>fmtInt_any n y (hp.gr g) (by omega) (by omega))
 have hit:=itoa_len_int h0 (by omega)
 have HND:=hid (show numD name n=[name++61::Lib.itoa n] from by unfold numD;rw [if_pos h0])
 generalize Lib.itoa n=its at *
 clear hb hown h hp
 go_enter Tryz.func213,Tryz.ntmps213
 go_upto_region 1 with fail
 refine wp_region_mix0 [1,2,3,4,5,6] none 4 (HH.out.gr.by none) (by kernel_rfl) rfl (by kernel_rfl) (fun o _ _ _ _ h=>by cases o <;> exact h) ?_
 simp only [pickOps,List.filterMap_cons,List.filterMap_nil,List.getElem?_cons_zero,List.getElem?_cons_succ]
 repeat (first | (refine wpGq_step (fun K hK=>?_);go_simp;refine hK _ ?_;clear hK K) | (refine wpGq_step (fun K hK=>?_);go_simp;simp only [↓IntWalk.iteOmega];go_simp;refine hK _ ?_;clear hK K) | (refine wpGq_step (fun K hK=>?_);go_simp;apply Exists.intro;refine ⟨fun _=>?_,hK _ ?_⟩;(go_at_call 119;exact HFI.out _ (gr_none (gx_by _ _ _)));clear hK K))
 refine wpGq_nil ?_
 have HTAIL:=hid (show ∀(wa:World),Gr x wa→∀v' x',Own W x' 9 1 v' (L.length+1) (L.map str++[str (name++61::its)])→App (.slice A L.length c) v' wa x'→
   Bk x' gl 64 #[.slice A L.length c] (0,0)∧Gr W x'∧∀we,Gr x' we→PutL W gl (L++[name++61::its]) (we.setCell ⟨gl,0,none⟩ v')∧KeepB x (we.setCell ⟨gl,0,none⟩ v') gl 9 from by
  intro wa hga v' x' hown' happ
  obtain ⟨hb',-,-⟩:=putL_app (HH.out.to hga) (HB.out.gr hga) (HO.out.gr hga) hown' happ
  refine ⟨hb',happ.gr (HH.out.to hga).gr (HO.out.gr hga),fun we hge=>?_⟩
  obtain ⟨-,hP,hK⟩:=putL_app (HH.out.to hga) (HB.out.gr hga) (HO.out.gr hga) (hown'.gr hge) ⟨by_tr happ.grown hge,happ.at_⟩
  exact ⟨hP,(KeepB.gr hga).tr hK⟩)
 refine wpG_two 0 7 (by kernel_rfl) rfl rfl rfl rfl (fun K hK wa hga=>?_) (fun K hK wa hga=>?_)
 ·have q:wa.cell? ⟨gl,0,none⟩=some (.slice A L.length c):=(HB.out.gr hga).cell 0
  go_simp
  refine hK _ _ ((Gr.tr HH.out.gr hga).by _) ?_
  clear hK K q
  refine wpG_one 7 (by kernel_rfl) rfl rfl (fun K hK wb hgb=>?_)
  go_simp
  refine hK _ _ ((Gr.al (Gr.tr (Gr.tr HH.out.gr hga) hgb) _).by _) ?_
  clear hK K
  have hs:=sl_lit wb 9 [str (name++61::its)] 1 (by decide)
  have hgab:=Gr.al (Gr.tr hga hgb) (Obj.cells [str (name++61::its)].toArray 9)
  generalize wb.heap.size=B at *
  refine wpG_one 8 (by kernel_rfl) rfl rfl (fun K hK wd hgd=>?_)
  refine op_appS (W0:=W) (n:=L.length) (m:=1) (xs:=L.map str) (news:=[str (name++61::its)]) (u:=.slice (some ⟨B,0,none⟩) 1 1) elemStr _ _ rfl rfl rfl (HH.out.to (Gr.tr hgab hgd)).gr.size (HO.out.gr (Gr.tr hgab hgd)) (Sl.gr hs hgd) rfl (one_strL _) (by omega) (by omega) ?_
  intro v' x' hown' happ
  obtain ⟨hb',hgx,hT⟩:=HTAIL.out wd (Gr.tr hgab hgd) v' x' hown' happ
  obtain ⟨A',c',rfl⟩:=hown'.form
  refine hK _ _ (hgx.by _) ?_
  clear hK K
  refine wpG_one 9 (by kernel_rfl) rfl rfl (fun K hK we hge=>?_)
  have q':we.cell? ⟨gl,0,none⟩=some (.slice A L.length c):=(hb'.gr hge).cell 0
  have f':=(hb'.gr hge).free 0 (.inr (Nat.le_refl _))
  obtain ⟨hP,hKB⟩:=hT we hge
  go_simp
  refine hK _ _ (hP.gr.by _) ?_
  clear hK K
  refine wpG_done (by kernel_rfl) (fun wz hgz=>?_)
  have HFIN:=hid (show PutL W gl (L++[name++61::its]) wz∧KeepB x wz gl 9 from ⟨hP.to hgz,hKB.tr (KeepB.gr hgz)⟩)
  clear hP hKB hT hb' hgx happ hown' q' f'
  go_wp2_with fail
  go_end0
  rw [HND.out]
  exact ⟨rfl,HFIN.out⟩
 ·go_simp
  refine hK _ _ ((Gr.al (Gr.tr HH.out.gr hga) _).by _) ?_
  clear hK K
  have hs:=sl_lit wa 9 [str (name++61::its)] 1 (by decide)
  have hgab:=Gr.al hga (Obj.cells [str (name++61::its)].toArray 9)
  generalize wa.heap.size=B at *
  refine wpG_one 0 (by kernel_rfl) rfl rfl (fun K hK wb hgb=>?_)
  have hgab:=Gr.tr hgab hgb
  have hs:=Sl.gr hs hgb
  have q:wb.cell? ⟨gl,0,none⟩=some (.slice A L.length c):=(HB.out.gr hgab).cell 0
  go_simp
  refine hK _ _ ((Gr.tr HH.out.gr hgab).by _) ?_
  clear hK K q
  refine wpG_one 8 (by kernel_rfl) rfl rfl (fun K hK wd hgd=>?_)
  refine op_appS (W0:=W) (n:=L.length) (m:=1) (xs:=L.map str) (news:=[str (name++61::its)]) (u:=.slice (some ⟨B,0,none⟩) 1 1) elemStr _ _ rfl rfl rfl (HH.out.to (Gr.tr hgab hgd)).gr.size (HO.out.gr (Gr.tr hgab hgd)) (Sl.gr hs hgd) rfl (one_strL _) (by omega) (by omega) ?_
  intro v' x' hown' happ
  obtain ⟨hb',hgx,hT⟩:=HTAIL.out wd (Gr.tr hgab hgd) v' x' hown' happ
  obtain ⟨A',c',rfl⟩:=hown'.form
  refine hK _ _ (hgx.by _) ?_
  clear hK K
  refine wpG_one 9 (by kernel_rfl) rfl rfl (fun K hK we hge=>?_)
  have q':we.cell? ⟨gl,0,none⟩=some (.slice A L.length c):=(hb'.gr hge).cell 0
  have f':=(hb'.gr hge).free 0 (.inr (Nat.le_refl _))
  obtain ⟨hP,hKB⟩:=hT we hge
  go_simp
  refine hK _ _ (hP.gr.by _) ?_
  clear hK K
  refine wpG_done (by kernel_rfl) (fun wz hgz=>?_)
  have HFIN:=hid (show PutL W gl (L++[name++61::its]) wz∧KeepB x wz gl 9 from ⟨hP.to hgz,hKB.tr (KeepB.gr hgz)⟩)
  clear hP hKB hT hb' hgx happ hown' q' f'
  go_wp2_with fail
  go_end0
  rw [HND.out]
  exact ⟨rfl,HFIN.out⟩
end Go.Proofs.YtflepnkpihfidaaGreatDoor
namespace Go.Proofs.YtflepnkpihfidaaGreatDoor
open Lib (hid)
open Go.RowKit
set_option maxHeartbeats 16000000 in
set_option maxRecDepth 100000 in
theorem ctlOf_any (m:MetaT) (vk:Value) (w:World) (hm:MetaOk m):Calls Tryz.prog 142 #[metaV m vk] w fun e w'=>e=.returned (.agg (ruleCs (ruleM m)).toArray)∧Gr w w':=by
 have HF:=hid (fun (x:World)=>within_any m.fr x hm.fr.1 hm.fr.2)
 have HW:=hid (fun (x:World)=>within_any m.wh x hm.wh.1 hm.wh.2)
 have HE:=hid (fun (x:World)=>within_any m.er x hm.er.1 hm.er.2)
 obtain ⟨⟨tg,tk⟩,mod,len,hv,fr,wh,er,keys,ten,kp⟩:=m
 unfold metaV metaCs ruleCs ruleM
 simp only at HF HW HE ⊢
 clear hm
 generalize hwv:(if wh=0 then (-1:Int) else wh)=wv
 generalize hev:(if er=0 then (-1:Int) else er)=ev
 have HWV:=hid hwv
 have HEV:=hid hev
 clear hwv hev
 obtain ⟨b1,b2,hG0⟩:=two_box w #[str tg,.bool tk,.int .i64 mod,.int .i64 len,.int .i64 hv,.int .i64 fr,.int .i64 wh,.int .i64 er,vk,str ten,.bool kp] #[.int .i64 0,.int .i64 0,.int .i64 0,.int .i64 0,.bool false,.bool false,.bool false] 66 147
 go_enter Tryz.func142,Tryz.ntmps142
 go_upto_region 1 with fail
 generalize (w.alloc (Obj.cells #[str tg,.bool tk,.int .i64 mod,.int .i64 len,.int .i64 hv,.int .i64 fr,.int .i64 wh,.int .i64 er,vk,str ten,.bool kp] 66)).alloc (Obj.cells #[.int .i64 0,.int .i64 0,.int .i64 0,.int .i64 0,.bool false,.bool false,.bool false] 147)=w0 at *
 generalize hgq:w.heap.size=g at *
 have HGQ:=hid hgq
 have HG0:=hid hG0
 have HB2:=hid (fun (x:World) (h:Gr w0 x)=>b2.gr h)
 have HL2:=hid b2.lt
 have p5:=gx_cell (r:=none) (b1.cell 5) (by simp)
 have p6:=gx_cell (r:=none) (b1.cell 6) (by simp)
 have p7:=gx_cell (r:=none) (b1.cell 7) (by simp)
 have p10:=gx_cell (r:=none) (b1.cell 10) (by simp)
 clear hG0 b1 b2 hgq
 refine wp_region_mix [0,1,2,3,4,5,6,7,8,9,10,11,12] none 2 (by kernel_rfl) rfl (by kernel_rfl) (fun o _ _ _ _ h=>by cases o <;> exact h) ?_
 simp only [pickOps,List.filterMap_cons,List.filterMap_nil,List.getElem?_cons_zero,List.getElem?_cons_succ]
 repeat (first | (refine wpGq_step (fun K hK=>?_);go_simp;refine hK _ ?_;clear hK K) | (refine wpGq_step (fun K hK=>?_);go_simp;simp only [↓IntWalk.iteOmega];go_simp;refine hK _ ?_;clear hK K) | (refine wpGq_step (fun K hK=>?_);go_simp;apply Exists.intro;refine ⟨fun _=>?_,hK _ ?_⟩;(go_at_call 151;first | exact HF.out _ | exact HW.out _ | exact HE.out _);clear hK K))
 refine wpGq_nil ?_
 clear p5 p6 p7 p10
 refine wpG_one 13 (by kernel_rfl) rfl rfl (fun K hK wa hga=>?_)
 go_simp
 refine hK _ _ ((Gr.al hga _).by _) ?_
 clear hK K
 have hna:=Bk.new wa 147 #[.int .i64 0,.int .i64 0,.int .i64 0,.int .i64 0,.bool false,.bool false,.bool false] (0,0)
 refine wpG_one 14 (by kernel_rfl) rfl rfl (fun K hK wb hgb=>?_)
 have hnb:=hna.gr hgb
 have hgwb:=Gr.tr (Gr.al hga (.cells #[.int .i64 0,.int .i64 0,.int .i64 0,.int .i64 0,.bool false,.bool false,.bool false] 147)) hgb
 have hgn:w0.heap.size≤wa.heap.size:=hga.size
 generalize wa.heap.size=gn at *
 have n0:=hnb.cell 0
 have k0:=hnb.free 0 (.inr (Nat.zero_le _))
 have n1:=hnb.cell 1
 have k1:=hnb.free 1 (.inr (Nat.zero_le _))
 have n2:=hnb.cell 2
 have k2:=hnb.free 2 (.inr (Nat.zero_le _))
 have n3:=hnb.cell 3
 have k3:=hnb.free 3 (.inr (Nat.zero_le _))
 have n4:=hnb.cell 4
 have k4:=hnb.free 4 (.inr (Nat.zero_le _))
 have n5:=hnb.cell 5
 have k5:=hnb.free 5 (.inr (Nat.zero_le _))
 have n6:=hnb.cell 6
 have k6:=hnb.free 6 (.inr (Nat.zero_le _))
 simp only [List.getElem?_toArray,List.getElem?_cons_zero,List.getElem?_cons_succ] at n0 n1 n2 n3 n4 n5 n6
 go_simp
 refine hK _ _ ((putCs_gr hgn [.int .i64 (-1),.int .i64 fr,.int .i64 wh,.int .i64 er,.bool (!kp),.bool false,.bool false] 0 _ hgwb).by _) ?_
 clear hK K
 refine wpG_done (by kernel_rfl) (fun wz hgz=>?_)
 have HNZ:=hid ((putCs_bk hnb rfl:Bk (putCs wb gn [.int .i64 (-1),.int .i64 fr,.int .i64 wh,.int .i64 er,.bool (!kp),.bool false,.bool false] 0) gn 147 [.int .i64 (-1),.int .i64 fr,.int .i64 wh,.int .i64 er,.bool (!kp),.bool false,.bool false].toArray (0,0)).gr hgz)
 have HWZ:=hid (Gr.tr (putCs_gr hgn [.int .i64 (-1),.int .i64 fr,.int .i64 wh,.int .i64 er,.bool (!kp),.bool false,.bool false] 0 _ hgwb) hgz)
 have HGN:=hid (show g+1 < gn from by have:=HL2.out;omega)
 clear n0 n1 n2 n3 n4 n5 n6 k0 k1 k2 k3 k4 k5 k6 hna hnb hgz hga hgb hgwb hgn
 have HBZ:=hid (HB2.out _ HWZ.out)
 have hgn1:g+1 < gn:=HGN.out
 have hneq:gn≠g+1:=by omega
 have n0:wz.cell? ⟨gn,0,none⟩=some (.int .i64 (-1)):=HNZ.out.cell 0
 have z0:=HBZ.out.cell 0
 have zf0:=HBZ.out.free 0 (.inr (Nat.zero_le _))
 have n1:wz.cell? ⟨gn,1,none⟩=some (.int .i64 fr):=HNZ.out.cell 1
 have z1:=HBZ.out.cell 1
 have zf1:=HBZ.out.free 1 (.inr (Nat.zero_le _))
 have n2:wz.cell? ⟨gn,2,none⟩=some (.int .i64 wh):=HNZ.out.cell 2
 have z2:=HBZ.out.cell 2
 have zf2:=HBZ.out.free 2 (.inr (Nat.zero_le _))
 have n3:wz.cell? ⟨gn,3,none⟩=some (.int .i64 er):=HNZ.out.cell 3
 have z3:=HBZ.out.cell 3
 have zf3:=HBZ.out.free 3 (.inr (Nat.zero_le _))
 have n4:wz.cell? ⟨gn,4,none⟩=some (.bool (!kp)):=HNZ.out.cell 4
 have z4:=HBZ.out.cell 4
 have zf4:=HBZ.out.free 4 (.inr (Nat.zero_le _))
 have n5:wz.cell? ⟨gn,5,none⟩=some (.bool false):=HNZ.out.cell 5
 have z5:=HBZ.out.cell 5
 have zf5:=HBZ.out.free 5 (.inr (Nat.zero_le _))
 have n6:wz.cell? ⟨gn,6,none⟩=some (.bool false):=HNZ.out.cell 6
 have z6:=HBZ.out.cell 6
 have zf6:=HBZ.out.free 6 (.inr (Nat.zero_le _))
 have kf2:=HNZ.out.free 2 (.inr (Nat.zero_le _))
 have kf3:=HNZ.out.free 3 (.inr (Nat.zero_le _))
 simp only [List.getElem?_toArray,List.getElem?_cons_zero,List.getElem?_cons_succ] at z0 z1 z2 z3 z4 z5 z6
 have hgle:w.heap.size≤g+1:=by have:=HGQ.out;omega
 have hgle2:w.heap.size≤gn:=by have:=HGQ.out;omega
 have HGA:=hid (Gr.tr HG0.out HWZ.out)
 have HGL:=hid hgle
 have HGM:=hid hgle2
 clear hgle hgle2 HG0 HF HW HE HWZ HB2 HL2 HGN HGQ
 by_cases h1:wh=0
 ·subst h1
  have e:=HWV.out
  rw [if_pos rfl] at e
  subst e
  clear HWV
  by_cases h2:er=0
  ·subst h2
   have e:=HEV.out
   rw [if_pos rfl] at e
   subst e
   clear HEV
   go_upto_region 6 with fail
   refine at_world (P:=Code.wp _ _ _ _) (w0:=((wz).setCell ⟨gn,2,none⟩ (.int .i64 (-1))).setCell ⟨gn,3,none⟩ (.int .i64 (-1))) ?_
   intro w6 hw6
   have hne:g+1≠gn:=by omega
   have HN6:=hid (show Bk w6 gn 147 [.int .i64 (-1),.int .i64 fr,.int .i64 (-1),.int .i64 (-1),.bool (!kp),.bool false,.bool false].toArray (0,0) from by rw [hw6];exact ((HNZ.out).set 2 (.int .i64 (-1))).set 3 (.int .i64 (-1)))
   have HZ6:=hid (show Bk w6 (g+1) 147 #[.int .i64 0,.int .i64 0,.int .i64 0,.int .i64 0,.bool false,.bool false,.bool false] (0,0) from by rw [hw6];exact ((HBZ.out).far (p:=⟨gn,2,none⟩) hne (.int .i64 (-1))).far (p:=⟨gn,3,none⟩) hne (.int .i64 (-1)))
   have HG6:=hid (show Gr w w6 from by rw [hw6];exact Gr.st (p:=⟨gn,3,none⟩) (Gr.st (p:=⟨gn,2,none⟩) (HGA.out) HGM.out (.int .i64 (-1))) HGM.out (.int .i64 (-1)))
   clear hw6 n0 n1 n2 n3 n4 n5 n6 z0 z1 z2 z3 z4 z5 z6 zf0 zf1 zf2 zf3 zf4 zf5 zf6 kf2 kf3
   have n0:w6.cell? ⟨gn,0,none⟩=some (.int .i64 (-1)):=HN6.out.cell 0
   have z0:w6.cell? ⟨g+1,0,none⟩=some (.int .i64 0):=HZ6.out.cell 0
   have zf0:=HZ6.out.free 0 (.inr (Nat.zero_le _))
   have n1:w6.cell? ⟨gn,1,none⟩=some (.int .i64 fr):=HN6.out.cell 1
   have z1:w6.cell? ⟨g+1,1,none⟩=some (.int .i64 0):=HZ6.out.cell 1
   have zf1:=HZ6.out.free 1 (.inr (Nat.zero_le _))
   have n2:w6.cell? ⟨gn,2,none⟩=some (.int .i64 (-1)):=HN6.out.cell 2
   have z2:w6.cell? ⟨g+1,2,none⟩=some (.int .i64 0):=HZ6.out.cell 2
   have zf2:=HZ6.out.free 2 (.inr (Nat.zero_le _))
   have n3:w6.cell? ⟨gn,3,none⟩=some (.int .i64 (-1)):=HN6.out.cell 3
   have z3:w6.cell? ⟨g+1,3,none⟩=some (.int .i64 0):=HZ6.out.cell 3
   have zf3:=HZ6.out.free 3 (.inr (Nat.zero_le _))
   have n4:w6.cell? ⟨gn,4,none⟩=some (.bool (!kp)):=HN6.out.cell 4
   have z4:w6.cell? ⟨g+1,4,none⟩=some (.bool false):=HZ6.out.cell 4
   have zf4:=HZ6.out.free 4 (.inr (Nat.zero_le _))
   have n5:w6.cell? ⟨gn,5,none⟩=some (.bool false):=HN6.out.cell 5
   have z5:w6.cell? ⟨g+1,5,none⟩=some (.bool false):=HZ6.out.cell 5
   have zf5:=HZ6.out.free 5 (.inr (Nat.zero_le _))
   have n6:w6.cell? ⟨gn,6,none⟩=some (.bool false):=HN6.out.cell 6
   have z6:w6.cell? ⟨g+1,6,none⟩=some (.bool false):=HZ6.out.cell 6
   have zf6:=HZ6.out.free 6 (.inr (Nat.zero_le _))
   go_wp2_with fail
   refine at_world (P:=bodyPost _ _ _ _ _) (w0:=putCs w6 (g+1) [.int .i64 (-1),.int .i64 fr,.int .i64 (-1),.int .i64 (-1),.bool (!kp),.bool false,.bool false] 0) ?_
   intro wy hwy
   have hy:Bk wy (g+1) 147 [.int .i64 (-1),.int .i64 fr,.int .i64 (-1),.int .i64 (-1),.bool (!kp),.bool false,.bool false].toArray (0,0):=by rw [hwy];exact putCs_bk HZ6.out rfl
   have hgy:Gr w wy:=by rw [hwy];exact putCs_gr HGL.out [.int .i64 (-1),.int .i64 fr,.int .i64 (-1),.int .i64 (-1),.bool (!kp),.bool false,.bool false] 0 w6 HG6.out
   clear hwy
   have u0:wy.cell? ⟨g+1,0,none⟩=some (.int .i64 (-1)):=hy.cell 0
   have u1:wy.cell? ⟨g+1,1,none⟩=some (.int .i64 fr):=hy.cell 1
   have u2:wy.cell? ⟨g+1,2,none⟩=some (.int .i64 (-1)):=hy.cell 2
   have u3:wy.cell? ⟨g+1,3,none⟩=some (.int .i64 (-1)):=hy.cell 3
   have u4:wy.cell? ⟨g+1,4,none⟩=some (.bool (!kp)):=hy.cell 4
   have u5:wy.cell? ⟨g+1,5,none⟩=some (.bool false):=hy.cell 5
   have u6:wy.cell? ⟨g+1,6,none⟩=some (.bool false):=hy.cell 6
   refine bodyPost_ret (v:=.agg #[.int .i64 (-1),.int .i64 fr,.int .i64 (-1),.int .i64 (-1),.bool (!kp),.bool false,.bool false]) (by simp [results,Tryz.results142,go_sem,u0,u1,u2,u3,u4,u5,u6]) rfl ⟨rfl,hgy⟩
  ·have k2:(er==0)=false:=by simp [h2]
   have e:=HEV.out
   rw [if_neg h2] at e
   subst e
   clear h2 HEV
   go_upto_region 6 with fail
   refine at_world (P:=Code.wp _ _ _ _) (w0:=(wz).setCell ⟨gn,2,none⟩ (.int .i64 (-1))) ?_
   intro w6 hw6
   have hne:g+1≠gn:=by omega
   have HN6:=hid (show Bk w6 gn 147 [.int .i64 (-1),.int .i64 fr,.int .i64 (-1),.int .i64 er,.bool (!kp),.bool false,.bool false].toArray (0,0) from by rw [hw6];exact (HNZ.out).set 2 (.int .i64 (-1)))
   have HZ6:=hid (show Bk w6 (g+1) 147 #[.int .i64 0,.int .i64 0,.int .i64 0,.int .i64 0,.bool false,.bool false,.bool false] (0,0) from by rw [hw6];exact (HBZ.out).far (p:=⟨gn,2,none⟩) hne (.int .i64 (-1)))
   have HG6:=hid (show Gr w w6 from by rw [hw6];exact Gr.st (p:=⟨gn,2,none⟩) (HGA.out) HGM.out (.int .i64 (-1)))
   clear hw6 n0 n1 n2 n3 n4 n5 n6 z0 z1 z2 z3 z4 z5 z6 zf0 zf1 zf2 zf3 zf4 zf5 zf6 kf2 kf3
   have n0:w6.cell? ⟨gn,0,none⟩=some (.int .i64 (-1)):=HN6.out.cell 0
   have z0:w6.cell? ⟨g+1,0,none⟩=some (.int .i64 0):=HZ6.out.cell 0
   have zf0:=HZ6.out.free 0 (.inr (Nat.zero_le _))
   have n1:w6.cell? ⟨gn,1,none⟩=some (.int .i64 fr):=HN6.out.cell 1
   have z1:w6.cell? ⟨g+1,1,none⟩=some (.int .i64 0):=HZ6.out.cell 1
   have zf1:=HZ6.out.free 1 (.inr (Nat.zero_le _))
   have n2:w6.cell? ⟨gn,2,none⟩=some (.int .i64 (-1)):=HN6.out.cell 2
   have z2:w6.cell? ⟨g+1,2,none⟩=some (.int .i64 0):=HZ6.out.cell 2
   have zf2:=HZ6.out.free 2 (.inr (Nat.zero_le _))
   have n3:w6.cell? ⟨gn,3,none⟩=some (.int .i64 er):=HN6.out.cell 3
   have z3:w6.cell? ⟨g+1,3,none⟩=some (.int .i64 0):=HZ6.out.cell 3
   have zf3:=HZ6.out.free 3 (.inr (Nat.zero_le _))
   have n4:w6.cell? ⟨gn,4,none⟩=some (.bool (!kp)):=HN6.out.cell 4
   have z4:w6.cell? ⟨g+1,4,none⟩=some (.bool false):=HZ6.out.cell 4
   have zf4:=HZ6.out.free 4 (.inr (Nat.zero_le _))
   have n5:w6.cell? ⟨gn,5,none⟩=some (.bool false):=HN6.out.cell 5
   have z5:w6.cell? ⟨g+1,5,none⟩=some (.bool false):=HZ6.out.cell 5
   have zf5:=HZ6.out.free 5 (.inr (Nat.zero_le _))
   have n6:w6.cell? ⟨gn,6,none⟩=some (.bool false):=HN6.out.cell 6
   have z6:w6.cell? ⟨g+1,6,none⟩=some (.bool false):=HZ6.out.cell 6
   have zf6:=HZ6.out.free 6 (.inr (Nat.zero_le _))
   go_wp2_with fail
   refine at_world (P:=bodyPost _ _ _ _ _) (w0:=putCs w6 (g+1) [.int .i64 (-1),.int .i64 fr,.int .i64 (-1),.int .i64 er,.bool (!kp),.bool false,.bool false] 0) ?_
   intro wy hwy
   have hy:Bk wy (g+1) 147 [.int .i64 (-1),.int .i64 fr,.int .i64 (-1),.int .i64 er,.bool (!kp),.bool false,.bool false].toArray (0,0):=by rw [hwy];exact putCs_bk HZ6.out rfl
   have hgy:Gr w wy:=by rw [hwy];exact putCs_gr HGL.out [.int .i64 (-1),.int .i64 fr,.int .i64 (-1),.int .i64 er,.bool (!kp),.bool false,.bool false] 0 w6 HG6.out
   clear hwy
   have u0:wy.cell? ⟨g+1,0,none⟩=some (.int .i64 (-1)):=hy.cell 0
   have u1:wy.cell? ⟨g+1,1,none⟩=some (.int .i64 fr):=hy.cell 1
   have u2:wy.cell? ⟨g+1,2,none⟩=some (.int .i64 (-1)):=hy.cell 2
   have u3:wy.cell? ⟨g+1,3,none⟩=some (.int .i64 er):=hy.cell 3
   have u4:wy.cell? ⟨g+1,4,none⟩=some (.bool (!kp)):=hy.cell 4
   have u5:wy.cell? ⟨g+1,5,none⟩=some (.bool false):=hy.cell 5
   have u6:wy.cell? ⟨g+1,6,none⟩=some (.bool false):=hy.cell 6
   refine bodyPost_ret (v:=.agg #[.int .i64 (-1),.int .i64 fr,.int .i64 (-1),.int .i64 er,.bool (!kp),.bool false,.bool false]) (by simp [results,Tryz.results142,go_sem,u0,u1,u2,u3,u4,u5,u6]) rfl ⟨rfl,hgy⟩
 ·have k1:(wh==0)=false:=by simp [h1]
  have e:=HWV.out
  rw [if_neg h1] at e
  subst e
  clear h1 HWV
  by_cases h2:er=0
  ·subst h2
   have e:=HEV.out
   rw [if_pos rfl] at e
   subst e
   clear HEV
   go_upto_region 6 with fail
   refine at_world (P:=Code.wp _ _ _ _) (w0:=(wz).setCell ⟨gn,3,none⟩ (.int .i64 (-1))) ?_
   intro w6 hw6
   have hne:g+1≠gn:=by omega
   have HN6:=hid (show Bk w6 gn 147 [.int .i64 (-1),.int .i64 fr,.int .i64 wh,.int .i64 (-1),.bool (!kp),.bool false,.bool false].toArray (0,0) from by rw [hw6];exact (HNZ.out).set 3 (.int .i64 (-1)))
   have HZ6:=hid (show Bk w6 (g+1) 147 #[.int .i64 0,.int .i64 0,.int .i64 0,.int .i64 0,.bool false,.bool false,.bool false] (0,0) from by rw [hw6];exact (HBZ.out).far (p:=⟨gn,3,none⟩) hne (.int .i64 (-1)))
   have HG6:=hid (show Gr w w6 from by rw [hw6];exact Gr.st (p:=⟨gn,3,none⟩) (HGA.out) HGM.out (.int .i64 (-1)))
   clear hw6 n0 n1 n2 n3 n4 n5 n6 z0 z1 z2 z3 z4 z5 z6 zf0 zf1 zf2 zf3 zf4 zf5 zf6 kf2 kf3
   have n0:w6.cell? ⟨gn,0,none⟩=some (.int .i64 (-1)):=HN6.out.cell 0
   have z0:w6.cell? ⟨g+1,0,none⟩=some (.int .i64 0):=HZ6.out.cell 0
   have zf0:=HZ6.out.free 0 (.inr (Nat.zero_le _))
   have n1:w6.cell? ⟨gn,1,none⟩=some (.int .i64 fr):=HN6.out.cell 1
   have z1:w6.cell? ⟨g+1,1,none⟩=some (.int .i64 0):=HZ6.out.cell 1
   have zf1:=HZ6.out.free 1 (.inr (Nat.zero_le _))
   have n2:w6.cell? ⟨gn,2,none⟩=some (.int .i64 wh):=HN6.out.cell 2
   have z2:w6.cell? ⟨g+1,2,none⟩=some (.int .i64 0):=HZ6.out.cell 2
   have zf2:=HZ6.out.free 2 (.inr (Nat.zero_le _))
   have n3:w6.cell? ⟨gn,3,none⟩=some (.int .i64 (-1)):=HN6.out.cell 3
   have z3:w6.cell? ⟨g+1,3,none⟩=some (.int .i64 0):=HZ6.out.cell 3
   have zf3:=HZ6.out.free 3 (.inr (Nat.zero_le _))
   have n4:w6.cell? ⟨gn,4,none⟩=some (.bool (!kp)):=HN6.out.cell 4
   have z4:w6.cell? ⟨g+1,4,none⟩=some (.bool false):=HZ6.out.cell 4
   have zf4:=HZ6.out.free 4 (.inr (Nat.zero_le _))
   have n5:w6.cell? ⟨gn,5,none⟩=some (.bool false):=HN6.out.cell 5
   have z5:w6.cell? ⟨g+1,5,none⟩=some (.bool false):=HZ6.out.cell 5
   have zf5:=HZ6.out.free 5 (.inr (Nat.zero_le _))
   have n6:w6.cell? ⟨gn,6,none⟩=some (.bool false):=HN6.out.cell 6
   have z6:w6.cell? ⟨g+1,6,none⟩=some (.bool false):=HZ6.out.cell 6
   have zf6:=HZ6.out.free 6 (.inr (Nat.zero_le _))
   go_wp2_with fail
   refine at_world (P:=bodyPost _ _ _ _ _) (w0:=putCs w6 (g+1) [.int .i64 (-1),.int .i64 fr,.int .i64 wh,.int .i64 (-1),.bool (!kp),.bool false,.bool false] 0) ?_
   intro wy hwy
   have hy:Bk wy (g+1) 147 [.int .i64 (-1),.int .i64 fr,.int .i64 wh,.int .i64 (-1),.bool (!kp),.bool false,.bool false].toArray (0,0):=by rw [hwy];exact putCs_bk HZ6.out rfl
   have hgy:Gr w wy:=by rw [hwy];exact putCs_gr HGL.out [.int .i64 (-1),.int .i64 fr,.int .i64 wh,.int .i64 (-1),.bool (!kp),.bool false,.bool false] 0 w6 HG6.out
   clear hwy
   have u0:wy.cell? ⟨g+1,0,none⟩=some (.int .i64 (-1)):=hy.cell 0
   have u1:wy.cell? ⟨g+1,1,none⟩=some (.int .i64 fr):=hy.cell 1
   have u2:wy.cell? ⟨g+1,2,none⟩=some (.int .i64 wh):=hy.cell 2
   have u3:wy.cell? ⟨g+1,3,none⟩=some (.int .i64 (-1)):=hy.cell 3
   have u4:wy.cell? ⟨g+1,4,none⟩=some (.bool (!kp)):=hy.cell 4
   have u5:wy.cell? ⟨g+1,5,none⟩=some (.bool false):=hy.cell 5
   have u6:wy.cell? ⟨g+1,6,none⟩=some (.bool false):=hy.cell 6
   refine bodyPost_ret (v:=.agg #[.int .i64 (-1),.int .i64 fr,.int .i64 wh,.int .i64 (-1),.bool (!kp),.bool false,.bool false]) (by simp [results,Tryz.results142,go_sem,u0,u1,u2,u3,u4,u5,u6]) rfl ⟨rfl,hgy⟩
  ·have k2:(er==0)=false:=by simp [h2]
   have e:=HEV.out
   rw [if_neg h2] at e
   subst e
   clear h2 HEV
   go_upto_region 6 with fail
   refine at_world (P:=Code.wp _ _ _ _) (w0:=wz) ?_
   intro w6 hw6
   have hne:g+1≠gn:=by omega
   have HN6:=hid (show Bk w6 gn 147 [.int .i64 (-1),.int .i64 fr,.int .i64 wh,.int .i64 er,.bool (!kp),.bool false,.bool false].toArray (0,0) from by rw [hw6];exact HNZ.out)
   have HZ6:=hid (show Bk w6 (g+1) 147 #[.int .i64 0,.int .i64 0,.int .i64 0,.int .i64 0,.bool false,.bool false,.bool false] (0,0) from by rw [hw6];exact HBZ.out)
   have HG6:=hid (show Gr w w6 from by rw [hw6];exact HGA.out)
   clear hw6 n0 n1 n2 n3 n4 n5 n6 z0 z1 z2 z3 z4 z5 z6 zf0 zf1 zf2 zf3 zf4 zf5 zf6 kf2 kf3
   have n0:w6.cell? ⟨gn,0,none⟩=some (.int .i64 (-1)):=HN6.out.cell 0
   have z0:w6.cell? ⟨g+1,0,none⟩=some (.int .i64 0):=HZ6.out.cell 0
   have zf0:=HZ6.out.free 0 (.inr (Nat.zero_le _))
   have n1:w6.cell? ⟨gn,1,none⟩=some (.int .i64 fr):=HN6.out.cell 1
   have z1:w6.cell? ⟨g+1,1,none⟩=some (.int .i64 0):=HZ6.out.cell 1
   have zf1:=HZ6.out.free 1 (.inr (Nat.zero_le _))
   have n2:w6.cell? ⟨gn,2,none⟩=some (.int .i64 wh):=HN6.out.cell 2
   have z2:w6.cell? ⟨g+1,2,none⟩=some (.int .i64 0):=HZ6.out.cell 2
   have zf2:=HZ6.out.free 2 (.inr (Nat.zero_le _))
   have n3:w6.cell? ⟨gn,3,none⟩=some (.int .i64 er):=HN6.out.cell 3
   have z3:w6.cell? ⟨g+1,3,none⟩=some (.int .i64 0):=HZ6.out.cell 3
   have zf3:=HZ6.out.free 3 (.inr (Nat.zero_le _))
   have n4:w6.cell? ⟨gn,4,none⟩=some (.bool (!kp)):=HN6.out.cell 4
   have z4:w6.cell? ⟨g+1,4,none⟩=some (.bool false):=HZ6.out.cell 4
   have zf4:=HZ6.out.free 4 (.inr (Nat.zero_le _))
   have n5:w6.cell? ⟨gn,5,none⟩=some (.bool false):=HN6.out.cell 5
   have z5:w6.cell? ⟨g+1,5,none⟩=some (.bool false):=HZ6.out.cell 5
   have zf5:=HZ6.out.free 5 (.inr (Nat.zero_le _))
   have n6:w6.cell? ⟨gn,6,none⟩=some (.bool false):=HN6.out.cell 6
   have z6:w6.cell? ⟨g+1,6,none⟩=some (.bool false):=HZ6.out.cell 6
   have zf6:=HZ6.out.free 6 (.inr (Nat.zero_le _))
   go_wp2_with fail
   refine at_world (P:=bodyPost _ _ _ _ _) (w0:=putCs w6 (g+1) [.int .i64 (-1),.int .i64 fr,.int .i64 wh,.int .i64 er,.bool (!kp),.bool false,.bool false] 0) ?_
   intro wy hwy
   have hy:Bk wy (g+1) 147 [.int .i64 (-1),.int .i64 fr,.int .i64 wh,.int .i64 er,.bool (!kp),.bool false,.bool false].toArray (0,0):=by rw [hwy];exact putCs_bk HZ6.out rfl
   have hgy:Gr w wy:=by rw [hwy];exact putCs_gr HGL.out [.int .i64 (-1),.int .i64 fr,.int .i64 wh,.int .i64 er,.bool (!kp),.bool false,.bool false] 0 w6 HG6.out
   clear hwy
   have u0:wy.cell? ⟨g+1,0,none⟩=some (.int .i64 (-1)):=hy.cell 0
   have u1:wy.cell? ⟨g+1,1,none⟩=some (.int .i64 fr):=hy.cell 1
   have u2:wy.cell? ⟨g+1,2,none⟩=some (.int .i64 wh):=hy.cell 2
   have u3:wy.cell? ⟨g+1,3,none⟩=some (.int .i64 er):=hy.cell 3
   have u4:wy.cell? ⟨g+1,4,none⟩=some (.bool (!kp)):=hy.cell 4
   have u5:wy.cell? ⟨g+1,5,none⟩=some (.bool false):=hy.cell 5
   have u6:wy.cell? ⟨g+1,6,none⟩=some (.bool false):=hy.cell 6
   refine bodyPost_ret (v:=.agg #[.int .i64 (-1),.int .i64 fr,.int .i64 wh,.int .i64 er,.bool (!kp),.bool false,.bool false]) (by simp [results,Tryz.results142,go_sem,u0,u1,u2,u3,u4,u5,u6]) rfl ⟨rfl,hgy⟩
end Go.Proofs.YtflepnkpihfidaaGreatDoor
namespace Go.Proofs.YtflepnkpihfidaaGreatDoor
open Lib (hid)
open Go.RowKit
theorem ruleNe:(147:Nat)≠9:=by decide
theorem ctl_eq (m:MetaT) (h:MetaOk m):((((if m.keep then [] else [noStN])++numD maxAN (-1))++numD shAN m.fr)++numD whAN (if m.wh=0 then -1 else m.wh))++numD erAN (if m.er=0 then -1 else m.er)=ctlP m:=by
 have h1:=h.fr;have h2:=h.wh;have h3:=h.er
 unfold ctlP numD
 rw [if_neg (show ¬(0:Int)≤-1 by decide),if_pos h1.1,sMax_eq]
 by_cases hw:m.wh=0
 all_goals
  by_cases he:m.er=0
  all_goals
   simp only [hw,he,if_true,if_false,List.append_assoc,List.nil_append,List.append_nil,show ¬(0:Int)≤-1 by decide,sWh_eq,sEr_eq,h2.1,h3.1]
theorem numD_le (n:List UInt8) (x:Int):(numD n x).length≤1:=by unfold numD;split <;> simp
theorem numD_len {n:List UInt8} {x:Int} (h1:x≤1099511627776):∀d∈numD n x,d.length≤n.length+20:=fun d hd=>by
 unfold numD at hd
 split at hd
 ·simp only [List.mem_singleton] at hd
  subst hd
  have:=itoa_len_int (x:=x) (by omega) (by omega)
  simp;omega
 ·cases hd
set_option maxHeartbeats 16000000 in
set_option maxRecDepth 100000 in
theorem ctlText_any (m:MetaT) (w:World) (hm:MetaOk m) (hp:Pw w):Calls Tryz.prog 141 #[.agg (ruleCs (ruleM m)).toArray] w fun e w'=>e=.returned (str (joinV (ctlP m)))∧Gr w w':=by
 have HEQ:=hid (ctl_eq m hm)
 have hf:=hm.fr;have hw:=hm.wh;have he:=hm.er
 obtain ⟨⟨tg,tk⟩,mod,len,hv,fr,wh,er,keys,ten,kp⟩:=m
 unfold ruleCs ruleM
 simp only at hf hw he HEQ ⊢
 generalize hwv:(if wh=0 then (-1:Int) else wh)=wv at *
 generalize hev:(if er=0 then (-1:Int) else er)=ev at *
 have hwv2:-1≤wv∧wv≤1099511627776:=by split at hwv <;> omega
 have hev2:-1≤ev∧ev≤1099511627776:=by split at hev <;> omega
 clear hwv hev hw he hm
 have hbx:=Bk.new w 147 #[.int .i64 (-1),.int .i64 fr,.int .i64 wv,.int .i64 ev,.bool (!kp),.bool false,.bool false] (0,0)
 have hG0:=Gr.al (Gr.refl w) (Obj.cells #[.int .i64 (-1),.int .i64 fr,.int .i64 wv,.int .i64 ev,.bool (!kp),.bool false,.bool false] 147)
 have HP:=hid hp
 clear hp
 go_enter Tryz.func141,Tryz.ntmps141
 go_upto_region 1 with fail
 generalize w.alloc (Obj.cells #[.int .i64 (-1),.int .i64 fr,.int .i64 wv,.int .i64 ev,.bool (!kp),.bool false,.bool false] 147)=w0 at *
 generalize hgq:w.heap.size=g1 at *
 go_upto_region 2 with fail
 have hgl:=Bk.new w0 64 #[.slice none 0 0] (0,0)
 have hga:=Gr.al (Gr.refl w0) (Obj.cells #[.slice none 0 0] 64)
 have HP0:=hid (show PutL w w0.heap.size [] (w0.alloc (Obj.cells #[.slice none 0 0] 64)) from ⟨Gr.tr hG0 hga,by have:=hG0.size;omega,_,hgl,Own.nil _ _ _ _⟩)
 have HB0:=hid (hbx.gr hga)
 have HNE:=hid (show g1≠w0.heap.size from by have:=hbx.lt;omega)
 clear hgl hga hbx hG0 hgq
 generalize w0.alloc (Obj.cells #[.slice none 0 0] 64)=wc at *
 generalize w0.heap.size=gl at *
 have q4:wc.cell? ⟨g1,4,none⟩=some (.bool (!kp)):=HB0.out.cell 4
 go_upto_if 6 with fail
 clear q4
 go_cut [] (fun wx=>PutL w gl (if kp then [] else [noStN]) wx∧Bk wx g1 147 #[.int .i64 (-1),.int .i64 fr,.int .i64 wv,.int .i64 ev,.bool (!kp),.bool false,.bool false] (0,0))
 case first=>
  have q4:wc.cell? ⟨g1,4,none⟩=some (.bool (!kp)):=HB0.out.cell 4
  cases kp with
  | true=>
    go_wp2_with fail
    go_meet
    exact ⟨HP0.out,HB0.out⟩
  | false=>
    obtain ⟨v,hb,hown⟩:=HP0.out.row
    obtain ⟨A,c,rfl⟩:=hown.form
    have q0:wc.cell? ⟨gl,0,none⟩=some (.slice A 0 c):=hb.cell 0
    have HB:=hid hb;have HO:=hid hown
    clear hb hown
    go_wp2_with (at_builtin;refine wpList_app1x (W0:=w) (W:=wc) (n:=0) (xs:=[]) (v:=.slice A 0 c) (news:=[str noStN]) elemStr rfl _ _ rfl rfl rfl HP0.out.gr.size HO.out rfl (one_strL _) (by omega) (by omega) ?_;intro v' x' hown' happ;obtain ⟨hb',hP,hK⟩:=putL_app HP0.out HB.out HO.out hown' happ;obtain ⟨A',c',rfl⟩:=hown'.form;have q':x'.cell? ⟨gl,0,none⟩=some (.slice A 0 c):=hb'.cell 0;have f':=hb'.free 0 (.inr (Nat.le_refl _));have HP1:=hid hP;have HK:=hid hK;clear hP hK hb' happ hown')
    go_meet
    exact ⟨HP1.out,HK.out _ _ _ _ ruleNe HNE.out HB0.out⟩
 case rest=>
 obtain ⟨hP,hB⟩:=hcut
 have HP1:=hid hP
 have HB1:=hid hB
 clear hP hB HP0 HB0
 have HL1:=hid (show (if kp then ([]:List (List UInt8)) else [noStN]).length≤1∧∀d∈(if kp then ([]:List (List UInt8)) else [noStN]),d.length≤100 from by cases kp <;> simp [noStN])
 generalize hL:(if kp then ([]:List (List UInt8)) else [noStN])=L1 at *
 clear hL
 have q5:wc.cell? ⟨g1,5,none⟩=some (.bool false):=HB1.out.cell 5
 have q6:wc.cell? ⟨g1,6,none⟩=some (.bool false):=HB1.out.cell 6
 have q0:wc.cell? ⟨g1,0,none⟩=some (.int .i64 (-1)):=HB1.out.cell 0
 go_upto_region 10 with (go_at_call 213;refine (putT_any maxAN (-1) w _ gl _ HP1.out (by have:=HL1.out.1;omega) (by decide) HP.out (by decide)).mono ?_;rintro e w2 ⟨rfl,hP2,hK2⟩;have HP2:=hid hP2;have HB2:=hid (hK2 _ _ _ _ ruleNe HNE.out HB1.out);clear hP2 hK2)
 clear q0 q5 q6
 have q1:w2.cell? ⟨g1,1,none⟩=some (.int .i64 fr):=HB2.out.cell 1
 go_upto_region 11 with (go_at_call 213;refine (putT_any shAN fr w _ gl _ HP2.out (by have:=HL1.out.1;have:=numD_le maxAN (-1);simp only [List.length_append];omega) (by decide) HP.out (by omega)).mono ?_;rintro e w3 ⟨rfl,hP3,hK3⟩;have HP3:=hid hP3;have HB3:=hid (hK3 _ _ _ _ ruleNe HNE.out HB2.out);clear hP3 hK3)
 clear q1
 have q2:w3.cell? ⟨g1,2,none⟩=some (.int .i64 wv):=HB3.out.cell 2
 go_upto_region 12 with (go_at_call 213;refine (putT_any whAN wv w _ gl _ HP3.out (by have:=HL1.out.1;have:=numD_le maxAN (-1);have:=numD_le shAN fr;simp only [List.length_append];omega) (by decide) HP.out hwv2).mono ?_;rintro e w4 ⟨rfl,hP4,hK4⟩;have HP4:=hid hP4;have HB4:=hid (hK4 _ _ _ _ ruleNe HNE.out HB3.out);clear hP4 hK4)
 clear q2
 have q3:w4.cell? ⟨g1,3,none⟩=some (.int .i64 ev):=HB4.out.cell 3
 go_upto_region 13 with (go_at_call 213;refine (putT_any erAN ev w _ gl _ HP4.out (by have:=HL1.out.1;have:=numD_le maxAN (-1);have:=numD_le shAN fr;have:=numD_le whAN wv;simp only [List.length_append];omega) (by decide) HP.out hev2).mono ?_;rintro e w5 ⟨rfl,hP5,hK5⟩;have HP5:=hid hP5;clear hP5 hK5)
 clear q3
 have HLN:=hid (show ((((L1++numD maxAN (-1))++numD shAN fr)++numD whAN wv)++numD erAN ev).length≤130∧∀x∈(((L1++numD maxAN (-1))++numD shAN fr)++numD whAN wv)++numD erAN ev,x.length≤70000 from by
  have h1:=HL1.out.1;have h2:=numD_le maxAN (-1);have h3:=numD_le shAN fr;have h4:=numD_le whAN wv;have h5:=numD_le erAN ev
  refine ⟨by simp only [List.length_append];omega,fun x hx=>?_⟩
  simp only [List.mem_append] at hx
  rcases hx with (((hx | hx) | hx) | hx) | hx
  ·have:=HL1.out.2 x hx;omega
  ·have:=numD_len (n:=maxAN) (x:=-1) (by decide) x hx;have:maxAN.length=7:=rfl;omega
  ·have:=numD_len (n:=shAN) (x:=fr) (by omega) x hx;have:shAN.length=8:=rfl;omega
  ·have:=numD_len (n:=whAN) (x:=wv) (by omega) x hx;have:whAN.length=22:=rfl;omega
  ·have:=numD_len (n:=erAN) (x:=ev) (by omega) x hx;have:erAN.length=14:=rfl;omega)
 generalize (((L1++numD maxAN (-1))++numD shAN fr)++numD whAN wv)++numD erAN ev=LL at *
 obtain ⟨v,hb,hown⟩:=HP5.out.row
 obtain ⟨A,c,rfl⟩:=hown.form
 have q0:w5.cell? ⟨gl,0,none⟩=some (.slice A LL.length c):=hb.cell 0
 have HJ:=hid (join_any (.slice A LL.length c) LL w5 (by have h:=hown.sl (by decide);exact h) HLN.out.1 HLN.out.2)
 have HGR:=hid HP5.out.gr
 clear hb hown
 go_wp2_with (go_at_call 143;refine HJ.out.mono ?_;rintro e w6 ⟨rfl,hG6⟩)
 go_ret
 rw [←HEQ.out]
 exact ⟨rfl,Gr.tr HGR.out hG6⟩
end Go.Proofs.YtflepnkpihfidaaGreatDoor
