/- Parts. No conditions but those that each theorem names. -/
import Derived.Test.YtflepnkpihfidaaGreatDoorJReq
import Derived.Test.YtflepnkpihfidaaGreatDoorJField1
import Derived.Test.YtflepnkpihfidaaGreatDoorJPut
import Derived.Test.YtflepnkpihfidaaGreatDoorJLawA
import Derived.Test.YtflepnkpihfidaaGreatDoorJField2
set_option linter.unusedVariables false
set_option linter.unusedSimpArgs false
namespace Go.Proofs.YtflepnkpihfidaaGreatDoor
open Lib (hid)
open Go.RowKit
theorem weak_has (q:List UInt8):Lib.hasPrefix q [87,47]=weakL q:=by
 unfold Lib.hasPrefix
 match q with
 | []=>rfl
 | [a]=>cases h:(87==a) <;> simp [weakL,List.isPrefixOf,h]
 | a::b::r=>simp only [weakL,List.isPrefixOf,Bool.and_true];rw [BEq.comm (a:=(87:UInt8)),BEq.comm (a:=(47:UInt8))]
theorem weak_len {q:List UInt8} (h:weakL q=true):2≤q.length:=by
 match q,h with
 | a::b::r,_=>simp
theorem quoB_len {q:List UInt8} (h:quoB q=true):2≤q.length:=by
 unfold quoB at h
 split at h
 ·assumption
 ·cases h
theorem hasW_any (q:List UInt8) (w:World):Calls Tryz.prog 115 #[str q,.string ⟨#[87,47]⟩] w fun e w'=>e=.returned (.bool (weakL q))∧Gr w w':=
 (Tryz.strings_HasPrefix ⟨q.toArray⟩ ⟨#[87,47]⟩ w).mono fun _ _ ⟨h1,h2⟩=>⟨by rw [h1,←weak_has q],by rw [h2];exact Gr.refl _⟩
def tagV:Option TagT→Value
 | some t=>.tuple #[.agg #[str t.1,.bool t.2],.int .i64 0]
 | none=>.tuple #[.agg #[str [],.bool false],.int .i64 2]
set_option maxHeartbeats 2000000 in
theorem tagRight_any (x:List UInt8) (wk:Bool) (w:World) (_hx:x.length≤9223372036854775800):Calls Tryz.prog 56 #[.agg #[str x,.bool wk]] w fun e w'=>e=.returned (.bool (tagB x))∧Gr w w':=by
 obtain ⟨hG0,c0,c1⟩:=box2 w (str x) (.bool wk) 25
 by_cases h1:1≤x.length
 ·have d1:decide ((x.length:Int) < 1)=false:=decide_eq_false (by omega)
  by_cases h2:x.length≤100
  ·have d2:decide (100 < (x.length:Int))=false:=decide_eq_false (by omega)
   have HR:=hid (tagB_rest h1 h2)
   go_enter Tryz.func56,Tryz.ntmps56
   go_upto_region 1 with fail
   generalize w.alloc (Obj.cells #[str x,.bool wk] 25)=w0 at *
   go_wp2_with fail
   go_loop [3,4,18] (fun _ _ i=>∃k:Nat,k≤x.length∧i=.int .i64 k∧(x.take k).all tagC=true) (fun _ _ i=>x.length-(intOf i).toNat)
   case atStart=>exact ⟨0,Nat.zero_le _,rfl,rfl⟩
   case round=>
    obtain ⟨k,hk,rfl,hE⟩:=hrel
    have HE:=hid hE;clear hE
    by_cases hlt:k < x.length
    ·have hx:x[k].toNat≤255:=by have:=x[k].toNat_lt;omega
     rcases (show x[k].toNat≤32∨x[k].toNat=34∨127≤x[k].toNat∨x[k].toNat=33∨(35≤x[k].toNat∧x[k].toNat≤126) by omega) with h | h | h | h | ⟨h,h'⟩
     ·have hc:=hid (tagC_no (c:=x[k]) (by omega))
      have ddlt33:decide (((x[k].toNat:Nat):Int) < 33)=true:=decide_eq_true (by omega)
      go_wp2_with fail
      go_ret
      exact ⟨ret_bool (by rw [HR.out,all_no _ _ _ hlt hc.out]),hG0⟩
     ·have hc:=hid (tagC_no (c:=x[k]) (by omega))
      have ddlt33:decide (((x[k].toNat:Nat):Int) < 33)=false:=decide_eq_false (by omega)
      have ddeq34:(((x[k].toNat:Nat):Int)==34)=true:=by simp;omega
      clear h
      go_wp2_with fail
      go_ret
      exact ⟨ret_bool (by rw [HR.out,all_no _ _ _ hlt hc.out]),hG0⟩
     ·have hc:=hid (tagC_no (c:=x[k]) (by omega))
      have ddlt33:decide (((x[k].toNat:Nat):Int) < 33)=false:=decide_eq_false (by omega)
      have ddeq34:(((x[k].toNat:Nat):Int)==34)=false:=by simp;omega
      have ddgt126:decide (126 < ((x[k].toNat:Nat):Int))=true:=decide_eq_true (by omega)
      go_wp2_with fail
      go_ret
      exact ⟨ret_bool (by rw [HR.out,all_no _ _ _ hlt hc.out]),hG0⟩
     ·have hc:=hid (tagC_yes (c:=x[k]) (by omega))
      have ddlt33:decide (((x[k].toNat:Nat):Int) < 33)=false:=decide_eq_false (by omega)
      have ddeq34:(((x[k].toNat:Nat):Int)==34)=false:=by simp;omega
      have ddgt126:decide (126 < ((x[k].toNat:Nat):Int))=false:=decide_eq_false (by omega)
      clear h
      go_wp2_with fail
      exact ⟨⟨k+1,by omega,by go_num,all_take_succ _ x k hlt HE.out hc.out⟩,by simp [intOf];omega⟩
     ·have hc:=hid (tagC_yes (c:=x[k]) (by omega))
      have ddlt33:decide (((x[k].toNat:Nat):Int) < 33)=false:=decide_eq_false (by omega)
      have ddeq34:(((x[k].toNat:Nat):Int)==34)=false:=by simp;omega
      have ddgt126:decide (126 < ((x[k].toNat:Nat):Int))=false:=decide_eq_false (by omega)
      go_wp2_with fail
      exact ⟨⟨k+1,by omega,by go_num,all_take_succ _ x k hlt HE.out hc.out⟩,by simp [intOf];omega⟩
    ·go_wp2_with fail
     go_ret
     exact ⟨ret_bool (by rw [HR.out,all_end _ _ _ hlt HE.out]),hG0⟩
  ·have d2:decide (100 < (x.length:Int))=true:=decide_eq_true (by omega)
   have HR:=hid (tagB_len (t:=x) (by omega))
   go_enter Tryz.func56,Tryz.ntmps56
   go_upto_region 1 with fail
   generalize w.alloc (Obj.cells #[str x,.bool wk] 25)=w0 at *
   go_wp2_with fail
   go_ret
   exact ⟨ret_bool HR.out.symm,hG0⟩
 ·have d1:decide ((x.length:Int) < 1)=true:=decide_eq_true (by omega)
  have HR:=hid (tagB_len (t:=x) (by omega))
  go_enter Tryz.func56,Tryz.ntmps56
  go_upto_region 1 with fail
  generalize w.alloc (Obj.cells #[str x,.bool wk] 25)=w0 at *
  go_wp2_with fail
  go_ret
  exact ⟨ret_bool HR.out.symm,hG0⟩
set_option maxHeartbeats 2000000 in
theorem refTagRight_any (x:List UInt8) (wk:Bool) (w:World) (_hx:x.length≤9223372036854775800):Calls Tryz.prog 100 #[.agg #[str x,.bool wk]] w fun e w'=>e=.returned (.bool (tagB x))∧Gr w w':=by
 obtain ⟨hG0,c0,c1⟩:=box2 w (str x) (.bool wk) 25
 by_cases h1:1≤x.length
 ·have d1:decide ((x.length:Int) < 1)=false:=decide_eq_false (by omega)
  by_cases h2:x.length≤100
  ·have d2:decide (100 < (x.length:Int))=false:=decide_eq_false (by omega)
   have HR:=hid (tagB_rest h1 h2)
   go_enter Tryz.func100,Tryz.ntmps100
   go_upto_region 1 with fail
   generalize w.alloc (Obj.cells #[str x,.bool wk] 25)=w0 at *
   go_wp2_with fail
   go_loop [4,3] (fun _ i=>∃k:Nat,k≤x.length∧i=.int .i64 k∧(x.take k).all tagC=true) (fun _ i=>x.length-(intOf i).toNat)
   case atStart=>exact ⟨0,Nat.zero_le _,rfl,rfl⟩
   case round=>
    obtain ⟨k,hk,rfl,hE⟩:=hrel
    have HE:=hid hE;clear hE
    by_cases hlt:k < x.length
    ·have hx:x[k].toNat≤255:=by have:=x[k].toNat_lt;omega
     rcases (show x[k].toNat≤32∨x[k].toNat=34∨127≤x[k].toNat∨x[k].toNat=33∨(35≤x[k].toNat∧x[k].toNat≤126) by omega) with h | h | h | h | ⟨h,h'⟩
     ·have hc:=hid (tagC_no (c:=x[k]) (by omega))
      have ddlt33:decide (((x[k].toNat:Nat):Int) < 33)=true:=decide_eq_true (by omega)
      go_wp2_with fail
      go_ret
      exact ⟨ret_bool (by rw [HR.out,all_no _ _ _ hlt hc.out]),hG0⟩
     ·have hc:=hid (tagC_no (c:=x[k]) (by omega))
      have ddlt33:decide (((x[k].toNat:Nat):Int) < 33)=false:=decide_eq_false (by omega)
      have ddeq34:(((x[k].toNat:Nat):Int)==34)=true:=by simp;omega
      clear h
      go_wp2_with fail
      go_ret
      exact ⟨ret_bool (by rw [HR.out,all_no _ _ _ hlt hc.out]),hG0⟩
     ·have hc:=hid (tagC_no (c:=x[k]) (by omega))
      have ddlt33:decide (((x[k].toNat:Nat):Int) < 33)=false:=decide_eq_false (by omega)
      have ddeq34:(((x[k].toNat:Nat):Int)==34)=false:=by simp;omega
      have ddgt126:decide (126 < ((x[k].toNat:Nat):Int))=true:=decide_eq_true (by omega)
      go_wp2_with fail
      go_ret
      exact ⟨ret_bool (by rw [HR.out,all_no _ _ _ hlt hc.out]),hG0⟩
     ·have hc:=hid (tagC_yes (c:=x[k]) (by omega))
      have ddlt33:decide (((x[k].toNat:Nat):Int) < 33)=false:=decide_eq_false (by omega)
      have ddeq34:(((x[k].toNat:Nat):Int)==34)=false:=by simp;omega
      have ddgt126:decide (126 < ((x[k].toNat:Nat):Int))=false:=decide_eq_false (by omega)
      clear h
      go_wp2_with fail
      exact ⟨⟨k+1,by omega,by go_num,all_take_succ _ x k hlt HE.out hc.out⟩,by simp [intOf];omega⟩
     ·have hc:=hid (tagC_yes (c:=x[k]) (by omega))
      have ddlt33:decide (((x[k].toNat:Nat):Int) < 33)=false:=decide_eq_false (by omega)
      have ddeq34:(((x[k].toNat:Nat):Int)==34)=false:=by simp;omega
      have ddgt126:decide (126 < ((x[k].toNat:Nat):Int))=false:=decide_eq_false (by omega)
      go_wp2_with fail
      exact ⟨⟨k+1,by omega,by go_num,all_take_succ _ x k hlt HE.out hc.out⟩,by simp [intOf];omega⟩
    ·go_wp2_with fail
     go_ret
     exact ⟨ret_bool (by rw [HR.out,all_end _ _ _ hlt HE.out]),hG0⟩
  ·have d2:decide (100 < (x.length:Int))=true:=decide_eq_true (by omega)
   have HR:=hid (tagB_len (t:=x) (by omega))
   go_enter Tryz.func100,Tryz.ntmps100
   go_upto_region 1 with fail
   generalize w.alloc (Obj.cells #[str x,.bool wk] 25)=w0 at *
   go_wp2_with fail
   go_ret
   exact ⟨ret_bool HR.out.symm,hG0⟩
 ·have d1:decide ((x.length:Int) < 1)=true:=decide_eq_true (by omega)
  have HR:=hid (tagB_len (t:=x) (by omega))
  go_enter Tryz.func100,Tryz.ntmps100
  go_upto_region 1 with fail
  generalize w.alloc (Obj.cells #[str x,.bool wk] 25)=w0 at *
  go_wp2_with fail
  go_ret
  exact ⟨ret_bool HR.out.symm,hG0⟩
set_option maxHeartbeats 1000000 in
theorem tagText_any (t:TagT) (w:World) (_hx:t.1.length≤9223372036854775800):Calls Tryz.prog 123 #[.agg #[str t.1,.bool t.2]] w fun e w'=>e=.returned (str (tagTxt t))∧Gr w w':=by
 obtain ⟨x,wk⟩:=t
 obtain ⟨hG0,c0,c1⟩:=box2 w (str x) (.bool wk) 25
 have HR:=hid (fun (w:World)=>tagRight_any x wk w _hx)
 cases hb:tagB x with
 | false=>
   rw [hb] at HR
   have HT:=hid (show tagTxt (x,wk)=[] from by unfold tagTxt;rw [if_neg (by rw [hb];decide)])
   go_enter Tryz.func123,Tryz.ntmps123
   go_upto_region 1 with fail
   generalize w.alloc (Obj.cells #[str x,.bool wk] 25)=w0 at *
   go_wp2_with (go_at_call 56;refine (HR.out _).mono ?_;rintro e w1 ⟨rfl,hG1⟩)
   go_ret
   exact ⟨ret_str HT.out.symm,Gr.tr hG0 hG1⟩
 | true=>
   rw [hb] at HR
   have HT:=hid (show tagTxt (x,wk)=(if wk then [87,47] else [])++(34::(x++[34])) from by unfold tagTxt;rw [if_pos hb])
   cases wk with
   | false=>
     go_enter Tryz.func123,Tryz.ntmps123
     go_upto_region 1 with fail
     generalize w.alloc (Obj.cells #[str x,.bool false] 25)=w0 at *
     go_wp2_with (go_at_call 56;refine (HR.out _).mono ?_;rintro e w1 ⟨rfl,hG1⟩;have c0:=hG1.cell c0;have c1:=hG1.cell c1)
     go_ret
     refine ⟨?_,Gr.tr hG0 hG1⟩
     rw [HT.out]
     refine congrArg (fun b=>Ending.returned (.string b)) ?_
     apply ByteArray.ext
     simp
   | true=>
     go_enter Tryz.func123,Tryz.ntmps123
     go_upto_region 1 with fail
     generalize w.alloc (Obj.cells #[str x,.bool true] 25)=w0 at *
     go_wp2_with (go_at_call 56;refine (HR.out _).mono ?_;rintro e w1 ⟨rfl,hG1⟩;have c0:=hG1.cell c0;have c1:=hG1.cell c1)
     go_ret
     refine ⟨?_,Gr.tr hG0 hG1⟩
     rw [HT.out]
     refine congrArg (fun b=>Ending.returned (.string b)) ?_
     apply ByteArray.ext
     simp
set_option maxHeartbeats 4000000 in
theorem tagParse_any (s:List UInt8) (w:World) (_hs:s.length≤9223372036854775800):Calls Tryz.prog 77 #[str s] w fun e w'=>e=.returned (tagV (tagP s))∧Gr w w':=by
 have hb2:=Bk.new w 25 #[str [],.bool false] (0,0)
 have hG0:=Gr.al (Gr.refl w) (Obj.cells #[str [],.bool false] 25)
 have hle:=trim_le s
 go_enter Tryz.func77,Tryz.ntmps77
 go_upto_region 1 with fail
 have hlt:=hb2.lt
 have hg2:w.heap.size≤w.heap.size:=Nat.le_refl _
 generalize w.alloc (Obj.cells #[str [],.bool false] 25)=w0 at *
 obtain ⟨g2,hgg⟩:∃g,g=w.heap.size:=⟨_,rfl⟩
 rw [←hgg] at hb2 hlt ⊢
 have HGG:=hid (show w.heap.size≤g2 from Nat.le_of_eq hgg.symm)
 clear hgg hg2
 have hg2:=HGG.out
 go_upto_region 3 with (go_at_call 138;refine (trim_any _ _ (by omega)).mono ?_;rintro e w1 ⟨rfl,hG1⟩)
 have hb4:=Bk.new w1 25 #[str [],.bool false] (0,0)
 have hb2:=(hb2.gr hG1).al (.cells #[str [],.bool false] 25)
 have hGx:=Gr.al (Gr.tr hG0 hG1) (.cells #[str [],.bool false] 25)
 have hg4:w.heap.size≤w1.heap.size:=(Gr.tr hG0 hG1).size
 have hne:g2≠w1.heap.size:=by have:=hG1.size;omega
 generalize w1.alloc (.cells #[str [],.bool false] 25)=wx at *
 generalize w1.heap.size=g4 at *
 have HQ:=hid (show tagP s=if quoB (bodyT (trim s))&&tagB (innT (bodyT (trim s))) then some (innT (bodyT (trim s)),weakL (trim s)) else none from rfl)
 have hqn:(trim s).length≤9223372036854775800:=by omega
 clear hG1 hG0 hlt hle
 generalize trim s=q at *
 have hb4c:Bk wx g4 25 #[str [],.bool false] (0,0):=hb4
 have HB2:=hid hb2
 have HB4:=hid hb4c
 clear hb4 hb4c hb2
 have hBl:(bodyT q).length≤q.length:=by unfold bodyT;split <;> simp
 go_upto_if 8 with (go_at_call 115;refine (hasW_any q _).mono ?_;rintro e w3 ⟨rfl,hG3⟩)
 have HB2:=hid (HB2.out.gr hG3)
 have HB4:=hid (HB4.out.gr hG3)
 have hGx:=Gr.tr hGx hG3
 clear hG3
 go_cut [0] (fun s0 wc=>s0=str (bodyT q)∧Gr w wc∧Bk wc g2 25 #[str [],.bool false] (0,0)∧Bk wc g4 25 #[str [],.bool (weakL q)] (0,0))
 case first=>
  cases hw:weakL q with
  | false=>
    have hbt:=hid (show bodyT q=q from by unfold bodyT;rw [hw];rfl)
    have HW:=hid hw
    clear hw
    go_wp2_with fail
    go_meet
    exact ⟨by rw [hbt.out],hGx,HB2.out,by rw [HW.out];exact HB4.out⟩
  | true=>
    have hbt:=hid (show bodyT q=q.drop 2 from by unfold bodyT;rw [hw];rfl)
    have hq2:=weak_len hw
    have HW:=hid hw
    clear hw
    have r1:w3.cell? ⟨g4,1,none⟩=some (.bool false):=HB4.out.cell 1
    have s1:=HB4.out.free 1 (.inr (Nat.zero_le _))
    go_wp2_with fail
    go_meet
    exact ⟨by rw [hbt.out],Gr.st hGx hg4 _,HB2.out.far hne _,by rw [HW.out];exact HB4.out.set 1 (.bool true)⟩
 case rest=>
 obtain ⟨rfl,hGx,hb2,hb4⟩:=hcut
 have HB2:=hid hb2
 have HB4:=hid hb4
 clear hb2 hb4
 generalize bodyT q=B at *
 generalize weakL q=wk at *
 go_upto_region 6 with fail
 go_cut [27] (fun s27 wy=>s27=.bool (!quoB B)∧wc=wy)
 case first=>
  by_cases h2:2≤B.length
  ·have k1:decide ((B.length:Int) < 2)=false:=decide_eq_false (by omega)
   have hn:((B.length:Int)-1).toNat=B.length-1:=by omega
   have HB:=hid (show quoB B=(B[0]==34&&B[B.length-1]==34) from by unfold quoB;rw [dif_pos h2])
   by_cases a1:B[0].toNat=34
   ·have e1:((B[0].toNat:Int) != 34)=false:=by simp;omega
    have A1:=hid (show (B[0]==34)=true from by rw [show B[0]=34 from UInt8.toNat_inj.1 a1];rfl)
    by_cases a2:B[B.length-1].toNat=34
    ·have e2:((B[B.length-1].toNat:Int) != 34)=false:=by simp;omega
     have A2:=hid (show (B[B.length-1]==34)=true from by rw [show B[B.length-1]=34 from UInt8.toNat_inj.1 a2];rfl)
     try clear a2
     try clear a1
     go_wp2_with fail
     go_meet
     exact ⟨by rw [HB.out,A1.out,A2.out];rfl,rfl⟩
    ·have e2:((B[B.length-1].toNat:Int) != 34)=true:=by simp;omega
     have A2:=hid (show (B[B.length-1]==34)=false from by rw [beq_eq_false_iff_ne];intro h;rw [h] at a2;exact a2 rfl)
     try clear a2
     try clear a1
     go_wp2_with fail
     go_meet
     exact ⟨by rw [HB.out,A1.out,A2.out];rfl,rfl⟩
   ·have e1:((B[0].toNat:Int) != 34)=true:=by simp;omega
    have A1:=hid (show (B[0]==34)=false from by rw [beq_eq_false_iff_ne];intro h;rw [h] at a1;exact a1 rfl)
    try clear a1
    go_wp2_with fail
    go_meet
    exact ⟨by rw [HB.out,A1.out];rfl,rfl⟩
  ·have k1:decide ((B.length:Int) < 2)=true:=decide_eq_true (by omega)
   have HB:=hid (show quoB B=false from by unfold quoB;rw [dif_neg h2])
   go_wp2_with fail
   go_meet
   exact ⟨by rw [HB.out];rfl,rfl⟩
 case rest=>
 obtain ⟨rfl,rfl⟩:=hcut
 have z0:wc.cell? ⟨g2,0,none⟩=some (str []):=HB2.out.cell 0
 have z1:wc.cell? ⟨g2,1,none⟩=some (.bool false):=HB2.out.cell 1
 have y0:=HB2.out.free 0 (.inr (Nat.zero_le _))
 have y1:=HB2.out.free 1 (.inr (Nat.zero_le _))
 cases hq:quoB B with
 | false=>
   rw [hq] at HQ
   have HN:=hid (show tagP s=none from HQ.out)
   clear hq
   go_wp2_with fail
   refine bodyPost_ret (v:=.tuple #[.agg #[str [],.bool false],.int .i64 2]) (by simp [results,Tryz.results77,go_sem,z0,z1]) rfl ⟨by rw [HN.out];rfl,?_⟩
   exact Gr.st (Gr.st hGx hg2 _) hg2 _
 | true=>
   rw [hq,Bool.true_and] at HQ
   have h2:=quoB_len hq
   clear hq
   have hn:((B.length:Int)-1).toNat=B.length-1:=by omega
   have hI:List.take (B.length-1-1) B.tail=innT B:=by unfold innT;rw [Nat.sub_sub,List.drop_one]
   have hIl:(innT B).length≤B.length:=by unfold innT;rw [List.length_take,List.length_drop];omega
   have HRT:=hid (fun (w:World)=>tagRight_any (innT B) wk w (by omega))
   generalize innT B=X at *
   have r0:wc.cell? ⟨g4,0,none⟩=some (str []):=HB4.out.cell 0
   have s0:=HB4.out.free 0 (.inr (Nat.zero_le _))
   go_upto_region 9 with fail
   have hb4':=HB4.out.set 0 (str X)
   have hb2':=HB2.out.far (p:=⟨g4,0,none⟩) hne (str X)
   have hGy:=Gr.st hGx (p:=⟨g4,0,none⟩) hg4 (str X)
   generalize wc.setCell ⟨g4,0,none⟩ (str X)=wy at *
   clear z0 z1 r0 y0 y1 s0 hI hn hIl
   have r0:wy.cell? ⟨g4,0,none⟩=some (str X):=hb4'.cell 0
   have r1:wy.cell? ⟨g4,1,none⟩=some (.bool wk):=hb4'.cell 1
   cases hb:tagB X with
   | false=>
     rw [hb] at HRT HQ
     go_upto_region 10 with (go_at_call 56;refine (HRT.out _).mono ?_;rintro e w2 ⟨rfl,hG2⟩)
     have HB2:=hid (hb2'.gr hG2)
     have z0:w2.cell? ⟨g2,0,none⟩=some (str []):=HB2.out.cell 0
     have z1:w2.cell? ⟨g2,1,none⟩=some (.bool false):=HB2.out.cell 1
     have y0:=HB2.out.free 0 (.inr (Nat.zero_le _))
     have y1:=HB2.out.free 1 (.inr (Nat.zero_le _))
     have hGx:=Gr.tr hGy hG2
     have HN:=hid (show tagP s=none from HQ.out)
     go_wp2_with fail
     refine bodyPost_ret (v:=.tuple #[.agg #[str [],.bool false],.int .i64 2]) (by simp [results,Tryz.results77,go_sem,z0,z1]) rfl ⟨by rw [HN.out];rfl,?_⟩
     exact Gr.st (Gr.st hGx hg2 _) hg2 _
   | true=>
     rw [hb] at HRT HQ
     go_upto_region 11 with (go_at_call 56;refine (HRT.out _).mono ?_;rintro e w2 ⟨rfl,hG2⟩)
     have HB2:=hid (hb2'.gr hG2)
     have z0:w2.cell? ⟨g2,0,none⟩=some (str []):=HB2.out.cell 0
     have z1:w2.cell? ⟨g2,1,none⟩=some (.bool false):=HB2.out.cell 1
     have y0:=HB2.out.free 0 (.inr (Nat.zero_le _))
     have y1:=HB2.out.free 1 (.inr (Nat.zero_le _))
     have r0:=hG2.cell r0
     have r1:=hG2.cell r1
     have hGx:=Gr.tr hGy hG2
     have HN:=hid (show tagP s=some (X,wk) from HQ.out)
     go_wp2_with fail
     refine bodyPost_ret (v:=.tuple #[.agg #[str X,.bool wk],.int .i64 0]) (by simp [results,Tryz.results77,go_sem,z0,z1]) rfl ⟨by rw [HN.out];rfl,?_⟩
     exact Gr.st (Gr.st hGx hg2 _) hg2 _
end Go.Proofs.YtflepnkpihfidaaGreatDoor
namespace Go.Proofs.YtflepnkpihfidaaGreatDoor
open Lib (hid)
open Go.RowKit
def tagCs (l:List TagT):List Value:=l.flatMap fun t=>[str t.1,.bool t.2]
def Tags (w:World) (v:Value) (l:List TagT):Prop:=Sl w v l.length (tagCs l)
theorem Tags.gr {w w':World} {v:Value} {l} (h:Tags w v l) (g:Gr w w'):Tags w' v l:=Sl.gr h g
theorem tagCs_app (a b:List TagT):tagCs (a++b)=tagCs a++tagCs b:=by simp [tagCs]
theorem tagCs_at (l:List TagT) (k:Nat) (h:k < l.length):(tagCs l)[k*2]?=some (str l[k].1)∧(tagCs l)[k*2+1]?=some (.bool l[k].2):=by
 induction l generalizing k with
 | nil=>simp at h
 | cons f fs ih=>
   have hc:tagCs (f::fs)=str f.1::.bool f.2::tagCs fs:=rfl
   rw [hc]
   cases k with
   | zero=>simp
   | succ k=>
     have:=ih k (by simpa using h)
     rw [show (k+1)*2=k*2+1+1 from by omega]
     simpa using this
theorem Tags.open {w:World} {v:Value} {xs:List TagT} (h:Tags w v xs):∃A c,v=.slice A xs.length c∧xs.length≤c∧xs.length≤9223372036854775807∧∀(k:Nat) (hk:k < xs.length),∃b o,A=some ⟨b,o,none⟩∧b < w.heap.size∧w.cell? ⟨b,o+k*2,none⟩=some (str xs[k].1)∧w.cell? ⟨b,o+k*2+1,none⟩=some (.bool xs[k].2):=by
 obtain ⟨A,c,hv,hc,hm,ho⟩:=Sl.open h
 refine ⟨A,c,hv,hc,hm,fun k hk=>?_⟩
 obtain ⟨e1,e2⟩:=tagCs_at xs k hk
 obtain ⟨b,o,hA,hb,hj⟩:=ho _ _ e1
 exact ⟨b,o,hA,hb,hj _ _ e1,by rw [Nat.add_assoc];exact hj _ _ e2⟩
theorem Tags.nil (w:World):Tags w (.slice none 0 0) []:=⟨none,0,rfl,Nat.le_refl _,by simp,.inl rfl⟩
theorem elemTag:ElemOk Tryz.prog 23 25 (.agg #[str [],.bool false]) 2 24:=⟨Tryz.underlying23,by kernel_rfl,rfl,by omega⟩
theorem one_tag (a:List UInt8) (b:Bool):∀u∈[str a,.bool b],u.oneCell'=true:=by
 intro u hu
 simp only [List.mem_cons,List.not_mem_nil,or_false] at hu
 rcases hu with rfl | rfl <;> rfl
theorem own_tags {W0 w:World} {v:Value} {l:List TagT} (h:Own W0 w 25 2 v l.length (tagCs l)):Tags w v l:=h.sl (by decide)
def ListEnd (r:List TagT×Bool×Nat) (w:World) (e:Ending) (w':World):Prop:=∃v,e=.returned (.tuple #[v,.bool r.2.1,.int .i64 (r.2.2:Nat)])∧Tags w' v r.1∧Gr w w'∧Fresh w v
theorem listP_star' {s:List UInt8} (h:trim s=[42]):listP s=([],true,0):=by unfold listP;rw [if_pos h]
theorem listP_bad {s:List UInt8} (h:trim s≠[42]) (hg:goL false [] [] s=none):listP s=([],false,2):=by unfold listP;rw [if_neg h,hg]
theorem listP_some {s:List UInt8} {l:List TagT} (h:trim s≠[42]) (hg:goL false [] [] s=some l):listP s=if l=[] then ([],false,2) else if 64 < l.length then ([],false,4) else (l,false,0):=by unfold listP;rw [if_neg h,hg]
theorem cur_succ (s:List UInt8) (b i:Nat) (hb:b≤i) (hi:i < s.length):(s.drop b).take (i+1-b)=(s.drop b).take (i-b)++[s[i]]:=by
 rw [show i+1-b=(i-b)+1 by omega,List.take_succ_eq_append_getElem (by rw [List.length_drop];omega),List.getElem_drop]
 simp only [show b+(i-b)=i by omega]
theorem goL_at (q:Bool) (cur:List UInt8) (l:List TagT) (s:List UInt8) (i:Nat) (hi:i < s.length):goL q cur l (s.drop i)=if (s[i]==44&&!q)=true then (addT cur l).bind fun l'=>goL q [] l' (s.drop (i+1)) else goL (if s[i]==34 then !q else q) (cur++[s[i]]) l (s.drop (i+1)):=by
 conv=>lhs;rw [List.drop_eq_getElem_cons hi,goL]
theorem goL_end (q:Bool) (cur:List UInt8) (l:List TagT) (s:List UInt8) (i:Nat) (hi:s.length≤i):goL q cur l (s.drop i)=addT cur l:=by rw [List.drop_eq_nil_of_le hi,goL]
def LRel (s:List UInt8) (G:Option (List TagT)) (i b:Nat) (q:Bool) (l:List TagT):Prop:=(i≤s.length∧b≤i∧goL q ((s.drop b).take (i-b)) l (s.drop i)=G)∨(i=s.length+1∧b≤i∧G=some l)
theorem LRel.le {s:List UInt8} {G:Option (List TagT)} {i b:Nat} {q:Bool} {l:List TagT} (h:LRel s G i b q l):i≤s.length+1∧b≤i:=by
 rcases h with h | h <;> omega
theorem LRel.quote {s:List UInt8} {G:Option (List TagT)} {i b:Nat} {q:Bool} {l:List TagT} (h:LRel s G i b q l) (hi:i < s.length) (hc:s[i]=34):LRel s G (i+1) b (!q) l:=by
 rcases h with ⟨h1,h2,h3⟩ | ⟨h1,_⟩
 ·refine .inl ⟨by omega,by omega,?_⟩
  rw [cur_succ s b i h2 hi,←h3,goL_at q _ l s i hi,hc,if_neg (by simp)]
  rfl
 ·omega
theorem LRel.next {s:List UInt8} {G:Option (List TagT)} {i b:Nat} {q:Bool} {l:List TagT} (h:LRel s G i b q l) (hi:i < s.length) (hc:s[i]≠34) (hq:s[i]≠44∨q=true):LRel s G (i+1) b q l:=by
 rcases h with ⟨h1,h2,h3⟩ | ⟨h1,_⟩
 ·refine .inl ⟨by omega,by omega,?_⟩
  rw [cur_succ s b i h2 hi,←h3,goL_at q _ l s i hi,if_neg,if_neg (by simpa using hc)]
  rcases hq with hq | hq
  ·simp [hq]
  ·simp [hq]
 ·omega
theorem LRel.part {s:List UInt8} {G:Option (List TagT)} {i b:Nat} {q:Bool} {l:List TagT} (h:LRel s G i b q l) (hi:(i < s.length∧(∀hi:i < s.length,s[i]=44)∧q=false)∨i=s.length) :
  (addT ((s.drop b).take (i-b)) l=none→G=none)∧∀l',addT ((s.drop b).take (i-b)) l=some l'→LRel s G (i+1) (i+1) q l':=by
 rcases h with ⟨h1,h2,h3⟩ | ⟨h1,_⟩
 ·rcases hi with ⟨hi,hc,hq⟩ | hi
  ·rw [goL_at q _ l s i hi,hc hi,hq,if_pos (by decide)] at h3
   refine ⟨fun ha=>by rw [←h3,ha];rfl,fun l' ha=>.inl ⟨by omega,Nat.le_refl _,?_⟩⟩
   rw [ha] at h3
   rw [Nat.sub_self,List.take_zero,hq]
   exact h3
  ·rw [goL_end q _ l s i (by omega)] at h3
   exact ⟨fun ha=>by rw [←h3,ha],fun l' ha=>.inr ⟨by omega,Nat.le_refl _,by rw [←h3,ha]⟩⟩
 ·omega
theorem addT_nil {cur:List UInt8} {l:List TagT} (h:trim cur=[]):addT cur l=some l:=by unfold addT;rw [if_pos h]
theorem addT_none {cur:List UInt8} {l:List TagT} (h:trim cur≠[]) (hp:tagP cur=none):addT cur l=none:=by unfold addT;rw [if_neg h,hp];rfl
theorem addT_some {cur:List UInt8} {l:List TagT} {t:TagT} (h:trim cur≠[]) (hp:tagP cur=some t):addT cur l=some (l++[t]):=by unfold addT;rw [if_neg h,hp];rfl
theorem trim_isEmpty_no {x:List UInt8} (h:x≠[]):x.isEmpty=false:=by cases x <;> simp_all
set_option maxHeartbeats 8000000 in
set_option maxRecDepth 100000 in
theorem tagList_any (s:List UInt8) (w:World) (_hs:s.length≤100000000):Calls Tryz.prog 203 #[str s] w (ListEnd (listP s) w):=by
 go_enter Tryz.func203,Tryz.ntmps203
 go_upto_region 1 with fail
 by_cases h42:trim s=[42]
 ·have e1:(trim s==[42])=true:=by rw [h42];rfl
  have HN:=hid (listP_star' h42)
  clear h42
  go_wp2_with (go_at_call 138;refine (trim_any _ _ (by omega)).mono ?_;rintro e w1 ⟨rfl,hG1⟩)
  refine bodyPost_ret (v:=.tuple #[.slice none 0 0,.bool true,.int .i64 0]) (by simp [results,Tryz.results203,go_sem]) rfl ?_
  rw [HN.out]
  exact ⟨_,rfl,Tags.nil _,hG1,fresh_nil _⟩
 ·have e1:(trim s==[42])=false:=by rw [beq_eq_false_iff_ne];exact h42
  have HB:=hid (fun hg=>listP_bad h42 hg)
  have HS:=hid (fun l hg=>listP_some (l:=l) h42 hg)
  clear h42
  go_upto_region 4 with (go_at_call 138;refine (trim_any _ _ (by omega)).mono ?_;rintro e w1 ⟨rfl,hG1⟩)
  clear e1
  obtain ⟨G,hGd⟩:∃G,G=goL false [] [] s:=⟨_,rfl⟩
  rw [←hGd] at HB HS
  have HR0:=hid (show LRel s G 0 0 false [] from .inl ⟨Nat.zero_le _,Nat.le_refl _,by rw [hGd];rfl⟩)
  clear hGd
  go_wp2_with fail
  go_loopw [2,5,6,7,8,9,10] (fun v b q i x8 x9 x10 wr=>∃(i' b':Nat) (q':Bool) (l:List TagT),i=.int .i64 i'∧b=.int .i64 b'∧q=.bool q'∧LRel s G i' b' q' l∧l.length≤i'∧Gr w wr∧Own w wr 25 2 v l.length (tagCs l)) (fun _ _ _ i _ _ _ _=>s.length+1-(intOf i).toNat)
  case atStart=>exact ⟨0,0,false,[],rfl,rfl,rfl,HR0.out,Nat.le_refl _,hG1,Own.nil _ _ _ _⟩
  case round=>
   clear hG1 HR0
   obtain ⟨i,b,q,l,rfl,rfl,rfl,hR,hli,hG,hO⟩:=hrel
   obtain ⟨A7,c7,rfl⟩:=hO.form
   have HO:=hid hO
   have hle:=hR.le
   have HRL:=hid hR
   clear hO hR
   by_cases hlt:i < s.length
   ·have d1:decide ((i:Int)≤(s.length:Int))=true:=decide_eq_true (by omega)
    have hx:s[i].toNat≤255:=by have:=s[i].toNat_lt;omega
    by_cases c34:s[i].toNat=34
    ·have HN:=hid (HRL.out.quote hlt (UInt8.toNat_inj.1 c34))
     have ddeq34:(((s[i].toNat:Nat):Int)==34)=true:=by simp;omega
     have ddne44:(((s[i].toNat:Nat):Int) != 44)=true:=by simp;omega
     clear c34
     go_wp2_with fail
     exact ⟨⟨i+1,b,!q,l,by go_num,rfl,rfl,HN.out,by omega,hG,HO.out⟩,by simp [intOf];omega⟩
    ·have hne:s[i]≠34:=fun h=>c34 (by rw [h];rfl)
     have e34:((s[i].toNat:Int)==34)=false:=by simp;omega
     by_cases c44:s[i].toNat=44
     ·cases q with
      | true=>
        have HN:=hid (HRL.out.next hlt hne (.inr rfl))
        have ddne44:(((s[i].toNat:Nat):Int) != 44)=false:=by simp;omega
        clear c44 c34 hne
        go_wp2_with fail
        exact ⟨⟨i+1,b,true,l,by go_num,rfl,rfl,HN.out,by omega,hG,HO.out⟩,by simp [intOf];omega⟩
      | false=>
        have HP:=hid (HRL.out.part (.inl ⟨hlt,fun _=>UInt8.toNat_inj.1 c44,rfl⟩))
        have ddne44:(((s[i].toNat:Nat):Int) != 44)=false:=by simp;omega
        clear c44 c34 hne
        obtain ⟨cur,hcur⟩:∃cur,cur=(s.drop b).take (i-b):=⟨_,rfl⟩
        have hcl:cur.length≤s.length:=by rw [hcur,List.length_take,List.length_drop];omega
        have hc2:List.take (i-b) (List.drop b s)=cur:=hcur.symm
        rw [hc2] at HP
        clear hcur HRL
        have htl:=trim_le cur
        go_upto_region 12 with (go_at_call 138;refine (trim_any cur _ (by omega)).mono ?_;rintro e w2 ⟨rfl,hG2⟩)
        clear hc2
        have hG:=Gr.tr hG hG2
        have HO:=hid (HO.out.gr hG2)
        by_cases ht:trim cur=[]
        ·have k1:(trim cur).isEmpty=true:=by rw [ht];rfl
         have HN:=hid (HP.out.2 l (addT_nil ht))
         clear ht
         go_wp2_with fail
         exact ⟨⟨i+1,i+1,_,l,by go_num,by go_num,rfl,HN.out,by omega,hG,HO.out⟩,by simp [intOf];omega⟩
        ·have k1:(trim cur).isEmpty=false:=trim_isEmpty_no ht
         have HTP:=hid (fun (w:World)=>tagParse_any (trim cur) w (by omega))
         rw [tagP_trim] at HTP
         cases hp:tagP cur with
         | none=>
           rw [hp] at HTP
           rw [show tagV none=.tuple #[.agg #[str [],.bool false],.int .i64 2] from rfl] at HTP
           have HN:=hid (HB.out (HP.out.1 (addT_none ht hp)))
           clear ht hp
           go_wp2_with (go_at_call 77;refine (HTP.out _).mono ?_;rintro e w3 ⟨rfl,hG3⟩)
           refine bodyPost_ret (v:=.tuple #[.slice none 0 0,.bool false,.int .i64 2]) (by simp [results,Tryz.results203,go_sem]) rfl ?_
           rw [HN.out]
           exact ⟨_,rfl,Tags.nil _,Gr.al (Gr.tr hG hG3) _,fresh_nil _⟩
         | some t=>
           rw [hp] at HTP
           obtain ⟨tx,tk⟩:=t
           rw [show tagV (some (tx,tk))=.tuple #[.agg #[str tx,.bool tk],.int .i64 0] from rfl] at HTP
           have HN:=hid (HP.out.2 _ (addT_some ht hp))
           clear ht hp
           go_upto_region 14 with (go_at_call 77;refine (HTP.out _).mono ?_;rintro e w3 ⟨rfl,hG3⟩)
           obtain ⟨hGb,cf0,cf1⟩:=box2 w3 (str tx) (.bool tk) 25
           have hG:=Gr.tr hG (Gr.tr hG3 hGb)
           have HO:=hid (HO.out.gr (Gr.tr hG3 hGb))
           generalize w3.alloc (Obj.cells #[str tx,.bool tk] 25)=w4 at *
           clear hGb hG3 hG2
           go_wp2_with (at_builtin;refine wpList_app1 elemTag rfl _ _ rfl rfl rfl hG HO.out rfl (one_tag _ _) (by omega) (by omega) ?_;intro v' w' hown' hG')
           exact ⟨⟨i+1,i+1,_,l++[(tx,tk)],by go_num,by go_num,rfl,HN.out,by simp;omega,hG',by rw [tagCs_app,List.length_append];exact hown'⟩,by simp [intOf];omega⟩
     ·have HN:=hid (HRL.out.next hlt hne (.inl (fun h=>c44 (by rw [h];rfl))))
      have e44:((s[i].toNat:Int) != 44)=true:=by simp;omega
      clear c44 c34 hne
      go_wp2_with fail
      exact ⟨⟨i+1,b,q,l,by go_num,rfl,rfl,HN.out,by omega,hG,HO.out⟩,by simp [intOf];omega⟩
   ·by_cases hend:i=s.length
    ·have HP:=hid (HRL.out.part (.inr hend))
     have d1:decide ((i:Int)≤(s.length:Int))=true:=decide_eq_true (by omega)
     have d2:decide ((i:Int) < (s.length:Int))=false:=decide_eq_false (by omega)
     have hlt':i≤s.length:=by omega
     clear hend
     obtain ⟨cur,hcur⟩:∃cur,cur=(s.drop b).take (i-b):=⟨_,rfl⟩
     have hcl:cur.length≤s.length:=by rw [hcur,List.length_take,List.length_drop];omega
     have hc2:List.take (i-b) (List.drop b s)=cur:=hcur.symm
     rw [hc2] at HP
     clear hcur HRL
     have htl:=trim_le cur
     go_upto_region 12 with (go_at_call 138;refine (trim_any cur _ (by omega)).mono ?_;rintro e w2 ⟨rfl,hG2⟩)
     clear hc2
     have hG:=Gr.tr hG hG2
     have HO:=hid (HO.out.gr hG2)
     by_cases ht:trim cur=[]
     ·have k1:(trim cur).isEmpty=true:=by rw [ht];rfl
      have HN:=hid (HP.out.2 l (addT_nil ht))
      clear ht
      go_wp2_with fail
      exact ⟨⟨i+1,i+1,_,l,by go_num,by go_num,rfl,HN.out,by omega,hG,HO.out⟩,by simp [intOf];omega⟩
     ·have k1:(trim cur).isEmpty=false:=trim_isEmpty_no ht
      have HTP:=hid (fun (w:World)=>tagParse_any (trim cur) w (by omega))
      rw [tagP_trim] at HTP
      cases hp:tagP cur with
      | none=>
        rw [hp] at HTP
        rw [show tagV none=.tuple #[.agg #[str [],.bool false],.int .i64 2] from rfl] at HTP
        have HN:=hid (HB.out (HP.out.1 (addT_none ht hp)))
        clear ht hp
        go_wp2_with (go_at_call 77;refine (HTP.out _).mono ?_;rintro e w3 ⟨rfl,hG3⟩)
        refine bodyPost_ret (v:=.tuple #[.slice none 0 0,.bool false,.int .i64 2]) (by simp [results,Tryz.results203,go_sem]) rfl ?_
        rw [HN.out]
        exact ⟨_,rfl,Tags.nil _,Gr.al (Gr.tr hG hG3) _,fresh_nil _⟩
      | some t=>
        rw [hp] at HTP
        obtain ⟨tx,tk⟩:=t
        rw [show tagV (some (tx,tk))=.tuple #[.agg #[str tx,.bool tk],.int .i64 0] from rfl] at HTP
        have HN:=hid (HP.out.2 _ (addT_some ht hp))
        clear ht hp
        go_upto_region 14 with (go_at_call 77;refine (HTP.out _).mono ?_;rintro e w3 ⟨rfl,hG3⟩)
        obtain ⟨hGb,cf0,cf1⟩:=box2 w3 (str tx) (.bool tk) 25
        have hG:=Gr.tr hG (Gr.tr hG3 hGb)
        have HO:=hid (HO.out.gr (Gr.tr hG3 hGb))
        generalize w3.alloc (Obj.cells #[str tx,.bool tk] 25)=w4 at *
        clear hGb hG3 hG2
        go_wp2_with (at_builtin;refine wpList_app1 elemTag rfl _ _ rfl rfl rfl hG HO.out rfl (one_tag _ _) (by omega) (by omega) ?_;intro v' w' hown' hG')
        exact ⟨⟨i+1,i+1,_,l++[(tx,tk)],by go_num,by go_num,rfl,HN.out,by simp;omega,hG',by rw [tagCs_app,List.length_append];exact hown'⟩,by simp [intOf];omega⟩
    ·have hG':G=some l:=by rcases HRL.out with h | h;omega;exact h.2.2
     have d1:decide ((i:Int)≤(s.length:Int))=false:=decide_eq_false (by omega)
     have HN:=hid (HS.out l hG')
     clear hG' HB HS HRL
     by_cases hl0:l=[]
     ·rw [if_pos hl0] at HN
      have hll:l.length=0:=by rw [hl0];rfl
      clear hl0
      go_wp2_with fail
      refine bodyPost_ret (v:=.tuple #[.slice none 0 0,.bool false,.int .i64 2]) (by simp [results,Tryz.results203,go_sem]) rfl ?_
      rw [HN.out]
      exact ⟨_,rfl,Tags.nil _,hG,fresh_nil _⟩
     ·rw [if_neg hl0] at HN
      have hll:0 < l.length:=List.length_pos_iff.2 hl0
      have k0:((l.length:Int)==0)=false:=by simp;omega
      clear hl0
      by_cases h64:64 < l.length
      ·rw [if_pos h64] at HN
       have k1:decide (64 < (l.length:Int))=true:=decide_eq_true (by omega)
       go_wp2_with fail
       refine bodyPost_ret (v:=.tuple #[.slice none 0 0,.bool false,.int .i64 4]) (by simp [results,Tryz.results203,go_sem]) rfl ?_
       rw [HN.out]
       exact ⟨_,rfl,Tags.nil _,hG,fresh_nil _⟩
      ·rw [if_neg h64] at HN
       have k1:decide (64 < (l.length:Int))=false:=decide_eq_false (by omega)
       go_wp2_with fail
       refine bodyPost_ret (v:=.tuple #[.slice A7 l.length c7,.bool false,.int .i64 0]) (by simp [results,Tryz.results203,go_sem]) rfl ?_
       rw [HN.out]
       exact ⟨_,rfl,own_tags HO.out,hG,fresh_own HO.out⟩
end Go.Proofs.YtflepnkpihfidaaGreatDoor
namespace Go.Proofs.YtflepnkpihfidaaGreatDoor
open Lib (hid)
open Go.RowKit
def ShortT (l:List TagT):Prop:=∀t∈l,t.1.length≤140737488355328
theorem textsT_bad {l:List TagT} {k:Nat} (hk:k < l.length) (h:tagB l[k].1=false):textsT l false=[]:=by
 unfold textsT
 simp only [Bool.false_eq_true,if_false]
 rw [if_neg]
 intro ha
 have:=(List.all_eq_true.1 ha) _ (List.getElem_mem hk)
 rw [h] at this;cases this
theorem textsT_good {l:List TagT} {k:Nat} (hk:¬k < l.length) (h:(l.take k).all (fun t=>tagB t.1)=true):textsT l false=joinT (l.take k):=by
 rw [List.take_of_length_le (by omega)] at h ⊢
 unfold textsT
 simp only [Bool.false_eq_true,if_false,h,if_true]
theorem joinT_succ (l:List TagT) (k:Nat) (h:k < l.length):joinT (l.take (k+1))=joinT (l.take k)++((if k=0 then [] else [44,32])++tagTxt l[k]):=by
 rw [take_snoc l k h,joinT_snoc]
 congr 2
 by_cases hk:k=0
 ·subst hk;simp
 ·rw [if_neg hk,if_neg]
  intro he
  have:=congrArg List.length he
  rw [List.length_take,List.length_nil] at this;omega
theorem joinT_take_len (l:List TagT) (k:Nat):(joinT (l.take k)).length≤k*106:=by
 have h1:=joinT_len (l.take k)
 have h2:(l.take k).length≤k:=List.length_take_le _ _
 have h3:(l.take k).length*106≤k*106:=Nat.mul_le_mul_right _ h2
 omega
theorem tagNe:(25:Nat)≠5:=by decide
set_option maxHeartbeats 4000000 in
set_option maxRecDepth 100000 in
theorem texts5_any (u:Value) (l:List TagT) (any:Bool) (w:World) (hu:Tags w u l) (hs:ShortT l) (_hl:l.length≤1000000) :
  Calls Tryz.prog 121 #[u,.bool any] w fun e w'=>e=.returned (str (textsT l any))∧Gr w w':=by
 cases any with
 | true=>
   go_enter Tryz.func121,Tryz.ntmps121
   go_wp2_with fail
   go_ret
   exact ⟨rfl,Gr.refl _⟩
 | false=>
   obtain ⟨A,c,rfl,hc,hx,hA⟩:=hu.open
   have HA:=hid hA;have HS:=hid hs;clear hA hu hs
   go_enter Tryz.func121,Tryz.ntmps121
   go_upto_region 4 with fail
   have hB0:=hid (bld_new w w (Gr.refl w))
   generalize w.alloc (.cells #[.pointer none,.slice none 0 0] 171)=wb at *
   generalize w.heap.size=bb at *
   go_wp2_with fail
   go_loopw [6,7,11] (fun x6 x7 i wr=>∃k:Nat,k≤l.length∧i=.int .i64 k∧Bld w wr bb (joinT (l.take k))∧(l.take k).all (fun t=>tagB t.1)=true) (fun _ _ i _=>l.length-(intOf i).toNat)
   case atStart=>exact ⟨0,Nat.zero_le _,rfl,hB0.out,rfl⟩
   case round=>
    clear hB0
    obtain ⟨k,hk,rfl,hB,hE⟩:=hrel
    have HB:=hid hB;clear hB
    have HE:=hid hE;clear hE
    have hG:=HB.out.2.1
    have hjl:=joinT_take_len l k
    by_cases hlt:k < l.length
    ·obtain ⟨b1,o1,rfl,hb1,p0,p1⟩:=HA.out k hlt
     have hsx:=HS.out _ (List.getElem_mem hlt)
     have p0:=Gr.cell hG p0;have p1:=Gr.cell hG p1
     have HR:=hid (fun (w:World)=>tagRight_any l[k].1 l[k].2 w (by omega))
     have HT:=hid (fun (w:World)=>tagText_any l[k] w (by omega))
     have htl:=tagTxt_len l[k]
     have hgb:bb≠wr.heap.size:=by
      obtain ⟨_,_,_,_,_,hb,_⟩:=HB.out
      have:=hb.lt;omega
     have HJ:=hid (joinT_succ l k hlt)
     have HBAD:=hid (fun h=>textsT_bad hlt h)
     have HALL:=hid (fun h=>all_take_succ (fun t:TagT=>tagB t.1) l k hlt HE.out h)
     clear HA HS
     go_upto_region 7 with fail
     have hbf:=Bk.new wr 25 #[str l[k].1,.bool l[k].2] (0,0)
     have hga:=Gr.al (Gr.refl wr) (.cells #[str l[k].1,.bool l[k].2] 25)
     have HB:=hid (HB.out.gr hga)
     generalize wr.alloc (Obj.cells #[str l[k].1,.bool l[k].2] 25)=wf at *
     clear p0 p1
     generalize wr.heap.size=gf at *
     have cf0:wf.cell? ⟨gf,0,none⟩=some (str l[k].1):=hbf.cell 0
     have cf1:wf.cell? ⟨gf,1,none⟩=some (.bool l[k].2):=hbf.cell 1
     generalize l[k]=t at *
     generalize joinT (l.take k)=J at *
     cases hr:tagB t.1 with
     | false=>
       rw [hr] at HR
       have HN:=hid (HBAD.out hr)
       clear hr
       go_wp2_with (go_at_call 56;refine (HR.out _).mono ?_;rintro e w1 ⟨rfl,hG1⟩)
       go_ret
       exact ⟨ret_str HN.out.symm,Gr.tr hG (Gr.tr hga hG1)⟩
     | true=>
       rw [hr] at HR
       have HN:=hid (HALL.out hr)
       clear hr
       by_cases hk0:k=0
       ·rw [if_pos hk0] at HJ
        subst hk0
        go_upto_region 11 with (go_at_call 56;refine (HR.out _).mono ?_;rintro e w1 ⟨rfl,hG1⟩;have HB1:=hid (HB.out.gr hG1);have cf0:=hG1.cell cf0;have cf1:=hG1.cell cf1)
        go_wp2_with (go_at_call 123;refine (HT.out _).mono ?_;rintro e w2 ⟨rfl,hG2⟩;have HB2:=hid (HB1.out.gr hG2))
        refine (writeString_any w _ bb _ _ HB2.out (by omega)).mono ?_
        rintro e w3 ⟨rfl,hB3,_⟩
        have HB3:=hid hB3;clear hB3
        go_wp2_with fail
        exact ⟨⟨1,by omega,rfl,by rw [HJ.out,List.nil_append];exact HB3.out,HN.out⟩,by simp [intOf];omega⟩
       ·rw [if_neg hk0] at HJ
        have d0:decide (0 < k)=true:=decide_eq_true (by omega)
        have hkp:0 < k:=by omega
        clear hk0
        go_upto_region 10 with (go_at_call 56;refine (HR.out _).mono ?_;rintro e w1 ⟨rfl,hG1⟩;have HB1:=hid (HB.out.gr hG1);have hbf:=hbf.gr hG1)
        clear cf0 cf1
        go_wp2_with fail
        refine (writeString_any w _ bb _ [44,32] HB1.out (by simp;omega)).mono ?_
        rintro e w2 ⟨rfl,hB2,hO2⟩
        have hbf2:=hO2 gf _ _ _ (Ne.symm hgb) tagNe hbf
        have cf0:w2.cell? ⟨gf,0,none⟩=some (str t.1):=hbf2.cell 0
        have cf1:w2.cell? ⟨gf,1,none⟩=some (.bool t.2):=hbf2.cell 1
        have HB2:=hid hB2
        clear hB2 hO2 hbf hbf2
        go_wp2_with (go_at_call 123;refine (HT.out _).mono ?_;rintro e w3 ⟨rfl,hG3⟩;have HB3:=hid (HB2.out.gr hG3))
        refine (writeString_any w _ bb _ _ HB3.out (by simp;omega)).mono ?_
        rintro e w4 ⟨rfl,hB4,_⟩
        have HB4:=hid hB4;clear hB4
        go_wp2_with fail
        exact ⟨⟨k+1,by omega,by go_num,by rw [HJ.out,←List.append_assoc];exact HB4.out,HN.out⟩,by simp [intOf];omega⟩
    ·have HN:=hid (textsT_good hlt HE.out)
     go_wp2_with fail
     refine (string_any w _ bb _ HB.out).mono ?_
     rintro e w1 ⟨rfl,hG1⟩
     go_wp2_with fail
     go_ret
     exact ⟨ret_str HN.out.symm,hG1⟩
end Go.Proofs.YtflepnkpihfidaaGreatDoor
