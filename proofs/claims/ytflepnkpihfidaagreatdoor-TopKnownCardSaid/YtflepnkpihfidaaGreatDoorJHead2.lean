/- Parts. No conditions but those that each theorem names. -/
import Derived.Test.YtflepnkpihfidaaGreatDoorJHead1
import Derived.StillTailTactics
set_option linter.unusedVariables false
set_option linter.unusedSimpArgs false
namespace Go.Proofs.YtflepnkpihfidaaGreatDoor
open Lib (hid)
open Go.RowKit
end Go.Proofs.YtflepnkpihfidaaGreatDoor
namespace Go.Proofs.YtflepnkpihfidaaGreatDoor
open Lib (hid)
open Go.RowKit
end Go.Proofs.YtflepnkpihfidaaGreatDoor
namespace Go.Proofs.YtflepnkpihfidaaGreatDoor
open Lib (hid)
open Go.RowKit
set_option maxHeartbeats 1000000 in
theorem object_any (l:List UInt8) (w:World) (_hl:l.length≤9223372036854775000):Calls Tryz.prog 90 #[str l] w fun e w'=>e=.returned (.bool (objB l))∧Gr w w':=by
 by_cases h0:l.length < 1
 ·have hn:l=[]:=List.eq_nil_of_length_eq_zero (by omega)
  subst hn
  go_enter Tryz.func90,Tryz.ntmps90
  go_wp2_with fail
  go_ret
  exact ⟨rfl,Gr.refl _⟩
 ·have h0':0 < l.length:=by omega
  have d0:decide ((l.length:Int) < 1)=false:=decide_eq_false (by omega)
  clear h0
  by_cases h2:200 < l.length
  ·have HO:=hid (objB_long h2)
   have d2:decide (200 < (l.length:Int))=true:=decide_eq_true (by omega)
   go_enter Tryz.func90,Tryz.ntmps90
   go_wp2_with fail
   go_ret
   exact ⟨ret_bool HO.out.symm,Gr.refl _⟩
  ·have d2:decide (200 < (l.length:Int))=false:=decide_eq_false (by omega)
   by_cases h47:(l[0].toNat:Int)=47
   ·have HO:=hid (objB_rest h0' (by omega) h47)
    have hne:((l[0].toNat:Int) != 47)=false:=by simp [h47]
    clear h47
    go_enter Tryz.func90,Tryz.ntmps90
    go_wp2_with fail
    clear hne
    go_loop [19] (fun i=>∃k:Nat,k≤l.length∧i=.int .i64 k∧(l.take k).all objC=true) (fun i=>l.length-(intOf i).toNat)
    case atStart=>exact ⟨0,Nat.zero_le _,rfl,rfl⟩
    case round=>
     obtain ⟨k,hk,rfl,hE⟩:=hrel
     have HE:=hid hE;clear hE
     by_cases hlt:k < l.length
     ·have hx:(l[k].toNat:Int)≤255:=by have:=l[k].toNat_lt;omega
      by_cases h33:33≤(l[k].toNat:Int)
      ·by_cases h126:(l[k].toNat:Int)≤126
       ·have hc:=hid (objC_yes l[k] ⟨h33,h126⟩)
        have ddlt33:decide (((l[k].toNat:Nat):Int) < 33)=false:=decide_eq_false (by omega)
        have ddgt126:decide (126 < ((l[k].toNat:Nat):Int))=false:=decide_eq_false (by omega)
        go_wp2_with fail
        exact ⟨⟨k+1,by omega,by go_num,all_take_succ _ l k hlt HE.out hc.out⟩,by simp [intOf];omega⟩
       ·have hc:=hid (objC_no l[k] (fun h=>h126 h.2))
        have ddlt33:decide (((l[k].toNat:Nat):Int) < 33)=false:=decide_eq_false (by omega)
        have ddgt126:decide (126 < ((l[k].toNat:Nat):Int))=true:=decide_eq_true (by omega)
        go_wp2_with fail
        go_ret
        exact ⟨ret_bool (by rw [HO.out,all_no _ l k hlt hc.out]),Gr.refl _⟩
      ·have hc:=hid (objC_no l[k] (fun h=>h33 h.1))
       have ddlt33:decide (((l[k].toNat:Nat):Int) < 33)=true:=decide_eq_true (by omega)
       have ddgt126:decide (126 < ((l[k].toNat:Nat):Int))=false:=decide_eq_false (by omega)
       go_wp2_with fail
       go_ret
       exact ⟨ret_bool (by rw [HO.out,all_no _ l k hlt hc.out]),Gr.refl _⟩
     ·go_wp2_with fail
      go_ret
      exact ⟨ret_bool (by rw [HO.out,all_end _ l k hlt HE.out]),Gr.refl _⟩
   ·have HO:=hid (objB_first h0' h47)
    have hne:((l[0].toNat:Int) != 47)=true:=by simpa using h47
    go_enter Tryz.func90,Tryz.ntmps90
    go_wp2_with fail
    go_ret
    exact ⟨ret_bool HO.out.symm,Gr.refl _⟩
set_option maxHeartbeats 1000000 in
theorem refObject_any (l:List UInt8) (w:World) (_hl:l.length≤9223372036854775000):Calls Tryz.prog 36 #[str l] w fun e w'=>e=.returned (.bool (objB l))∧Gr w w':=by
 by_cases h0:l.length < 1
 ·have hn:l=[]:=List.eq_nil_of_length_eq_zero (by omega)
  subst hn
  go_enter Tryz.func36,Tryz.ntmps36
  go_wp2_with fail
  go_ret
  exact ⟨rfl,Gr.refl _⟩
 ·have h0':0 < l.length:=by omega
  have d0:decide ((l.length:Int) < 1)=false:=decide_eq_false (by omega)
  clear h0
  by_cases h2:200 < l.length
  ·have HO:=hid (objB_long h2)
   have d2:decide (200 < (l.length:Int))=true:=decide_eq_true (by omega)
   go_enter Tryz.func36,Tryz.ntmps36
   go_wp2_with fail
   go_ret
   exact ⟨ret_bool HO.out.symm,Gr.refl _⟩
  ·have d2:decide (200 < (l.length:Int))=false:=decide_eq_false (by omega)
   by_cases h47:(l[0].toNat:Int)=47
   ·have HO:=hid (objB_rest h0' (by omega) h47)
    have hne:((l[0].toNat:Int) != 47)=false:=by simp [h47]
    clear h47
    go_enter Tryz.func36,Tryz.ntmps36
    go_wp2_with fail
    clear hne
    go_loop [3] (fun i=>∃k:Nat,k≤l.length∧i=.int .i64 k∧(l.take k).all objC=true) (fun i=>l.length-(intOf i).toNat)
    case atStart=>exact ⟨0,Nat.zero_le _,rfl,rfl⟩
    case round=>
     obtain ⟨k,hk,rfl,hE⟩:=hrel
     have HE:=hid hE;clear hE
     by_cases hlt:k < l.length
     ·have hx:(l[k].toNat:Int)≤255:=by have:=l[k].toNat_lt;omega
      by_cases h33:33≤(l[k].toNat:Int)
      ·by_cases h126:(l[k].toNat:Int)≤126
       ·have hc:=hid (objC_yes l[k] ⟨h33,h126⟩)
        have ddle32:decide (((l[k].toNat:Nat):Int)≤32)=false:=decide_eq_false (by omega)
        have ddgt126:decide (126 < ((l[k].toNat:Nat):Int))=false:=decide_eq_false (by omega)
        go_wp2_with fail
        exact ⟨⟨k+1,by omega,by go_num,all_take_succ _ l k hlt HE.out hc.out⟩,by simp [intOf];omega⟩
       ·have hc:=hid (objC_no l[k] (fun h=>h126 h.2))
        have ddle32:decide (((l[k].toNat:Nat):Int)≤32)=false:=decide_eq_false (by omega)
        have ddgt126:decide (126 < ((l[k].toNat:Nat):Int))=true:=decide_eq_true (by omega)
        go_wp2_with fail
        go_ret
        exact ⟨ret_bool (by rw [HO.out,all_no _ l k hlt hc.out]),Gr.refl _⟩
      ·have hc:=hid (objC_no l[k] (fun h=>h33 h.1))
       have ddle32:decide (((l[k].toNat:Nat):Int)≤32)=true:=decide_eq_true (by omega)
       have ddgt126:decide (126 < ((l[k].toNat:Nat):Int))=false:=decide_eq_false (by omega)
       go_wp2_with fail
       go_ret
       exact ⟨ret_bool (by rw [HO.out,all_no _ l k hlt hc.out]),Gr.refl _⟩
     ·go_wp2_with fail
      go_ret
      exact ⟨ret_bool (by rw [HO.out,all_end _ l k hlt HE.out]),Gr.refl _⟩
   ·have HO:=hid (objB_first h0' h47)
    have hne:((l[0].toNat:Int) != 47)=true:=by simpa using h47
    go_enter Tryz.func36,Tryz.ntmps36
    go_wp2_with fail
    go_ret
    exact ⟨ret_bool HO.out.symm,Gr.refl _⟩
set_option maxHeartbeats 1000000 in
theorem reason_any (n:Int) (w:World):Calls Tryz.prog 126 #[.int .i64 n] w fun e w'=>e=.returned (str (reason n))∧Gr w w':=by
 go_enter Tryz.func126,Tryz.ntmps126
 go_wp2_with fail
 all_goals go_ret
 all_goals refine ⟨ret_str ?_,Gr.refl _⟩
 all_goals (unfold reason;simp_all)
end Go.Proofs.YtflepnkpihfidaaGreatDoor
namespace Go.Proofs.YtflepnkpihfidaaGreatDoor
open Lib (hid)
open Go.RowKit
end Go.Proofs.YtflepnkpihfidaaGreatDoor
namespace Go.Proofs.YtflepnkpihfidaaGreatDoor
open Lib (hid)
open Go.RowKit
theorem cutS_any (l sep:List UInt8) (w:World) (hm:Ml w) (hl:l.length < 4294967281):Calls Tryz.prog 130 #[str l,str sep] w fun e w'=>e=.returned (.tuple #[str (Lib.cut l sep).1,str (Lib.cut l sep).2.1,.bool (Lib.cut l sep).2.2])∧Gr w w':=by
 obtain ⟨m,hm⟩:=hm
 exact (Tryz.strings_Cut ⟨l.toArray⟩ ⟨sep.toArray⟩ m w hl hm).mono fun _ _ ⟨h1,n,h2⟩=>⟨by rw [h1],by rw [h2];exact Gr.drN (Gr.refl w) n⟩
theorem cutSuf_any (s p:List UInt8) (w:World) (hs:s.length≤9223372036854775807):Calls Tryz.prog 131 #[str s,str p] w fun e w'=>e=.returned (.tuple #[str (Lib.trimSuffix s p),.bool (Lib.hasSuffix s p)])∧Gr w w':=
 (Tryz.strings_CutSuffix ⟨s.toArray⟩ ⟨p.toArray⟩ w hs).mono fun _ _ ⟨h1,h2⟩=>⟨by rw [h1],by rw [h2];exact Gr.refl _⟩
def asksB (m o:List UInt8) (st:Int):Bool:=(m==getB||m==headB)&&objB o&&(st==0)
set_option maxHeartbeats 2000000 in
theorem asks_any (m o:List UInt8) (st:Int) (A:Option Addr) (n c:Nat) (w:World) (ho:o.length≤9223372036854775000):Calls Tryz.prog 127 #[.agg #[str m,str o,.int .i64 st,.slice A n c]] w fun e w'=>e=.returned (.bool (asksB m o st))∧Gr w w':=by
 have hG1:=Gr.al (Gr.refl w) (Obj.cells #[str m,str o,.int .i64 st,.slice A n c] 123)
 have hb1:=Bk.new w 123 #[str m,str o,.int .i64 st,.slice A n c] (0,0)
 have HO:=hid (fun (w:World)=>object_any o w ho)
 have HA:=hid (show asksB m o st=((m==[71,69,84]||m==[72,69,65,68])&&objB o&&(st==0)) from rfl)
 cases h1:(m==[71,69,84]) <;> cases h2:(m==[72,69,65,68]) <;> cases h3:objB o <;> cases h4:(st==0)
 all_goals
  rw [h1,h2,h3,h4] at HA
  rw [h3] at HO
  go_enter Tryz.func127,Tryz.ntmps127
  go_upto_region 1 with fail
  generalize w.alloc (Obj.cells #[str m,str o,.int .i64 st,.slice A n c] 123)=w1 at *
  generalize w.heap.size=g at *
  obtain ⟨q0,q1,q2,q3⟩:=hb1.cells4
  go_wp2_with (go_at_call 90;refine (HO.out _).mono ?_;rintro e w2 ⟨rfl,hG2⟩;have q2:=Gr.cell hG2 q2)
  go_ret
 all_goals first
  | exact ⟨by rw [HA.out];rfl,hG1⟩
  | exact ⟨by rw [HA.out];rfl,Gr.tr hG1 hG2⟩
theorem askR_bad {s:List UInt8} {e:Nat} (h:firstL s=([],0,e)) (he:e≠0):askR s=(noHead,0,e):=by
 unfold askR;rw [h];simp [he]
theorem askR_none {s x:List UInt8} {n:Nat} (h:firstL s=(x,n,0)) (ht:askN x=none):askR s=(noHead,0,2):=by
 unfold askR;rw [h];simp [ht]
theorem askR_some {s x:List UInt8} {n:Nat} {p:List UInt8×List UInt8} (h:firstL s=(x,n,0)) (ht:askN x=some p):askR s=restL p.1 p.2 0 s n:=by
 unfold askR;rw [h];simp [ht]
theorem askP_suf {x:List UInt8} (h:Lib.hasSuffix (Lib.cut x [32]).2.1 (32::httpB)=false):askN x=none:=by
 rw [←askP_eq];unfold askP;simp only [h];rfl
theorem askP_bad {x:List UInt8} (h:asksB (Lib.cut x [32]).1 (Lib.trimSuffix (Lib.cut x [32]).2.1 (32::httpB)) 0=false):askN x=none:=by
 rw [←askP_eq];unfold askP;unfold asksB at h
 simp only [beq_self_eq_true,Bool.and_true] at h
 simp only [h,Bool.and_false];rfl
theorem askP_good {x:List UInt8} (h1:Lib.hasSuffix (Lib.cut x [32]).2.1 (32::httpB)=true) (h:asksB (Lib.cut x [32]).1 (Lib.trimSuffix (Lib.cut x [32]).2.1 (32::httpB)) 0=true):askN x=some ((Lib.cut x [32]).1,Lib.trimSuffix (Lib.cut x [32]).2.1 (32::httpB)):=by
 rw [←askP_eq];unfold askP;unfold asksB at h
 simp only [beq_self_eq_true,Bool.and_true] at h
 simp only [h,h1,Bool.and_true];rfl
theorem cut_len (x:List UInt8):(Lib.cut x [32]).1.length≤x.length∧(Lib.cut x [32]).2.1.length≤x.length:=by
 rw [cutB_lib]
 have:=cutB_spec 32 x
 cases h:cutB 32 x with
 | none=>simp
 | some p=>
   rw [h] at this
   have e:=congrArg List.length this.2.1
   simp at e;simp;omega
theorem trimSuf_len (x p:List UInt8):(Lib.trimSuffix x p).length≤x.length:=by
 unfold Lib.trimSuffix;split
 ·rw [List.length_take];omega
 ·exact Nat.le_refl _
set_option maxHeartbeats 4000000 in
set_option maxRecDepth 100000 in
theorem ask_any (v:Value) (s:List UInt8) (w:World) (hb:Byts w v s) (hm:Ml w) (hs:s.length < 4294967000):Calls Tryz.prog 65 #[v] w (HeadEnd w (askR s)):=by
 obtain ⟨A,c,rfl,hc,hm',ho⟩:=hb.open
 have HB:=hid hb;have HM:=hid hm;clear hb hm ho
 have HF:=hid (fun (w:World) (h:Byts w (.slice A s.length c) s) (h2:Ml w)=>first_any (.slice A s.length c) s w h h2 hs)
 go_enter Tryz.func65,Tryz.ntmps65
 go_upto_region 1 with fail
 have hb1:=hid (Bk.new w 123 #[str [],str [],.int .i64 0,.slice none 0 0] (0,0))
 have hG1:Gr w (w.alloc (Obj.cells #[str [],str [],.int .i64 0,.slice none 0 0] 123)):=Gr.al (Gr.refl w) _
 generalize hw1:w.alloc (Obj.cells #[str [],str [],.int .i64 0,.slice none 0 0] 123)=w1 at *
 clear hw1
 by_cases he:(firstL s).2.2=0
 ·obtain ⟨i,hcr,hi4,hfi⟩:=firstL_ok he
  have hlt:=crlf_lt hcr
  clear he
  have HFI:=hid hfi
  rw [hfi] at HF
  clear hfi hcr
  have hxl:(s.take i).length≤400:=by rw [List.length_take];omega
  have hins:i+2≤s.length:=by omega
  go_wp2_with (go_at_call 129;refine (HF.out _ (HB.out.gr hG1) (HM.out.gr hG1)).mono ?_;rintro e w2 ⟨rfl,hG2⟩)
  generalize s.take i=x at *
  have hG12:=Gr.tr hG1 hG2
  have hb2:=hid (hb1.out.gr hG2)
  have hcl:=cut_len x
  have HC:=hid (cutS_any x [32] w2 (HM.out.gr hG12) (by omega))
  have HQ:=hid (fun (w:World) (h:(Lib.cut x [32]).2.1.length≤400)=>cutSuf_any (Lib.cut x [32]).2.1 (32::httpB) w (by omega))
  have hrl:(Lib.cut x [32]).2.1.length≤400:=by omega
  have htl:=trimSuf_len (Lib.cut x [32]).2.1 (32::httpB)
  have HA:=hid (fun (w:World)=>asks_any (Lib.cut x [32]).1 (Lib.trimSuffix (Lib.cut x [32]).2.1 (32::httpB)) 0 none 0 0 w (by omega))
  have hn1:Hid (Lib.hasSuffix (Lib.cut x [32]).2.1 (32::httpB)=false→askN x=none):=askP_suf
  have hn2:Hid (asksB (Lib.cut x [32]).1 (Lib.trimSuffix (Lib.cut x [32]).2.1 (32::httpB)) 0=false→askN x=none):=askP_bad
  have hn3:Hid (Lib.hasSuffix (Lib.cut x [32]).2.1 (32::httpB)=true→asksB (Lib.cut x [32]).1 (Lib.trimSuffix (Lib.cut x [32]).2.1 (32::httpB)) 0=true→askN x=some ((Lib.cut x [32]).1,Lib.trimSuffix (Lib.cut x [32]).2.1 (32::httpB))):=askP_good
  generalize hct:Lib.cut x [32]=ct at *
  obtain ⟨m,r,okc⟩:=ct
  clear hct
  simp only at hcl hrl htl
  refine HC.out.mono ?_
  rintro e w3 ⟨rfl,hG3⟩
  go_wp2_with fail
  refine (HQ.out _ hrl).mono ?_
  rintro e w4 ⟨rfl,hG4⟩
  have hGw:=Gr.tr hG12 (Gr.tr hG3 hG4)
  have hb4:=hid (hb2.out.gr (Gr.tr hG3 hG4))
  clear HF hb1 hG1 hG2 hb2 HC HQ hG12 hG3 hG4
  have hb5:=hid (Bk.new w4 123 #[str m,str (Lib.trimSuffix r (32::httpB)),.int .i64 0,.slice none 0 0] (0,0))
  have hz4:w.heap.size < w4.heap.size:=hb4.out.lt
  go_upto_region 7 with fail
  have hGa:=Gr.al (Gr.refl w4) (Obj.cells #[str m,str (Lib.trimSuffix r (32::httpB)),.int .i64 0,.slice none 0 0] 123)
  generalize w4.alloc (Obj.cells #[str m,str (Lib.trimSuffix r (32::httpB)),.int .i64 0,.slice none 0 0] 123)=w5 at *
  have hGw5:=Gr.tr hGw hGa
  have hbr:=hid (hb4.out.gr hGa)
  generalize w4.heap.size=g at *
  clear hb4 hGa hGw
  cases hsf:Lib.hasSuffix r (32::httpB) with
  | false=>
    have HT:=hid (askR_none HFI.out (hn1.out hsf))
    clear hsf hn1 hn2 hn3
    obtain ⟨y0,y1,y2,y3⟩:=hbr.out.cells4;obtain ⟨d0,d1,d2,d3⟩:=hbr.out.free4
    go_wp2_with fail
    obtain ⟨x0,x1,x2,x3⟩:=(hbr.out.set4 (str []) (str []) (.int .i64 0) (.slice none 0 0)).cells4
    refine bodyPost_ret (v:=.tuple #[.agg #[str [],str [],.int .i64 0,.slice none 0 0],.int .i64 0,.int .i64 2]) (by simp [results,Tryz.results65,go_sem,x0,x1,x2,x3]) rfl ?_
    rw [HT.out]
    exact headEnd_none _ _ 2 (Gr.st4 hGw5 (Nat.le_refl _) _ _ _ _)
  | true=>
    obtain ⟨q0,q1,q2,q3⟩:=hb5.out.cells4
    cases hab:asksB m (Lib.trimSuffix r (32::httpB)) 0 with
    | false=>
      have HT:=hid (askR_none HFI.out (hn2.out hab))
      rw [hab] at HA
      clear hab hsf hn1 hn2 hn3
      go_wp2_with (go_at_call 127;refine (HA.out _).mono ?_;rintro e w6 ⟨rfl,hG6⟩;have hbr6:=hid (hbr.out.gr hG6);obtain ⟨y0,y1,y2,y3⟩:=hbr6.out.cells4;obtain ⟨d0,d1,d2,d3⟩:=hbr6.out.free4)
      obtain ⟨x0,x1,x2,x3⟩:=(hbr6.out.set4 (str []) (str []) (.int .i64 0) (.slice none 0 0)).cells4
      refine bodyPost_ret (v:=.tuple #[.agg #[str [],str [],.int .i64 0,.slice none 0 0],.int .i64 0,.int .i64 2]) (by simp [results,Tryz.results65,go_sem,x0,x1,x2,x3]) rfl ?_
      rw [HT.out]
      exact headEnd_none _ _ 2 (Gr.st4 (Gr.tr hGw5 hG6) (Nat.le_refl _) _ _ _ _)
    | true=>
      have HT:=hid (askR_some HFI.out (hn3.out hsf hab))
      rw [hab] at HA
      clear hab hsf hn1 hn2 hn3
      generalize Lib.trimSuffix r (32::httpB)=o at *
      go_wp2_with (go_at_call 127;refine (HA.out _).mono ?_;rintro e w6 ⟨rfl,hG6⟩;have hbr6:=hid (hbr.out.gr hG6);obtain ⟨u0,u1,u2,u3⟩:=(hb5.out.gr hG6).cells4)
      have hGw6:=Gr.tr hGw5 hG6
      refine (fill_any m o 0 (.slice A s.length c) s (i+2) w6 (HB.out.gr hGw6) (HM.out.gr hGw6) hins hs).mono ?_
      rintro e w7 ⟨A7,c7,rfl,hf7,hG7,hr7⟩
      have hbr7:=hid (hbr6.out.gr hG7)
      have HN7:=hid (fresh_ne hr7 hbr6.out.lt)
      have HF7:=hid hf7
      have HR7:=hid (Fresh.tr hGw6 hr7)
      obtain ⟨y0,y1,y2,y3⟩:=hbr7.out.cells4
      obtain ⟨d0,d1,d2,d3⟩:=hbr7.out.free4
      clear hf7 hr7 hbr6 u0 u1 u2 u3 q0 q1 q2 q3 HA
      rw [←show askR s=restL m o 0 s (i+2) from HT.out] at HF7 HN7 HR7 ⊢
      generalize askR s=T at *
      go_wp2_with fail
      obtain ⟨x0,x1,x2,x3⟩:=(hbr7.out.set4 (str T.1.1) (str T.1.2.1) (.int .i64 T.1.2.2.1) (.slice A7 T.1.2.2.2.length c7)).cells4
      refine bodyPost_ret (v:=.tuple #[.agg #[str T.1.1,str T.1.2.1,.int .i64 T.1.2.2.1,.slice A7 T.1.2.2.2.length c7],.int .i64 T.2.1,.int .i64 T.2.2]) (by simp [results,Tryz.results65,go_sem,x0,x1,x2,x3]) rfl ?_
      exact ⟨A7,c7,rfl,HF7.out.st4 HN7.out _ _ _ _,Gr.st4 (Gr.tr hGw6 hG7) (Nat.le_refl _) _ _ _ _,HR7.out⟩
 ·have hfi:=firstL_bad rfl he
  have HT:=hid (askR_bad hfi he)
  rw [hfi] at HF
  have hne:(((firstL s).2.2:Int) != 0)=true:=by simp;exact he
  generalize (firstL s).2.2=en at *
  clear he hfi
  go_wp2_with (go_at_call 129;refine (HF.out _ (HB.out.gr hG1) (HM.out.gr hG1)).mono ?_;rintro e w2 ⟨rfl,hG2⟩;have hb2:=hid (hb1.out.gr hG2);obtain ⟨y0,y1,y2,y3⟩:=hb2.out.cells4;obtain ⟨d0,d1,d2,d3⟩:=hb2.out.free4)
  obtain ⟨x0,x1,x2,x3⟩:=(hb2.out.set4 (str []) (str []) (.int .i64 0) (.slice none 0 0)).cells4
  refine bodyPost_ret (v:=.tuple #[.agg #[str [],str [],.int .i64 0,.slice none 0 0],.int .i64 0,.int .i64 en]) (by simp [results,Tryz.results65,go_sem,x0,x1,x2,x3]) rfl ?_
  rw [HT.out]
  exact headEnd_none _ _ _ (Gr.st4 (Gr.tr hG1 hG2) (Nat.le_refl _) _ _ _ _)
end Go.Proofs.YtflepnkpihfidaaGreatDoor
namespace Go.Proofs.YtflepnkpihfidaaGreatDoor
open Lib (hid)
open Go.RowKit
end Go.Proofs.YtflepnkpihfidaaGreatDoor
