/- Several texts in one (their own heads say what each is). No conditions but those that each theorem names. -/
import Derived.Test.YtgfckbhkgggkeaaGreatDoorJCond2
import Derived.Test.YtgfckbhkgggkeaaGreatDoorJField2
set_option linter.unusedVariables false
set_option linter.unusedSimpArgs false
/- XCond6 -/
namespace Go.Proofs.YtgfckbhkgggkeaaGreatDoor
open Lib (hid)
open Go.RowKit
end Go.Proofs.YtgfckbhkgggkeaaGreatDoor
/- XCond7 -/
namespace Go.Proofs.YtgfckbhkgggkeaaGreatDoor
open Lib (hid)
open Go.RowKit
end Go.Proofs.YtgfckbhkgggkeaaGreatDoor
/- XCond8 -/
namespace Go.Proofs.YtgfckbhkgggkeaaGreatDoor
open Lib (hid)
open Go.RowKit
def tagsN (l:List TagT):Nat:=(l.map fun t=>t.1.length).sum
theorem tagsN_succ (l:List TagT) (k:Nat) (h:k < l.length):tagsN (l.take (k+1))=tagsN (l.take k)+l[k].1.length:=by
 unfold tagsN;rw [take_snoc l k h];simp only [List.map_append,List.sum_append,List.map_cons,List.map_nil,List.sum_cons,List.sum_nil,Nat.add_zero]
theorem tagsN_take (l:List TagT) (k:Nat):tagsN (l.take k)≤tagsN l:=by
 have:tagsN l=tagsN (l.take k)+tagsN (l.drop k):=by
  unfold tagsN
  conv=>lhs;rw [←List.take_append_drop k l]
  simp only [List.map_append,List.sum_append]
 omega
theorem tagsN_at (l:List TagT) (k:Nat) (h:k < l.length):l[k].1.length≤tagsN l:=by
 have:=tagsN_take l (k+1)
 rw [tagsN_succ l k h] at this;omega
def fewB (c:CondT):Bool:=(decide (c.mt.length≤40)&&decide (c.no.length≤40))&&decide (c.rg.1.length+tagsN c.mt+tagsN c.no≤400)
theorem fewB_iff {c:CondT}:fewB c=true↔c.mt.length≤40∧c.no.length≤40∧c.rg.1.length+tagsN c.mt+tagsN c.no≤400:=by unfold fewB;simp [and_assoc]
theorem fewB_no {c:CondT} (h:¬(c.mt.length≤40∧c.no.length≤40∧c.rg.1.length+tagsN c.mt+tagsN c.no≤400)):fewB c=false:=by
 cases hb:fewB c with
 | false=>rfl
 | true=>exact absurd (fewB_iff.1 hb) h
set_option maxHeartbeats 8000000 in
set_option maxRecDepth 100000 in
theorem refFew_any (c:CondT) (vm vn:Value) (w:World) (hm:Tags w vm c.mt) (hn:Tags w vn c.no) (hs1:ShortT c.mt) (hs2:ShortT c.no) (hr:c.rg.1.length≤140737488355328) :
  Calls Tryz.prog 18 #[condV c vm vn] w fun e w'=>e=.returned (.bool (fewB c))∧Gr w w':=by
 have HFN:=hid (fun h=>fewB_no (c:=c) h)
 have HFI:=hid (fewB_iff (c:=c))
 generalize fewB c=fb at *
 obtain ⟨mt,no,am,an,si,un,rx,rk⟩:=c
 unfold condV
 simp only at hm hn hs1 hs2 hr HFN HFI ⊢
 obtain ⟨A1,c1,rfl,_,_,ho1⟩:=id hm.open
 obtain ⟨A2,c2,rfl,_,_,ho2⟩:=id hn.open
 have HO1:=hid ho1
 have HO2:=hid ho2
 have HS1:=hid hs1
 have HS2:=hid hs2
 clear hm hn hs1 hs2 ho1 ho2
 have hG1:=Gr.al (Gr.refl w) (.cells #[.slice A1 mt.length c1,.slice A2 no.length c2,.bool am,.bool an,.int .i64 si,.int .i64 un,str rx,.bool rk] 27)
 go_enter Tryz.func18,Tryz.ntmps18
 go_upto_region 3 with fail
 have hz:(w.alloc (.cells #[.slice A1 mt.length c1,.slice A2 no.length c2,.bool am,.bool an,.int .i64 si,.int .i64 un,str rx,.bool rk] 27)).heap.size=w.heap.size+1:=by simp only [World.alloc,Array.size_push]
 generalize w.alloc (.cells #[.slice A1 mt.length c1,.slice A2 no.length c2,.bool am,.bool an,.int .i64 si,.int .i64 un,str rx,.bool rk] 27)=w1 at *
 have hbr:=Bk.new w1 23 #[.slice A1 mt.length c1,.slice A2 no.length c2] (0,0)
 have hG2:=Gr.tr hG1 (Gr.al (Gr.refl w1) (Obj.cells #[.slice A1 mt.length c1,.slice A2 no.length c2] 23))
 have HG2:=hid hG2
 generalize w1.alloc (Obj.cells #[.slice A1 mt.length c1,.slice A2 no.length c2] 23)=w2 at *
 clear hG1 hG2
 simp only [hz] at hbr
 clear hz
 generalize w.heap.size+1=gr at *
 have HBR:=hid hbr
 clear hbr
 go_loopw [3,5,7,18] (fun n x5 x7 i wr=>∃k N:Nat,i=.int .i64 k∧n=.int .i64 N∧Gr w2 wr∧((k=0∧N=rx.length)∨(k=1∧N=rx.length+tagsN mt∧mt.length≤40∧N≤140737488400000)∨(k=2∧N=rx.length+tagsN mt+tagsN no∧mt.length≤40∧no.length≤40∧N≤140737488500000))) (fun _ _ _ i _=>2-(intOf i).toNat)
 case atStart=>exact ⟨0,rx.length,rfl,rfl,Gr.refl _,.inl ⟨rfl,rfl⟩⟩
 case round=>
  obtain ⟨k,N,rfl,rfl,hG,hk⟩:=hrel
  have hbk:=HBR.out.gr hG
  have q0:wr.cell? ⟨gr,0,none⟩=some (.slice A1 mt.length c1):=hbk.cell 0
  have q1:wr.cell? ⟨gr,1,none⟩=some (.slice A2 no.length c2):=hbk.cell 1
  clear hbk
  rcases hk with ⟨rfl,hN⟩ | ⟨rfl,hN,hm40,hNb⟩ | ⟨rfl,hN,hm40,hn40,hNb⟩
  ·have HNN:=hid hN
   by_cases h40:40 < mt.length
   ·have d1:decide (40 < (mt.length:Int))=true:=decide_eq_true (by omega)
    have HN:=hid (HFN.out (by omega))
    clear hN
    go_wp2_with fail
    go_ret
    exact ⟨ret_bool HN.out.symm,Gr.tr HG2.out hG⟩
   ·have d1:decide (40 < (mt.length:Int))=false:=decide_eq_false (by omega)
    have hNb:N≤140737488400000:=by omega
    clear hN
    go_upto_region 8 with fail
    go_loopw [3,7,27] (fun n x7 i wq=>∃j M:Nat,j≤mt.length∧i=.int .i64 j∧n=.int .i64 M∧Gr wr wq∧M=N+tagsN (mt.take j)∧M≤N+j*400) (fun _ _ i _=>mt.length-(intOf i).toNat)
    case atStart=>exact ⟨0,N,Nat.zero_le _,rfl,rfl,Gr.refl _,rfl,by omega⟩
    case round=>
     obtain ⟨j,M,hj,rfl,rfl,hGq,hM,hMb⟩:=hrel
     have HM:=hid hM
     clear hM
     by_cases hlt:j < mt.length
     ·obtain ⟨b1,o1,rfl,hb1,p0,p1⟩:=HO1.out j hlt
      have hsx:=HS1.out _ (List.getElem_mem hlt)
      have hgx:=Gr.tr HG2.out (Gr.tr hG hGq)
      have p0:=Gr.cell hgx p0;have p1:=Gr.cell hgx p1
      have HGa:=hid (Gr.al hGq (Obj.cells #[str mt[j].1,.bool mt[j].2] 25))
      have HSU:=hid (tagsN_succ mt j hlt)
      have HAT:=hid (tagsN_at mt j hlt)
      by_cases h4:400 < mt[j].1.length
      ·have d2:decide (400 < (mt[j].1.length:Int))=true:=decide_eq_true (by omega)
       have HN:=hid (HFN.out (by have:=HAT.out;omega))
       clear h4
       go_wp2_with fail
       go_ret
       exact ⟨ret_bool HN.out.symm,Gr.tr HG2.out (Gr.tr hG HGa.out)⟩
      ·have d2:decide (400 < (mt[j].1.length:Int))=false:=decide_eq_false (by omega)
       go_wp2_with fail
       exact ⟨⟨j+1,M+mt[j].1.length,by omega,by go_num,by go_num,HGa.out,by rw [HM.out,HSU.out];omega,by omega⟩,by simp [intOf];omega⟩
     ·have HTK:=hid (show tagsN (mt.take j)=tagsN mt from by rw [List.take_of_length_le (by omega)])
      go_wp2_with fail
      exact ⟨⟨1,M,rfl,rfl,Gr.tr hG hGq,.inr (.inl ⟨rfl,by rw [HM.out,HTK.out,HNN.out],by omega,by have:=HNN.out;omega⟩)⟩,by simp [intOf]⟩
  ·have HNN:=hid hN
   by_cases h40:40 < no.length
   ·have d1:decide (40 < (no.length:Int))=true:=decide_eq_true (by omega)
    have HN:=hid (HFN.out (by omega))
    clear hN
    go_wp2_with fail
    go_ret
    exact ⟨ret_bool HN.out.symm,Gr.tr HG2.out hG⟩
   ·have d1:decide (40 < (no.length:Int))=false:=decide_eq_false (by omega)
    have hNb:N≤140737488400000:=by omega
    clear hN
    go_upto_region 8 with fail
    go_loopw [3,7,27] (fun n x7 i wq=>∃j M:Nat,j≤no.length∧i=.int .i64 j∧n=.int .i64 M∧Gr wr wq∧M=N+tagsN (no.take j)∧M≤N+j*400) (fun _ _ i _=>no.length-(intOf i).toNat)
    case atStart=>exact ⟨0,N,Nat.zero_le _,rfl,rfl,Gr.refl _,rfl,by omega⟩
    case round=>
     obtain ⟨j,M,hj,rfl,rfl,hGq,hM,hMb⟩:=hrel
     have HM:=hid hM
     clear hM
     by_cases hlt:j < no.length
     ·obtain ⟨b1,o1,rfl,hb1,p0,p1⟩:=HO2.out j hlt
      have hsx:=HS2.out _ (List.getElem_mem hlt)
      have hgx:=Gr.tr HG2.out (Gr.tr hG hGq)
      have p0:=Gr.cell hgx p0;have p1:=Gr.cell hgx p1
      have HGa:=hid (Gr.al hGq (Obj.cells #[str no[j].1,.bool no[j].2] 25))
      have HSU:=hid (tagsN_succ no j hlt)
      have HAT:=hid (tagsN_at no j hlt)
      by_cases h4:400 < no[j].1.length
      ·have d2:decide (400 < (no[j].1.length:Int))=true:=decide_eq_true (by omega)
       have HN:=hid (HFN.out (by have:=HAT.out;omega))
       clear h4
       go_wp2_with fail
       go_ret
       exact ⟨ret_bool HN.out.symm,Gr.tr HG2.out (Gr.tr hG HGa.out)⟩
      ·have d2:decide (400 < (no[j].1.length:Int))=false:=decide_eq_false (by omega)
       go_wp2_with fail
       exact ⟨⟨j+1,M+no[j].1.length,by omega,by go_num,by go_num,HGa.out,by rw [HM.out,HSU.out];omega,by omega⟩,by simp [intOf];omega⟩
     ·have HTK:=hid (show tagsN (no.take j)=tagsN no from by rw [List.take_of_length_le (by omega)])
      go_wp2_with fail
      exact ⟨⟨2,M,rfl,rfl,Gr.tr hG hGq,.inr (.inr ⟨rfl,by rw [HM.out,HTK.out,HNN.out],hm40,by omega,by omega⟩)⟩,by simp [intOf]⟩
  ·have HN:=hid (show fb=decide (N≤400) from by
    by_cases h:N≤400
    ·rw [decide_eq_true h];exact HFI.out.2 ⟨hm40,hn40,by omega⟩
    ·rw [decide_eq_false h];exact HFN.out (by omega))
   clear hN
   go_wp2_with fail
   go_ret
   exact ⟨ret_bool (by rw [HN.out,decide_eq_decide];omega),Gr.tr HG2.out hG⟩
end Go.Proofs.YtgfckbhkgggkeaaGreatDoor
