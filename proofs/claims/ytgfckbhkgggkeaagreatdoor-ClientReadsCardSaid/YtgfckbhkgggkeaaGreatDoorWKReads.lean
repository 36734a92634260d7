/- Layer 16's law on answers that come in pieces: the walk. Conditions: the library's own variables hold what their types allow; lengths that memory holds. -/
import Derived.Test.YtgfckbhkgggkeaaGreatDoorJClC
import Derived.Test.YtgfckbhkgggkeaaGreatDoorJClE
set_option linter.unusedVariables false
set_option linter.unusedSimpArgs false
namespace Go.Proofs.YtgfckbhkgggkeaaGreatDoor.lkreads
open Lib (hid)
open Go.RowKit
theorem now_sz (asked l:List UInt8):(nowL asked l).sz≤l.length:=by
 have:=fold_sz asked l (.head [])
 simpa [ClS.sz,nowL] using this
theorem few_fold (asked:List UInt8):∀(l:List UInt8) (s:ClS),(∀H,s.hd?=some H→H.fs.length≤100)→∀H,(l.foldl (clByte asked) s).hd?=some H→H.fs.length≤100
 | [],_,h=>h
 | c::l,s,h=>by
   refine few_fold asked l (clByte asked s c) ?_
   cases s with
   | bad0=>exact h
   | bad1 hh b=>exact h
   | body hh fr b=>
     intro H hH
     have e:H=hh:=by
      have h2:(bodyB1 hh fr b c).hd?=some H:=hH
      unfold bodyB1 at h2
      repeat (first | split at h2 | (simp only [ClS.hd?,Option.some.injEq] at h2;exact h2.symm))
     rw [e];exact h hh rfl
   | head raw=>
     intro H hH
     rw [clByte_head] at hH
     split at hH
     ·cases hH
     ·split at hH
      ·rcases heed_cases asked (tellR (raw++[c])).1.2.2.1 (tellR (raw++[c])).1.2.2.2 with h2 | ⟨h2,fr,h3,h4⟩
       ·rw [h2] at hH;cases hH
       ·rw [h3] at hH
        obtain rfl:h2=H:=by simpa [ClS.hd?] using hH
        rw [h4];exact (tell_right _).2
      ·cases hH
theorem few_now (asked l:List UInt8) (H:ClH) (h:(nowL asked l).hd?=some H):H.fs.length≤1000000:=Nat.le_trans (few_fold asked l (.head []) (fun H h=>by cases h) H h) (by decide)
theorem rd_wrong {W0 w:World} {g:Nat} {S:List Nat} {fin:Bool} {s:ClS} (h:RdR W0 w g S fin s):w.cell? ⟨g,0,none⟩=some (.int .i64 (if s.wrong then 2 else 0)):=by
 have ha:=h.at_
 cases s with
 | head raw=>exact Bk.cell ha 0
 | bad0=>obtain ⟨_,_,_,_,_,_,_,_,_,_,_,_,_,h2⟩:=ha;exact h2.cell 0
 | body hh fr b=>obtain ⟨_,_,_,_,_,h2,_⟩:=ha;exact h2.bk.cell 0
 | bad1 hh b=>obtain ⟨_,_,_,_,_,_,h2⟩:=ha;exact h2.bk.cell 0
theorem ends_wrong {s:ClS} (h:s.wrong=true):s.ends=2:=by cases s <;> first | rfl | cases h
theorem small_le {l:List (List UInt8)} (h:smallL l=true):l.flatten.length≤600:=by
 unfold smallL at h
 simp only [Bool.and_eq_true,decide_eq_true_eq] at h
 exact h.1
set_option maxHeartbeats 32000000 in
set_option maxRecDepth 100000 in
theorem walk (q:ReqT) (vs vm vn:Value) (u:Value) (pl:List (List UInt8)) (w:World) (hv:Vars w) (ha:ReqA w q vs vm vn) (hl:ReqLow q) (hb:Bods w u pl) (hs:∀x∈pl,x.length≤140737488355328) :
  Calls Tryz.prog 4 #[reqV q vs vm vn,u] w fun e w'=>e=.returned (.bool true)∧Gr w w':=by
 obtain ⟨Au,cu,rfl,hcu,hmu,ho⟩:=id hb.open
 have HO:=hid ho
 clear ho
 have HFW:=hid (fun (x:World) (g:Gr w x)=>refFew16_any q vs vm vn x (ha.gr g) hl)
 have HRT:=hid (fun (x:World) (g:Gr w x) (h1:q.2.2.2.mt.length≤1000000) (h2:q.2.2.2.no.length≤1000000)=>refRight16_any q vs vm vn x (ha.gr g) hl h1 h2)
 have HNW:=hid (fun (h1:q.2.2.2.mt.length≤1000000) (h2:q.2.2.2.no.length≤1000000) (W0:World) (g0:Gr w W0) (x:World) (g:Gr W0 x)=>(show Calls Tryz.prog 10 #[reqV q vs vm vn] x (fun e w'=>Gr x w'∧if reqC q then ∃g,e=.returned (.tuple #[.pointer (some ⟨g,0,none⟩),.int .i64 0])∧ClR W0 w' g [g] (if q.1 then headB else getB) false false (.head [])∧x.heap.size≤g else e=.returned (.tuple #[.pointer none,.int .i64 1])) from kNew_any W0 x g q vs vm vn (ha.gr (Gr.tr g0 g)) hl h1 h2))
 have HLN:=hid (show fewC q=true→q.2.2.2.mt.length≤1000000∧q.2.2.2.no.length≤1000000 from fun h=>by
  unfold fewC at h
  simp only [Bool.and_eq_true] at h
  have:=fewB_iff.1 h.2
  omega)
 have HAW:=hid (fun (x:World) (g:Gr w x)=>awake16_any x (hv.gr g))
 have HY:=hid hb
 have HSM:=hid (fun (x:World) (g:Gr w x)=>small16_any _ pl x (hb.gr g) hs)
 have HV:=hid hv
 obtain ⟨hs1,hm,hn⟩:=ha
 obtain ⟨A1,a1,rfl,_,_,_⟩:=id hs1.open
 obtain ⟨A2,a2,rfl,_,_,_⟩:=id hm.open
 obtain ⟨A3,a3,rfl,_,_,_⟩:=id hn.open
 generalize fewC q=F at *
 generalize reqC q=R at *
 obtain ⟨hd,o,ls,mt,no,am,an,si,un,rx,rk⟩:=q
 clear hs1 hm hn hl hv hb hs
 unfold reqV at *
 simp only at *
 generalize hask:(if hd then headB else getB)=asked at *
 have HASK:=hid hask.symm
 clear hask
 have hbr:=Bk.new w 29 #[.bool hd,str o,.slice A1 ls.length a1,.slice A2 mt.length a2,.slice A3 no.length a3,.bool am,.bool an,.int .i64 si,.int .i64 un,str rx,.bool rk] (0,0)
 have hG0:=Gr.al (Gr.refl w) (Obj.cells #[.bool hd,str o,.slice A1 ls.length a1,.slice A2 mt.length a2,.slice A3 no.length a3,.bool am,.bool an,.int .i64 si,.int .i64 un,str rx,.bool rk] 29)
 go_enter Tryz.func4,Tryz.ntmps4
 go_upto_region 1 with fail
 generalize w.alloc (Obj.cells #[.bool hd,str o,.slice A1 ls.length a1,.slice A2 mt.length a2,.slice A3 no.length a3,.bool am,.bool an,.int .i64 si,.int .i64 un,str rx,.bool rk] 29)=w0 at *
 generalize w.heap.size=g at *
 have r0:∀x,Gr w0 x→x.cell? ⟨g,0,none⟩=some (.bool hd):=fun x h=>(hbr.gr h).cell 0
 have r1:∀x,Gr w0 x→x.cell? ⟨g,1,none⟩=some (str o):=fun x h=>(hbr.gr h).cell 1
 have r2:∀x,Gr w0 x→x.cell? ⟨g,2,none⟩=some (.slice A1 ls.length a1):=fun x h=>(hbr.gr h).cell 2
 have r3:∀x,Gr w0 x→x.cell? ⟨g,3,none⟩=some (.slice A2 mt.length a2):=fun x h=>(hbr.gr h).cell 3
 have r4:∀x,Gr w0 x→x.cell? ⟨g,4,none⟩=some (.slice A3 no.length a3):=fun x h=>(hbr.gr h).cell 4
 have r5:∀x,Gr w0 x→x.cell? ⟨g,5,none⟩=some (.bool am):=fun x h=>(hbr.gr h).cell 5
 have r6:∀x,Gr w0 x→x.cell? ⟨g,6,none⟩=some (.bool an):=fun x h=>(hbr.gr h).cell 6
 have r7:∀x,Gr w0 x→x.cell? ⟨g,7,none⟩=some (.int .i64 si):=fun x h=>(hbr.gr h).cell 7
 have r8:∀x,Gr w0 x→x.cell? ⟨g,8,none⟩=some (.int .i64 un):=fun x h=>(hbr.gr h).cell 8
 have r9:∀x,Gr w0 x→x.cell? ⟨g,9,none⟩=some (str rx):=fun x h=>(hbr.gr h).cell 9
 have r10:∀x,Gr w0 x→x.cell? ⟨g,10,none⟩=some (.bool rk):=fun x h=>(hbr.gr h).cell 10
 have h00:Gr w0 w0:=Gr.refl w0
 have HG0:=hid hG0
 clear hbr hG0
 have HSL:=hid (fun (h:smallL pl=true)=>small_le h)
 generalize smallL pl=SM at *
 cases SM with
 | false=>
   go_wp2_with (first | (go_at_call 16;refine (HSM.out _ HG0.out).mono ?_;rintro e w1 ⟨rfl,h01⟩;have HG1:=hid (Gr.tr HG0.out h01)) | (go_at_call 7;refine (HAW.out _ HG1.out).mono ?_;rintro e wz ⟨rfl,hgz⟩))
   go_ret
   exact ⟨rfl,Gr.tr HG1.out hgz⟩
 | true=>
   have h600:=HSL.out rfl
   cases F with
   | false=>
     go_wp2_with (first | (go_at_call 16;refine (HSM.out _ HG0.out).mono ?_;rintro e w1 ⟨rfl,h01⟩;have HG1:=hid (Gr.tr HG0.out h01)) | (go_at_call 5;refine (HFW.out _ HG1.out).mono ?_;rintro e w2 ⟨rfl,hg2⟩;have HG2:=hid (Gr.tr HG1.out hg2)) | (go_at_call 7;refine (HAW.out _ HG2.out).mono ?_;rintro e wz ⟨rfl,hgz⟩))
     go_ret
     exact ⟨rfl,Gr.tr HG2.out hgz⟩
   | true=>
     obtain ⟨l1,l2⟩:=HLN.out rfl
     have HNQ:=hid (HNW.out l1 l2 w0 HG0.out)
     clear HLN HNW HSL
     go_upto_region 3 with (first | (go_at_call 16;refine (HSM.out _ HG0.out).mono ?_;rintro e w1 ⟨rfl,h01⟩;have HG1:=hid (Gr.tr HG0.out h01)) | (go_at_call 5;refine (HFW.out _ HG1.out).mono ?_;rintro e w2 ⟨rfl,hg2⟩;have HG2:=hid (Gr.tr HG1.out hg2)))
     have h02:=Gr.tr h01 hg2
     have HW2:=hid h02
     clear HG1 h01 hg2 HSM HFW
     cases R with
     | false=>
       have HNF:=hid (show Calls Tryz.prog 10 _ w2 (fun e w'=>Gr w2 w'∧e=.returned (.tuple #[.pointer none,.int .i64 1])) from (HNQ.out w2 HW2.out).mono (fun e w' hh=>⟨hh.1,by have h2:=hh.2;rw [if_neg (by decide)] at h2;exact h2⟩))
       go_upto_region 4 with (go_at_call 10;refine HNF.out.mono ?_;rintro e w3 ⟨hg3,rfl⟩)
       have h03:=Gr.tr h02 hg3
       have HG3:=hid (Gr.tr HG0.out h03)
       clear HNF HNQ
       go_wp2_with (first | (go_at_call 6;refine (HRT.out _ HG3.out l1 l2).mono ?_;rintro e w4 ⟨rfl,hg4⟩;have HG4:=hid (Gr.tr HG3.out hg4)) | (go_at_call 7;refine (HAW.out _ HG4.out).mono ?_;rintro e wz ⟨rfl,hgz⟩))
       go_ret
       exact ⟨rfl,Gr.tr HG4.out hgz⟩
     | true=>
       have HNT:=hid (show Calls Tryz.prog 10 _ w2 (fun e w'=>Gr w2 w'∧∃g,e=.returned (.tuple #[.pointer (some ⟨g,0,none⟩),.int .i64 0])∧ClR w0 w' g [g] asked false false (.head [])∧w2.heap.size≤g) from (HNQ.out w2 HW2.out).mono (fun e w' hh=>⟨hh.1,by have h2:=hh.2;rw [if_pos rfl] at h2;exact h2⟩))
       go_upto_region 4 with (go_at_call 10;refine HNT.out.mono ?_;rintro e w3 ⟨hg3,ga,rfl,hRa,hga⟩)
       have h03:=Gr.tr h02 hg3
       have HG3:=hid (Gr.tr HG0.out h03)
       clear HNT HNQ
       go_upto_region 9 with (go_at_call 6;refine (HRT.out _ HG3.out l1 l2).mono ?_;rintro e w4 ⟨rfl,hg4⟩)
       have h04:=Gr.tr h03 hg4
       have HG4:=hid (Gr.tr HG0.out h04)
       have HRa:=hid (hRa.gr hg4)
       clear hRa hg4 hg3 hga h02 h03 HG3 HG2 HRT HW2
       have HNO:=hid (fun (s:List UInt8) (x:World) (hs:s.length≤60000)=>now16_any hd asked HASK.out o rx A1 A2 A3 ls.length a1 mt.length a2 no.length a3 am an rk si un s x hs)
       go_upto_region 10 with (go_at_call 8;refine (HNO.out [] _ (by simp)).mono ?_;rintro e w5 ⟨hg5,gx5,Sx5,rfl,hX5⟩)
       have HX5:=hid hX5
       have HR5:=hid (HRa.out.gr hg5)
       have HD5:=hid (show ∀b∈[ga],b∉Sx5 from fun j hj hj2=>by have e1:j=ga:=(by simpa using hj);have h1:=HX5.out.lo j hj2;have h2:=HRa.out.hi ga (by simp);omega)
       have HGX:=hid (Gr.tr h04 hg5)
       have HW4:=hid h04
       clear hX5 hg5 h04 HRa
       go_wp2_with fail
       go_loopw [7,8,10,11,51] (fun x7 x8 x10 x11 i wr=>∃k:Nat,k≤pl.length∧i=.int .i64 k∧x7=str (pl.take k).flatten∧Gr w0 wr∧∃(gx:Nat) (Sx Sa:List Nat) (W1:World),x8=.pointer (some ⟨gx,0,none⟩)∧ClR w0 wr ga Sa asked false false (nowL asked (pl.take k).flatten)∧RdR W1 wr gx Sx false (nowL asked (pl.take k).flatten)∧Gr w0 W1∧(∀b∈Sa,b∉Sx)) (fun _ _ _ _ i _=>pl.length-(intOf i).toNat)
       case atStart=>exact ⟨0,Nat.zero_le _,rfl,rfl,HGX.out,gx5,Sx5,[ga],w4,rfl,HR5.out,HX5.out,HW4.out,HD5.out⟩
       case round=>
        obtain ⟨k,hk,rfl,rfl,hG,gxp,Sx,Sa,W1,rfl,hRa,hX,hW1,hdj⟩:=hrel
        have HR:=hid hRa
        have HX:=hid hX
        have HW1:=hid hW1
        have HDJ:=hid hdj
        have HG:=hid hG
        clear hRa hX hW1 hdj HX5 HR5 HD5 HGX
        have hfl:=flat_le pl k
        by_cases hlt:k < pl.length
        case pos=>
         obtain ⟨b1,o1,u1,rfl,c1,hy⟩:=HO.out k hlt
         have hgw:=Gr.tr HG0.out HG.out
         have c1:=Gr.cell hgw c1
         obtain ⟨A7,n7,rfl,-,-,-⟩:=id hy.open
         have tS:=(hy.gr hgw).toStr
         have HFS:=hid (flat_succ pl k hlt)
         have hfl2:=flat_le pl (k+1)
         rw [HFS.out,List.length_append] at hfl2
         have hb600:(pl.take k).flatten.length≤600:=by omega
         have hc600:pl[k].length≤600:=by omega
         have HSZ:=hid (now_sz asked (pl.take k).flatten)
         have HNX:=hid (show pl[k].foldl (clByte asked) (nowL asked (pl.take k).flatten)=nowL asked (pl.take (k+1)).flatten from by rw [HFS.out,now_app])
         have HTK:=hid (take_arg HR.out HG.out (HV.out.gr HG0.out) HG0.out hy (by have:=HSZ.out;omega))
         rw [HNX.out] at HTK
         have HSZ2:=hid (show (nowL asked (pl.take (k+1)).flatten).sz≤1200 from by have h1:=now_sz asked (pl.take (k+1)).flatten;have h2:(pl.take (k+1)).flatten.length≤1200:=(by rw [HFS.out,List.length_append];omega);omega)
         have HFW2:=hid (few_now asked (pl.take (k+1)).flatten)
         have HNO2:=hid (fun (x:World)=>HNO.out ((pl.take k).flatten++pl[k]) x (by rw [List.length_append];omega))
         rw [←HFS.out] at HNO2
         have hlo:=HR.out.lo
         have HLO:=hid (fun (j:Nat) (hj:j∈Sa)=>hlo j hj)
         generalize hs2:nowL asked (pl.take (k+1)).flatten=s2 at *
         have HS2:=hid hs2
         clear hs2
         rw [HFS.out] at HNO2
         clear hy HR HX HNX HSZ hlo HDJ HNO hfl2 hfl hgw
         generalize hT2:(pl.take (k+1)).flatten=T2 at *
         have HT2:=hid hT2
         clear hT2
         generalize (pl.take k).flatten=T at *
         generalize pl[k]=P at *
         obtain ⟨z,hz⟩:∃z:Int,(if s2.wrong=true then (2:Int) else 0)=z:=⟨_,rfl⟩
         have HZ:=hid hz
         clear hz
         go_upto_region 15 with (go_at_call 11;refine HTK.out.mono ?_;rintro e w6 ⟨he,S6,hR6,hP6⟩;rw [HZ.out] at he;subst he)
         have hg6:Gr w0 w6:=hP6.old HG.out HLO.out
         have HR6:=hid hR6
         have HG6:=hid hg6
         clear hR6 hP6 HTK tS c1 HLO HG
         go_upto_region 16 with (go_at_call 8;refine (HNO2.out _).mono ?_;rintro e w7 ⟨hg7,gx7,Sx7,rfl,hX7⟩)
         have HX7:=hid hX7
         have z0:=rd_wrong hX7
         rw [HZ.out] at z0
         have HR7:=hid (HR6.out.gr hg7)
         have HG7:=hid (Gr.tr HG6.out hg7)
         have HDJ7:=hid (show ∀b∈S6,b∉Sx7 from fun j hj hj2=>by have h1:=hX7.lo j hj2;have h2:=HR6.out.hi j hj;omega)
         have HSA:=hid (same16_any HR7.out HX7.out (HV.out.gr (Gr.tr HG0.out HG7.out)) (by have:=HSZ2.out;omega) HFW2.out)
         have HWH:=hid (fun (x:World) (hx:Gr w7 x)=>whole_any (HR7.out.gr hx))
         clear hX7 hg7 hg6 HNO2
         go_wp2_with (first
          | (go_at_call 17;refine HSA.out.mono ?_;rintro e w8 ⟨rfl,hg8⟩)
          | (go_at_call 13;refine (HWH.out _ hg8).mono ?_;rintro e w9 ⟨rfl,hg9⟩))
         have hg79:=Gr.tr hg8 hg9
         exact ⟨⟨k+1,by omega,by go_num,by rw [HT2.out,HFS.out],Gr.tr HG7.out hg79,gx7,Sx7,S6,w6,rfl,by rw [HT2.out,HS2.out];exact HR7.out.gr hg79,by rw [HT2.out,HS2.out];exact HX7.out.gr hg79,HG6.out,HDJ7.out⟩,by simp [intOf];omega⟩
        have hke:k=pl.length:=by omega
        subst hke
        rw [List.take_length] at HR HX
        clear HNO HO hfl hlt hk
        have HGW:=hid (Gr.tr HG0.out HG.out)
        have HSZ:=hid (show (nowL asked pl.flatten).sz≤600 from by have h1:=now_sz asked pl.flatten;omega)
        have HFE:=hid (few_now asked pl.flatten)
        generalize nowL asked pl.flatten=s1 at *
        clear r0 r1 r2 r3 r4 r5 r6 r7 r8 r9 r10 h600
        have HNS:=hid (show ∀b∈Sx,b∉Sa from fun b h1 h2=>HDJ.out b h2 h1)
        have HLS:=hid (show ∀b∈Sa,w0.heap.size≤b from HR.out.lo)
        have HLX:=hid (show ∀b∈Sx,w0.heap.size≤b from fun b h1=>Nat.le_trans HW1.out.size (HX.out.lo b h1))
        have kc:=fun (w:World) (C:Array Value) (n c:Nat)=>Lib.run_convert_bytes_const (P:=Tryz.prog) w 30 5 C n c Tryz.underlying30 Tryz.underlying5
        cases hw:s1.wrong with
        | true=>
          have z0:=rd_wrong HX.out
          rw [if_pos hw] at z0
          have HEN:=hid (ends_wrong hw)
          have HWT:=hid hw
          have HE1:=hid (show Calls Tryz.prog 12 #[.pointer (some ⟨ga,0,none⟩)] wr (fun e w'=>e=.returned (.int .i64 2)∧ClR w0 w' ga Sa asked false false s1∧Stp wr Sa w' Sa) from (end_any w0 wr ga Sa asked s1 HR.out HG.out (HV.out.gr HG0.out) (by have:=HSZ.out;omega)).mono (fun e w' hh=>⟨by rw [hh.1,HEN.out];rfl,by have h2:=hh.2.1;rw [HEN.out,HWT.out] at h2;exact h2,hh.2.2⟩))
          clear hw
          go_upto_region 24 with (first
           | (go_at_call 12;refine HE1.out.mono ?_;rintro e w6 ⟨rfl,hR6,hP6⟩;have HR6:=hid hR6;have HX6:=hid (HX.out.stp hP6 HNS.out);have HG6:=hid (hP6.old HG.out HLS.out);have HW6:=hid (whole_any hR6);clear hR6 hP6)
           | (go_at_call 13;refine HW6.out.mono ?_;rintro e w7 ⟨rfl,hg7⟩;have HSA:=hid (same16_any (HR6.out.gr hg7) (HX6.out.gr hg7) (HV.out.gr (Gr.tr HG0.out (Gr.tr HG6.out hg7))) (by have:=HSZ.out;omega) HFE.out))
           | (go_at_call 17;refine HSA.out.mono ?_;rintro e w8 ⟨rfl,hg8⟩))
          have hg68:=Gr.tr hg7 hg8
          have HR8:=hid (HR6.out.gr hg68)
          have z8:=rd_wrong (HX6.out.gr hg68)
          rw [if_pos HWT.out] at z8
          have HG8:=hid (Gr.tr HG6.out hg68)
          clear HSA HW6 HE1 hg7 hg8 hg68 HR6 HX6 HX HR HG6 HG HGW z0
          go_upto_region 27 with fail
          have hGA:=Gr.al (Gr.refl w8) (Obj.cells #[.int .u8 120] 5 (1,2))
          have HTK:=hid (take_any w0 (w8.alloc (.cells #[.int .u8 120] 5 (1,2))) ga (w8.heap.size+1) Sa asked s1 [120] (.slice (some ⟨w8.heap.size,0,none⟩) 1 1) (HR8.out.gr hGA) (Gr.tr HG8.out hGA) (HV.out.gr HG0.out) ⟨byts_litC w8 [120] 5 (1,2) 1 rfl (by decide),.inr (fun b hb=>by have hb2:w8.heap.size=b:=(by simpa [Value.ownBlock] using hb);subst hb2;exact ⟨by omega,fun hm=>by have:=HR8.out.hi _ hm;omega⟩)⟩ (by simp) (by have:=HSZ.out;simp;omega))
          rw [fold_wrong asked HWT.out] at HTK
          have HG9:=hid (Gr.tr HG8.out hGA)
          clear hGA
          go_wp2_with (first
           | (go_at_call 11;refine HTK.out.mono ?_;rintro e w9 ⟨he,S9,hR9,hP9⟩;rw [HWT.out] at he;have he:e=.returned (.int .i64 2):=he;subst he;have HG10:=hid (hP9.old HG9.out HLS.out);have HE2:=hid (show Calls Tryz.prog 12 #[.pointer (some ⟨ga,0,none⟩)] w9 (fun e w'=>e=.returned (.int .i64 2)∧Gr w0 w') from (end_any w0 w9 ga S9 asked s1 hR9 HG10.out (HV.out.gr HG0.out) (by have:=HSZ.out;omega)).mono (fun e w' hh=>⟨by rw [hh.1,HEN.out];rfl,hh.2.2.old HG10.out hR9.lo⟩));clear hR9 hP9)
           | (go_at_call 12;refine HE2.out.mono ?_;rintro e w10 ⟨rfl,hg10⟩;have HG11:=hid (Gr.tr HG0.out hg10))
           | (go_at_call 7;refine (HAW.out _ HG11.out).mono ?_;rintro e wz ⟨rfl,hgz⟩))
          go_ret
          exact ⟨rfl,Gr.tr HG11.out hgz⟩
        | false=>
          have z0:=rd_wrong HX.out
          rw [if_neg (by rw [hw];decide)] at z0
          have HWT:=hid hw
          have HXE:=hid (end16_any HX.out hw (by have:=HSZ.out;omega))
          clear hw
          obtain ⟨en,hen⟩:∃en:Nat,s1.ends=en:=⟨_,rfl⟩
          obtain ⟨eb,heb⟩:∃eb:Bool,(en==0)=eb:=⟨_,rfl⟩
          have deb:(((en:Nat):Int)==0)=eb:=by rw [←heb,Bool.eq_iff_iff,beq_iff_eq,beq_iff_eq];omega
          have HEN:=hid hen
          have HEB:=hid heb
          rw [hen] at HXE
          clear hen heb
          go_upto_region 22 with (go_at_call 9;refine HXE.out.mono ?_;rintro e w5 ⟨rfl,hX5,hP5⟩)
          have HX5:=hid hX5
          have HR5:=hid (HR.out.stp hP5 HDJ.out)
          have HG5:=hid (hP5.old HG.out HLX.out)
          have HE1:=hid (show Calls Tryz.prog 12 #[.pointer (some ⟨ga,0,none⟩)] w5 (fun e w'=>e=.returned (.int .i64 (en:Nat))∧ClR w0 w' ga Sa asked true eb s1∧Stp w5 Sa w' Sa) from (end_any w0 w5 ga Sa asked s1 HR5.out HG5.out (HV.out.gr HG0.out) (by have:=HSZ.out;omega)).mono (fun e w' hh=>⟨by rw [hh.1,HEN.out],by have h2:=hh.2.1;rw [HEN.out,HEB.out,HWT.out] at h2;exact h2,hh.2.2⟩))
          clear hX5 hP5 HXE z0 HX HR HG HGW
          go_upto_region 24 with (first
           | (go_at_call 12;refine HE1.out.mono ?_;rintro e w6 ⟨rfl,hR6,hP6⟩;have HR6:=hid hR6;have HX6:=hid (HX5.out.stp hP6 HNS.out);have HG6:=hid (hP6.old HG5.out HLS.out);have HW6:=hid (whole_any hR6);clear hR6 hP6)
           | (go_at_call 13;refine HW6.out.mono ?_;rintro e w7 ⟨rfl,hg7⟩;have HSA:=hid (same16_any (HR6.out.gr hg7) (HX6.out.gr hg7) (HV.out.gr (Gr.tr HG0.out (Gr.tr HG6.out hg7))) (by have:=HSZ.out;omega) HFE.out))
           | (go_at_call 17;refine HSA.out.mono ?_;rintro e w8 ⟨rfl,hg8⟩))
          have hg68:=Gr.tr hg7 hg8
          have HR8:=hid (HR6.out.gr hg68)
          have z8:=rd_wrong (HX6.out.gr hg68)
          rw [if_neg (by rw [HWT.out];decide)] at z8
          have HG8:=hid (Gr.tr HG6.out hg68)
          clear HSA HW6 HE1 hg7 hg8 hg68 HR6 HX6 HG6 HX5 HR5 HG5
          go_upto_region 27 with fail
          have hGA:=Gr.al (Gr.refl w8) (Obj.cells #[.int .u8 120] 5 (1,2))
          have HTK:=hid (takeEnded_any (HR8.out.gr hGA) HWT.out (.slice (some ⟨w8.heap.size,0,none⟩) 1 1))
          have HE2:=hid (fun (x:World) (hx:Gr (w8.alloc (.cells #[.int .u8 120] 5 (1,2))) x)=>endEnded_any ((HR8.out.gr hGA).gr hx) HWT.out)
          have HG9:=hid (Gr.tr HG0.out (Gr.tr HG8.out hGA))
          clear hGA
          go_wp2_with (first
           | (go_at_call 11;refine HTK.out.mono ?_;rintro e w9 ⟨rfl,hg9⟩)
           | (go_at_call 12;refine (HE2.out _ hg9).mono ?_;rintro e w10 ⟨rfl,hg10⟩;have HG11:=hid (Gr.tr HG9.out (Gr.tr hg9 hg10)))
           | (go_at_call 7;refine (HAW.out _ HG11.out).mono ?_;rintro e wz ⟨rfl,hgz⟩))
          go_ret
          exact ⟨rfl,Gr.tr HG11.out hgz⟩
end Go.Proofs.YtgfckbhkgggkeaaGreatDoor.lkreads
