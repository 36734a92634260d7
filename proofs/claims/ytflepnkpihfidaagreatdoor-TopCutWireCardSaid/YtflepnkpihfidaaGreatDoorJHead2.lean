/- Parts. No conditions but those that each theorem names. -/
import Derived.Test.YtflepnkpihfidaaGreatDoorJHead1
import Derived.StillTailTactics
set_option linter.unusedVariables false
set_option linter.unusedSimpArgs false
set_option maxHeartbeats 64000000
set_option maxRecDepth 100000
namespace Go.Proofs.YtflepnkpihfidaaGreatDoor
open Lib (hid)
open Go.RowKit
theorem tell_any (v:Value) (s:List UInt8) (w:World) (hb:Byts w v s) (hm:Ml w) (hs:s.length < 4294967000):Calls Tryz.prog 163 #[v] w (HeadEnd w (tellR s)):=by
 obtain ⟨A,c,rfl,hc,hm',ho⟩:=hb.open
 have HB:=hid hb;have HM:=hid hm;clear hb hm ho
 have HF:=hid (fun (w:World) (h:Byts w (.slice A s.length c) s) (h2:Ml w)=>first_any (.slice A s.length c) s w h h2 hs)
 go_enter Tryz.func163,Tryz.ntmps163
 go_upto_region 1 with fail
 have hb1:=hid (Bk.new w 123 #[str [],str [],.int .i64 0,.slice none 0 0] (0,0))
 have hG1:Gr w (w.alloc (Obj.cells #[str [],str [],.int .i64 0,.slice none 0 0] 123)):=Gr.al (Gr.refl w) _
 have hz1:(w.alloc (Obj.cells #[str [],str [],.int .i64 0,.slice none 0 0] 123)).heap.size=w.heap.size+1:=by simp
 generalize hw1:w.alloc (Obj.cells #[str [],str [],.int .i64 0,.slice none 0 0] 123)=w1 at *
 clear hw1
 by_cases he:(firstL s).2.2=0
 ·obtain ⟨i,hcr,hi4,hfi⟩:=firstL_ok he
  have hlt:=crlf_lt hcr
  clear he
  have HFI:=hid hfi
  rw [hfi] at HF
  clear hfi hcr
  go_wp2_with (go_at_call 129;refine (HF.out _ (HB.out.gr hG1) (HM.out.gr hG1)).mono ?_;rintro e w2 ⟨rfl,hG2⟩)
  have hG12:=Gr.tr hG1 hG2
  have hb2:=hid (hb1.out.gr hG2)
  have hz2:w.heap.size < w2.heap.size:=hb2.out.lt
  clear HF hb1 hG1 hG2 hz1
  have HP:=hid (cutPre_any (s.take i) (httpB++[32]) w2)
  have hxl:(s.take i).length≤400:=by rw [List.length_take];omega
  have hins:i+2≤s.length:=by omega
  generalize s.take i=x at *
  refine HP.out.mono ?_
  rintro e w3 ⟨rfl,hG3⟩
  have hGw:=Gr.tr hG12 hG3
  have hb3:=hid (hb2.out.gr hG3)
  have hz3:w.heap.size < w3.heap.size:=hb3.out.lt
  clear HP hG12 hb2 hG3 hz2
  cases hp:(httpB++[32]).isPrefixOf x with
  | false=>
    have HT:=hid (tellR_none HFI.out (tellN_none hp))
    obtain ⟨y0,y1,y2,y3⟩:=hb3.out.cells4;obtain ⟨d0,d1,d2,d3⟩:=hb3.out.free4
    go_wp2_with fail
    obtain ⟨x0,x1,x2,x3⟩:=(hb3.out.set4 (str []) (str []) (.int .i64 0) (.slice none 0 0)).cells4
    refine bodyPost_ret (v:=.tuple #[.agg #[str [],str [],.int .i64 0,.slice none 0 0],.int .i64 0,.int .i64 2]) (by simp [results,Tryz.results163,go_sem,x0,x1,x2,x3]) rfl ?_
    rw [HT.out]
    exact headEnd_none _ _ 2 (Gr.st4 hGw (Nat.le_refl _) _ _ _ _)
  | true=>
    have htn:=hid (tellN_pre hp)
    have htp:Lib.trimPrefix x (httpB++[32])=x.drop 9:=by unfold Lib.trimPrefix Lib.hasPrefix;rw [hp];rfl
    rw [htp]
    have hrl:(x.drop 9).length≤400:=by rw [List.length_drop];omega
    generalize x.drop 9=r at *
    clear hp htp
    by_cases h3:r.length < 3
    ·have HT:=hid (tellR_none HFI.out (by rw [htn.out];exact statR_short h3))
     obtain ⟨y0,y1,y2,y3⟩:=hb3.out.cells4;obtain ⟨d0,d1,d2,d3⟩:=hb3.out.free4
     go_wp2_with fail
     obtain ⟨x0,x1,x2,x3⟩:=(hb3.out.set4 (str []) (str []) (.int .i64 0) (.slice none 0 0)).cells4
     refine bodyPost_ret (v:=.tuple #[.agg #[str [],str [],.int .i64 0,.slice none 0 0],.int .i64 0,.int .i64 2]) (by simp [results,Tryz.results163,go_sem,x0,x1,x2,x3]) rfl ?_
     rw [HT.out]
     exact headEnd_none _ _ 2 (Gr.st4 hGw (Nat.le_refl _) _ _ _ _)
    ·by_cases h4:3 < r.length∧∃h:3 < r.length,(r[3].toNat:Int)≠32
     ·obtain ⟨h4,_,h5⟩:=h4
      have HT:=hid (tellR_none HFI.out (by rw [htn.out];exact statR_blank h4 h5))
      have hne:((r[3].toNat:Int) != 32)=true:=by simpa using h5
      obtain ⟨y0,y1,y2,y3⟩:=hb3.out.cells4;obtain ⟨d0,d1,d2,d3⟩:=hb3.out.free4
      go_wp2_with fail
      obtain ⟨x0,x1,x2,x3⟩:=(hb3.out.set4 (str []) (str []) (.int .i64 0) (.slice none 0 0)).cells4
      refine bodyPost_ret (v:=.tuple #[.agg #[str [],str [],.int .i64 0,.slice none 0 0],.int .i64 0,.int .i64 2]) (by simp [results,Tryz.results163,go_sem,x0,x1,x2,x3]) rfl ?_
      rw [HT.out]
      exact headEnd_none _ _ 2 (Gr.st4 hGw (Nat.le_refl _) _ _ _ _)
     ·have h5:∀h:3 < r.length,(r[3].toNat:Int)=32:=fun h=>Classical.byContradiction fun hn=>h4 ⟨h,h,hn⟩
      have H5:=hid h5
      clear h4
      have h3':3≤r.length:=by omega
      have hd3:decide ((r.length:Int) < 3)=false:=decide_eq_false (by omega)
      clear h3
      go_upto_region 5 with fail
      go_cut [45] (fun s45 wx=>w3=wx∧s45=.bool false)
      case first=>
       by_cases h4:3 < r.length
       ·have hne:((r[3].toNat:Int) != 32)=false:=by simpa using H5.out h4
        go_wp2_with fail
        go_meet
        exact ⟨rfl,rfl⟩
       ·go_wp2_with fail
        go_meet
        exact ⟨rfl,rfl⟩
      case rest=>
       clear h5
       obtain ⟨hwc,rfl⟩:=hcut
       subst hwc
       go_wp2_with fail
       have hb4:=hid (Bk.new w3 123 #[str [],str [],.int .i64 0,.slice none 0 0] (0,0))
       have hb5:=hid (hb3.out.al (Obj.cells #[str [],str [],.int .i64 0,.slice none 0 0] 123))
       have hGw4:=Gr.al hGw (Obj.cells #[str [],str [],.int .i64 0,.slice none 0 0] 123)
       go_loopw [47] (fun iv wr=>∃k:Nat,k≤3∧iv=.int .i64 k∧Gr w wr∧Bk wr w.heap.size 123 #[str [],str [],.int .i64 0,.slice none 0 0] (0,0)∧Bk wr w3.heap.size 123 #[str [],str [],.int .i64 (numB (r.take k)),.slice none 0 0] (0,0)∧(r.take k).all digC=true) (fun iv _=>3-(intOf iv).toNat)
       case atStart=>exact ⟨0,by omega,rfl,hGw4,hb5.out,hb4.out,rfl⟩
       case round=>
        clear hb4 hb5 hGw4 hb3 hGw
        obtain ⟨k,hk,rfl,hG,hbr,hbh,hdg⟩:=hrel
        have HBR:=hid hbr;have HBH:=hid hbh;have HD:=hid hdg
        have hnb:=numB_3 hk hdg
        clear hbr hbh hdg
        by_cases hk3:k < 3
        ·have hkr:k < r.length:=by omega
         cases hdc:digC r[k] with
         | false=>
           have HT:=hid (tellR_none HFI.out (by rw [htn.out];exact statR_dig hk3 h3' hdc))
           have hnd:¬(48≤(r[k].toNat:Int)∧(r[k].toNat:Int)≤57):=fun h=>by rw [digC_yes _ h] at hdc;cases hdc
           clear hdc
           obtain ⟨y0,y1,y2,y3⟩:=HBR.out.cells4;obtain ⟨d0,d1,d2,d3⟩:=HBR.out.free4
           by_cases h48:48≤(r[k].toNat:Int)
           ·have h57:57 < (r[k].toNat:Int):=by omega
            clear hnd
            go_wp2_with fail
            obtain ⟨x0,x1,x2,x3⟩:=(HBR.out.set4 (str []) (str []) (.int .i64 0) (.slice none 0 0)).cells4
            refine bodyPost_ret (v:=.tuple #[.agg #[str [],str [],.int .i64 0,.slice none 0 0],.int .i64 0,.int .i64 2]) (by simp [results,Tryz.results163,go_sem,x0,x1,x2,x3]) rfl ?_
            rw [HT.out]
            exact headEnd_none _ _ 2 (Gr.st4 hG (Nat.le_refl _) _ _ _ _)
           ·clear hnd
            go_wp2_with fail
            obtain ⟨x0,x1,x2,x3⟩:=(HBR.out.set4 (str []) (str []) (.int .i64 0) (.slice none 0 0)).cells4
            refine bodyPost_ret (v:=.tuple #[.agg #[str [],str [],.int .i64 0,.slice none 0 0],.int .i64 0,.int .i64 2]) (by simp [results,Tryz.results163,go_sem,x0,x1,x2,x3]) rfl ?_
            rw [HT.out]
            exact headEnd_none _ _ 2 (Gr.st4 hG (Nat.le_refl _) _ _ _ _)
         | true=>
           have hyd:48≤(r[k].toNat:Int)∧(r[k].toNat:Int)≤57:=Classical.byContradiction fun h=>by rw [digC_no _ h] at hdc;cases hdc
           have HDC:=hid hdc
           obtain ⟨h48,h57⟩:=hyd
           clear hdc
           go_upto_region 13 with fail
           obtain ⟨q0,q1,q2,q3⟩:=HBH.out.cells4
           obtain ⟨p0,p1,p2,p3⟩:=HBH.out.free4
           have e1:IntKind.i64.wrap ((numB (r.take k):Int)*10)=(numB (r.take k):Int)*10:=IntWalk.i64_in _ (by omega)
           have e2:IntKind.u8.wrap ((r[k].toNat:Int)-48)=(r[k].toNat:Int)-48:=by rw [IntKind.wrap_u8];omega
           have e3:IntKind.i64.wrap ((r[k].toNat:Int)-48)=(r[k].toNat:Int)-48:=IntWalk.i64_in _ (by omega)
           have e4:IntKind.i64.wrap ((numB (r.take k):Int)*10+((r[k].toNat:Int)-48))=(numB (r.take k):Int)*10+((r[k].toNat:Int)-48):=IntWalk.i64_in _ (by omega)
           have hkr2:(k:Int) < (r.length:Int):=by omega
           have hkr3:(0:Int)≤(k:Int):=by omega
           go_still_tail 10,(by kernel_rfl)
           change wpList _ _ _ _ _ wr.drew
           have hGd:=Gr.dr hG
           have hbr2:=hid (HBR.out.gr (Gr.dr (Gr.refl wr)))
           have hbh2:=hid (HBH.out.gr (Gr.dr (Gr.refl wr)))
           have HNS:=hid (numB_succ r k hkr)
           clear q0 q1 q2 q3 p0 p1 p2 p3 e1 e2 e3 e4 hG HBR HBH
           generalize wr.drew=wd at *
           clear wr
           obtain ⟨q0,q1,q2,q3⟩:=hbh2.out.cells4
           obtain ⟨p0,p1,p2,p3⟩:=hbh2.out.free4
           go_wp2_with fail
           have hb7:=hbh2.out.set 2 (.int .i64 ((numB (r.take k):Int)*10+((r[k].toNat:Int)-48)))
           have hnum:((numB (r.take k):Int)*10+((r[k].toNat:Int)-48))=((numB (r.take (k+1)):Nat):Int):=by rw [HNS.out];omega
           exact ⟨⟨k+1,by omega,by go_num,Gr.st hGd (Nat.le_of_lt hz3) _,hbr2.out.far (p:=⟨w3.heap.size,2,none⟩) (Nat.ne_of_lt hz3) _,by rw [←hnum];simpa using hb7,all_take_succ _ r k hkr HD.out HDC.out⟩,by simp [intOf];omega⟩
        ·obtain rfl:k=3:=by omega
         go_wp2_with fail
         go_loop [12] (fun jv=>∃j:Nat,3≤j∧j≤r.length∧jv=.int .i64 j∧((r.take j).drop 3).all visC=true) (fun jv=>r.length-(intOf jv).toNat)
         case atStart=>exact ⟨3,by omega,by omega,rfl,by rw [List.drop_of_length_le (by rw [List.length_take];omega)];rfl⟩
         case round=>
          obtain ⟨j,hj3,hjl,rfl,hvs⟩:=hrel
          have HV:=hid hvs;clear hvs
          by_cases hjr:j < r.length
          ·cases hvc:visC r[j] with
           | false=>
             have HT:=hid (tellR_none HFI.out (by rw [htn.out];exact statR_vis hjr hj3 hvc))
             have hnv:¬((32≤(r[j].toNat:Int)∧(r[j].toNat:Int)≤126)∨(r[j].toNat:Int)=9):=fun h=>by rw [visC_yes _ h] at hvc;cases hvc
             have hn9:((r[j].toNat:Int) != 9)=true:=by simp;omega
             clear hvc
             obtain ⟨y0,y1,y2,y3⟩:=HBR.out.cells4;obtain ⟨d0,d1,d2,d3⟩:=HBR.out.free4
             by_cases h32:32≤(r[j].toNat:Int)
             ·have h126:126 < (r[j].toNat:Int):=by omega
              clear hnv
              go_wp2_with fail
              obtain ⟨x0,x1,x2,x3⟩:=(HBR.out.set4 (str []) (str []) (.int .i64 0) (.slice none 0 0)).cells4
              refine bodyPost_ret (v:=.tuple #[.agg #[str [],str [],.int .i64 0,.slice none 0 0],.int .i64 0,.int .i64 2]) (by simp [results,Tryz.results163,go_sem,x0,x1,x2,x3]) rfl ?_
              rw [HT.out]
              exact headEnd_none _ _ 2 (Gr.st4 hG (Nat.le_refl _) _ _ _ _)
             ·clear hnv
              go_wp2_with fail
              obtain ⟨x0,x1,x2,x3⟩:=(HBR.out.set4 (str []) (str []) (.int .i64 0) (.slice none 0 0)).cells4
              refine bodyPost_ret (v:=.tuple #[.agg #[str [],str [],.int .i64 0,.slice none 0 0],.int .i64 0,.int .i64 2]) (by simp [results,Tryz.results163,go_sem,x0,x1,x2,x3]) rfl ?_
              rw [HT.out]
              exact headEnd_none _ _ 2 (Gr.st4 hG (Nat.le_refl _) _ _ _ _)
           | true=>
             have HVC:=hid hvc
             have hvv:=(visC_iff _).1 hvc
             clear hvc
             by_cases h9:(r[j].toNat:Int)=9
             ·have hn9:((r[j].toNat:Int) != 9)=false:=by simp [h9]
              have h32:(r[j].toNat:Int) < 32:=by omega
              clear h9 hvv
              go_wp2_with fail
              exact ⟨⟨j+1,by omega,by omega,by go_num,drop_all_succ _ hj3 hjr HV.out HVC.out⟩,by simp [intOf];omega⟩
             ·have h32:32≤(r[j].toNat:Int):=by omega
              have h126:(r[j].toNat:Int)≤126:=by omega
              clear h9 hvv
              have ddlt32:decide (((r[j].toNat:Nat):Int) < 32)=false:=decide_eq_false (by omega)
              have ddgt126:decide (126 < ((r[j].toNat:Nat):Int))=false:=decide_eq_false (by omega)
              go_wp2_with fail
              exact ⟨⟨j+1,by omega,by omega,by go_num,drop_all_succ _ hj3 hjr HV.out HVC.out⟩,by simp [intOf];omega⟩
          ·have HVE:=hid (drop_all_end visC hjr HV.out)
           clear HV
           obtain ⟨q0,q1,q2,q3⟩:=HBH.out.cells4
           have HTL:=hid (tells_any [] [] (numB (r.take 3)) none 0 0 wr)
           by_cases hst:100≤numB (r.take 3)∧numB (r.take 3)≤599
           ·have HT:=hid (tellR_some HFI.out (by rw [htn.out];exact statR_yes h3' HD.out HVE.out H5.out hst))
            have htb:tellsB [] [] ((numB (r.take 3):Nat):Int)=true:=by unfold tellsB;simp;omega
            rw [htb] at HTL
            clear htb
            go_wp2_with (go_at_call 124;refine HTL.out.mono ?_;rintro e w5 ⟨rfl,hG5⟩;have hbr5:=hid (HBR.out.gr hG5);have hbh5:=hid (HBH.out.gr hG5);obtain ⟨u0,u1,u2,u3⟩:=hbh5.out.cells4)
            have hGw5:=Gr.tr hG hG5
            refine (fill_any [] [] (numB (r.take 3)) (.slice A s.length c) s (i+2) w5 (HB.out.gr hGw5) (HM.out.gr hGw5) hins hs).mono ?_
            rintro e w6 ⟨A6,c6,rfl,hf6,hG6,hr6⟩
            have hbr6:=hid (hbr5.out.gr hG6)
            have hne6:=fresh_ne hr6 hbr5.out.lt
            have HF6:=hid hf6;have HN6:=hid hne6
            have HR6:=hid (Fresh.tr hGw5 hr6)
            obtain ⟨y0,y1,y2,y3⟩:=hbr6.out.cells4
            obtain ⟨d0,d1,d2,d3⟩:=hbr6.out.free4
            clear hf6 hne6 hr6 hbr5 hbh5 u0 u1 u2 u3 q0 q1 q2 q3 HTL
            rw [←HT.out] at HF6 HN6 HR6 ⊢
            generalize tellR s=T at *
            go_wp2_with fail
            obtain ⟨x0,x1,x2,x3⟩:=(hbr6.out.set4 (str T.1.1) (str T.1.2.1) (.int .i64 T.1.2.2.1) (.slice A6 T.1.2.2.2.length c6)).cells4
            refine bodyPost_ret (v:=.tuple #[.agg #[str T.1.1,str T.1.2.1,.int .i64 T.1.2.2.1,.slice A6 T.1.2.2.2.length c6],.int .i64 T.2.1,.int .i64 T.2.2]) (by simp [results,Tryz.results163,go_sem,x0,x1,x2,x3]) rfl ?_
            exact ⟨A6,c6,rfl,HF6.out.st4 HN6.out _ _ _ _,Gr.st4 (Gr.tr hGw5 hG6) (Nat.le_refl _) _ _ _ _,HR6.out⟩
           ·have HT:=hid (tellR_none HFI.out (by rw [htn.out];exact statR_num hst))
            have htb:tellsB [] [] ((numB (r.take 3):Nat):Int)=false:=by unfold tellsB;simp;omega
            rw [htb] at HTL
            clear htb hst
            go_wp2_with (go_at_call 124;refine HTL.out.mono ?_;rintro e w5 ⟨rfl,hG5⟩;have hbr5:=hid (HBR.out.gr hG5);obtain ⟨y0,y1,y2,y3⟩:=hbr5.out.cells4;obtain ⟨d0,d1,d2,d3⟩:=hbr5.out.free4)
            obtain ⟨x0,x1,x2,x3⟩:=(hbr5.out.set4 (str []) (str []) (.int .i64 0) (.slice none 0 0)).cells4
            refine bodyPost_ret (v:=.tuple #[.agg #[str [],str [],.int .i64 0,.slice none 0 0],.int .i64 0,.int .i64 2]) (by simp [results,Tryz.results163,go_sem,x0,x1,x2,x3]) rfl ?_
            rw [HT.out]
            exact headEnd_none _ _ 2 (Gr.st4 (Gr.tr hG hG5) (Nat.le_refl _) _ _ _ _)
 ·have hfi:=firstL_bad rfl he
  have HT:=hid (tellR_bad hfi he)
  rw [hfi] at HF
  have hne:(((firstL s).2.2:Int) != 0)=true:=by simp;exact he
  generalize (firstL s).2.2=en at *
  clear he hfi
  go_wp2_with (go_at_call 129;refine (HF.out _ (HB.out.gr hG1) (HM.out.gr hG1)).mono ?_;rintro e w2 ⟨rfl,hG2⟩;have hb2:=hid (hb1.out.gr hG2);obtain ⟨y0,y1,y2,y3⟩:=hb2.out.cells4;obtain ⟨d0,d1,d2,d3⟩:=hb2.out.free4)
  obtain ⟨x0,x1,x2,x3⟩:=(hb2.out.set4 (str []) (str []) (.int .i64 0) (.slice none 0 0)).cells4
  refine bodyPost_ret (v:=.tuple #[.agg #[str [],str [],.int .i64 0,.slice none 0 0],.int .i64 0,.int .i64 en]) (by simp [results,Tryz.results163,go_sem,x0,x1,x2,x3]) rfl ?_
  rw [HT.out]
  exact headEnd_none _ _ _ (Gr.st4 (Gr.tr hG1 hG2) (Nat.le_refl _) _ _ _ _)
theorem object_any (l:List UInt8) (w:World) (_hl:l.length≤9223372036854775000):Calls Tryz.prog 90 #[str l] w fun e w'=>e=.returned (.bool (objB l))∧Gr w w':=by
 by_cases h0:l.length < 1
 ·have hn:l=[]:=List.eq_nil_of_length_eq_zero (by omega)
  subst hn
  go_enter Tryz.func90,Tryz.ntmps90
  go_wp2_with fail
  go_ret
  exact ⟨rfl,Gr.refl _⟩
 ·have h0':0 < l.length:=by omega
  have d0:decide ((l.length:Int) < 1)=false:=decide_eq_false (by omega)
  clear h0
  by_cases h2:200 < l.length
  ·have HO:=hid (objB_long h2)
   have d2:decide (200 < (l.length:Int))=true:=decide_eq_true (by omega)
   go_enter Tryz.func90,Tryz.ntmps90
   go_wp2_with fail
   go_ret
   exact ⟨ret_bool HO.out.symm,Gr.refl _⟩
  ·have d2:decide (200 < (l.length:Int))=false:=decide_eq_false (by omega)
   by_cases h47:(l[0].toNat:Int)=47
   ·have HO:=hid (objB_rest h0' (by omega) h47)
    have hne:((l[0].toNat:Int) != 47)=false:=by simp [h47]
    clear h47
    go_enter Tryz.func90,Tryz.ntmps90
    go_wp2_with fail
    clear hne
    go_loop [19] (fun i=>∃k:Nat,k≤l.length∧i=.int .i64 k∧(l.take k).all objC=true) (fun i=>l.length-(intOf i).toNat)
    case atStart=>exact ⟨0,Nat.zero_le _,rfl,rfl⟩
    case round=>
     obtain ⟨k,hk,rfl,hE⟩:=hrel
     have HE:=hid hE;clear hE
     by_cases hlt:k < l.length
     ·have hx:(l[k].toNat:Int)≤255:=by have:=l[k].toNat_lt;omega
      by_cases h33:33≤(l[k].toNat:Int)
      ·by_cases h126:(l[k].toNat:Int)≤126
       ·have hc:=hid (objC_yes l[k] ⟨h33,h126⟩)
        have ddlt33:decide (((l[k].toNat:Nat):Int) < 33)=false:=decide_eq_false (by omega)
        have ddgt126:decide (126 < ((l[k].toNat:Nat):Int))=false:=decide_eq_false (by omega)
        go_wp2_with fail
        exact ⟨⟨k+1,by omega,by go_num,all_take_succ _ l k hlt HE.out hc.out⟩,by simp [intOf];omega⟩
       ·have hc:=hid (objC_no l[k] (fun h=>h126 h.2))
        have ddlt33:decide (((l[k].toNat:Nat):Int) < 33)=false:=decide_eq_false (by omega)
        have ddgt126:decide (126 < ((l[k].toNat:Nat):Int))=true:=decide_eq_true (by omega)
        go_wp2_with fail
        go_ret
        exact ⟨ret_bool (by rw [HO.out,all_no _ l k hlt hc.out]),Gr.refl _⟩
      ·have hc:=hid (objC_no l[k] (fun h=>h33 h.1))
       have ddlt33:decide (((l[k].toNat:Nat):Int) < 33)=true:=decide_eq_true (by omega)
       have ddgt126:decide (126 < ((l[k].toNat:Nat):Int))=false:=decide_eq_false (by omega)
       go_wp2_with fail
       go_ret
       exact ⟨ret_bool (by rw [HO.out,all_no _ l k hlt hc.out]),Gr.refl _⟩
     ·go_wp2_with fail
      go_ret
      exact ⟨ret_bool (by rw [HO.out,all_end _ l k hlt HE.out]),Gr.refl _⟩
   ·have HO:=hid (objB_first h0' h47)
    have hne:((l[0].toNat:Int) != 47)=true:=by simpa using h47
    go_enter Tryz.func90,Tryz.ntmps90
    go_wp2_with fail
    go_ret
    exact ⟨ret_bool HO.out.symm,Gr.refl _⟩
theorem refObject_any (l:List UInt8) (w:World) (_hl:l.length≤9223372036854775000):Calls Tryz.prog 36 #[str l] w fun e w'=>e=.returned (.bool (objB l))∧Gr w w':=by
 by_cases h0:l.length < 1
 ·have hn:l=[]:=List.eq_nil_of_length_eq_zero (by omega)
  subst hn
  go_enter Tryz.func36,Tryz.ntmps36
  go_wp2_with fail
  go_ret
  exact ⟨rfl,Gr.refl _⟩
 ·have h0':0 < l.length:=by omega
  have d0:decide ((l.length:Int) < 1)=false:=decide_eq_false (by omega)
  clear h0
  by_cases h2:200 < l.length
  ·have HO:=hid (objB_long h2)
   have d2:decide (200 < (l.length:Int))=true:=decide_eq_true (by omega)
   go_enter Tryz.func36,Tryz.ntmps36
   go_wp2_with fail
   go_ret
   exact ⟨ret_bool HO.out.symm,Gr.refl _⟩
  ·have d2:decide (200 < (l.length:Int))=false:=decide_eq_false (by omega)
   by_cases h47:(l[0].toNat:Int)=47
   ·have HO:=hid (objB_rest h0' (by omega) h47)
    have hne:((l[0].toNat:Int) != 47)=false:=by simp [h47]
    clear h47
    go_enter Tryz.func36,Tryz.ntmps36
    go_wp2_with fail
    clear hne
    go_loop [3] (fun i=>∃k:Nat,k≤l.length∧i=.int .i64 k∧(l.take k).all objC=true) (fun i=>l.length-(intOf i).toNat)
    case atStart=>exact ⟨0,Nat.zero_le _,rfl,rfl⟩
    case round=>
     obtain ⟨k,hk,rfl,hE⟩:=hrel
     have HE:=hid hE;clear hE
     by_cases hlt:k < l.length
     ·have hx:(l[k].toNat:Int)≤255:=by have:=l[k].toNat_lt;omega
      by_cases h33:33≤(l[k].toNat:Int)
      ·by_cases h126:(l[k].toNat:Int)≤126
       ·have hc:=hid (objC_yes l[k] ⟨h33,h126⟩)
        have ddle32:decide (((l[k].toNat:Nat):Int)≤32)=false:=decide_eq_false (by omega)
        have ddgt126:decide (126 < ((l[k].toNat:Nat):Int))=false:=decide_eq_false (by omega)
        go_wp2_with fail
        exact ⟨⟨k+1,by omega,by go_num,all_take_succ _ l k hlt HE.out hc.out⟩,by simp [intOf];omega⟩
       ·have hc:=hid (objC_no l[k] (fun h=>h126 h.2))
        have ddle32:decide (((l[k].toNat:Nat):Int)≤32)=false:=decide_eq_false (by omega)
        have ddgt126:decide (126 < ((l[k].toNat:Nat):Int))=true:=decide_eq_true (by omega)
        go_wp2_with fail
        go_ret
        exact ⟨ret_bool (by rw [HO.out,all_no _ l k hlt hc.out]),Gr.refl _⟩
      ·have hc:=hid (objC_no l[k] (fun h=>h33 h.1))
       have ddle32:decide (((l[k].toNat:Nat):Int)≤32)=true:=decide_eq_true (by omega)
       have ddgt126:decide (126 < ((l[k].toNat:Nat):Int))=false:=decide_eq_false (by omega)
       go_wp2_with fail
       go_ret
       exact ⟨ret_bool (by rw [HO.out,all_no _ l k hlt hc.out]),Gr.refl _⟩
     ·go_wp2_with fail
      go_ret
      exact ⟨ret_bool (by rw [HO.out,all_end _ l k hlt HE.out]),Gr.refl _⟩
   ·have HO:=hid (objB_first h0' h47)
    have hne:((l[0].toNat:Int) != 47)=true:=by simpa using h47
    go_enter Tryz.func36,Tryz.ntmps36
    go_wp2_with fail
    go_ret
    exact ⟨ret_bool HO.out.symm,Gr.refl _⟩
theorem reason_any (n:Int) (w:World):Calls Tryz.prog 126 #[.int .i64 n] w fun e w'=>e=.returned (str (reason n))∧Gr w w':=by
 go_enter Tryz.func126,Tryz.ntmps126
 go_wp2_with fail
 all_goals go_ret
 all_goals refine ⟨ret_str ?_,Gr.refl _⟩
 all_goals (unfold reason;simp_all)
theorem byts_new (w:World) (l:List UInt8) (t:TypeId) (fr:Nat×Nat) (cs:Array Value) (hcs:cs=(l.map byt).toArray) (h:l.length≤100000):Byts (w.alloc (.cells cs t fr)) (.slice (some ⟨w.heap.size,0,none⟩) l.length l.length) l:=by
 subst hcs
 refine ⟨_,_,rfl,Nat.le_refl _,by omega,.inr ⟨w.heap.size,0,rfl,(Bk.new w t _ fr).lt,fun j u hu=>?_⟩⟩
 rw [Nat.zero_add,(Bk.new w t _ fr).cell j]
 simpa using hu
def asksB (m o:List UInt8) (st:Int):Bool:=(m==getB||m==headB)&&objB o&&(st==0)
theorem asks_any (m o:List UInt8) (st:Int) (A:Option Addr) (n c:Nat) (w:World) (ho:o.length≤9223372036854775000):Calls Tryz.prog 127 #[.agg #[str m,str o,.int .i64 st,.slice A n c]] w fun e w'=>e=.returned (.bool (asksB m o st))∧Gr w w':=by
 have hG1:=Gr.al (Gr.refl w) (Obj.cells #[str m,str o,.int .i64 st,.slice A n c] 123)
 have hb1:=Bk.new w 123 #[str m,str o,.int .i64 st,.slice A n c] (0,0)
 have HO:=hid (fun (w:World)=>object_any o w ho)
 have HA:=hid (show asksB m o st=((m==[71,69,84]||m==[72,69,65,68])&&objB o&&(st==0)) from rfl)
 cases h1:(m==[71,69,84]) <;> cases h2:(m==[72,69,65,68]) <;> cases h3:objB o <;> cases h4:(st==0)
 all_goals
  rw [h1,h2,h3,h4] at HA
  rw [h3] at HO
  go_enter Tryz.func127,Tryz.ntmps127
  go_upto_region 1 with fail
  generalize w.alloc (Obj.cells #[str m,str o,.int .i64 st,.slice A n c] 123)=w1 at *
  generalize w.heap.size=g at *
  obtain ⟨q0,q1,q2,q3⟩:=hb1.cells4
  go_wp2_with (go_at_call 90;refine (HO.out _).mono ?_;rintro e w2 ⟨rfl,hG2⟩;have q2:=Gr.cell hG2 q2)
  go_ret
 all_goals first
  | exact ⟨by rw [HA.out];rfl,hG1⟩
  | exact ⟨by rw [HA.out];rfl,Gr.tr hG1 hG2⟩
theorem askR_bad {s:List UInt8} {e:Nat} (h:firstL s=([],0,e)) (he:e≠0):askR s=(noHead,0,e):=by
 unfold askR;rw [h];simp [he]
theorem askR_some {s x:List UInt8} {n:Nat} {p:List UInt8×List UInt8} (h:firstL s=(x,n,0)) (ht:askN x=some p):askR s=restL p.1 p.2 0 s n:=by
 unfold askR;rw [h];simp [ht]
end Go.Proofs.YtflepnkpihfidaaGreatDoor
