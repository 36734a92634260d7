/- Parts. No conditions but those that each theorem names. -/
import Derived.Test.YtflepnkpihfidaaGreatDoorHeadLaw
import Derived.Test.YtflepnkpihfidaaGreatDoorJField2
import Derived.Test.YtflepnkpihfidaaGreatDoorJBytes
set_option linter.unusedVariables false
set_option linter.unusedSimpArgs false
namespace Go.Proofs.YtflepnkpihfidaaGreatDoor
open Lib (hid)
theorem parseGo_le (s:List UInt8) (fuel k:Nat) (acc:List Fld):(parseGo s fuel k acc).2.1≤s.length:=by
 induction fuel generalizing k acc with
 | zero=>simp [parseGo]
 | succ fuel ih=>
   cases hc:crlf (s.drop k) with
   | none=>rw [parseGo_none hc];split <;> simp
   | some j=>
     have hlt:=crlf_lt hc
     rw [List.length_drop] at hlt
     rw [parseGo_some hc]
     split
     ·simp
     ·split
      ·simp only;omega
      ·split
       ·simp
       ·split
        ·exact ih _ _
        ·simp
theorem parse_le (s:List UInt8):(parse s).2.1≤s.length:=parseGo_le s _ _ _
theorem parseGo_few (s:List UInt8) (fuel k:Nat) (acc:List Fld) (h:acc.length≤100):(parseGo s fuel k acc).1.length≤100:=by
 induction fuel generalizing k acc with
 | zero=>simp [parseGo]
 | succ fuel ih=>
   cases hc:crlf (s.drop k) with
   | none=>rw [parseGo_none hc];split <;> simp
   | some j=>
     rw [parseGo_some hc]
     split
     ·simp
     ·split
      ·exact h
      ·split
       ·simp
       ·split
        ·exact ih _ _ (by simp;omega)
        ·simp
theorem parse_few (s:List UInt8):(parse s).1.length≤100:=parseGo_few s _ _ _ (by simp)
theorem restL_ok {m o:List UInt8} {st:Int} {s:List UInt8} {n:Nat} (h:(parse (s.drop n)).2.2=0):restL m o st s n=((m,o,st,(parse (s.drop n)).1),n+(parse (s.drop n)).2.1,0):=by
 unfold restL;simp only;rw [if_pos h]
theorem restL_bad {m o:List UInt8} {st:Int} {s:List UInt8} {n:Nat} (h:(parse (s.drop n)).2.2≠0):restL m o st s n=(noHead,0,(parse (s.drop n)).2.2):=by
 unfold restL;simp only;rw [if_neg h]
end Go.Proofs.YtflepnkpihfidaaGreatDoor
namespace Go.Proofs.YtflepnkpihfidaaGreatDoor
open Lib (hid)
open Go.RowKit
theorem Byts.idx {w:World} {A:Option Addr} {n c:Nat} {l:List UInt8} (hb:Byts w (.slice A n c) l) (hm:Ml w) (hl:l.length < 4294967281) (b2 c2:Nat) (sub:List UInt8) (hs2:2≤sub.length) (hs3:sub.length≤1000)
  (h2:∀(i:Nat) (hi:i < sub.length),w.cell? ⟨b2,i,none⟩=some (byt sub[i])) :
  Calls Tryz.prog 109 #[.slice A n c,.slice (some ⟨b2,0,none⟩) sub.length c2] w fun e w'=>e=.returned (.int .i64 (Lib.index l sub))∧Gr w w':=by
 obtain ⟨rfl,hc⟩:=hb.len
 obtain ⟨m,hm⟩:=hm
 cases A with
 | none=>
   have hl0:l=[]:=by
    cases l with
    | nil=>rfl
    | cons x t=>obtain ⟨b,o,hA,_⟩:=hb.cellAt 0 (by simp);cases hA
   subst hl0
   have h:=Tryz.bytes_Index_longer none (some ⟨b2,0,none⟩) 0 c sub.length c2 w hs2 (by omega) (by omega)
   refine h.mono fun e w' ⟨he,hw⟩=>⟨?_,by rw [hw];exact Gr.refl w⟩
   rw [he]
   cases sub with
   | nil=>simp at hs2
   | cons x t=>rfl
 | some ad=>
   have h:=Tryz.bytes_Index_at ad ⟨b2,0,none⟩ l.length c sub.length c2 (l.map fun c=>(c.toNat:Int)) (sub.map fun c=>(c.toNat:Int)) m w (by simp) (by simp)
    (fun x hx=>by simp only [List.mem_map] at hx;obtain ⟨y,_,rfl⟩:=hx;have:=y.toNat_lt;omega)
    (fun x hx=>by simp only [List.mem_map] at hx;obtain ⟨y,_,rfl⟩:=hx;have:=y.toNat_lt;omega)
    (fun i hi=>by
     obtain ⟨b,o,hA,_,hcell⟩:=hb.cellAt i hi
     injection hA with hA
     subst hA
     have e1:(Addr.mk b o none).add i=⟨b,o+i,none⟩:=by unfold Addr.add;split <;> simp_all
     rw [e1,hcell,nums_at _ _ hi])
    (fun i hi=>by
     have e1:(Addr.mk b2 0 none).add i=⟨b2,i,none⟩:=by unfold Addr.add;split <;> simp_all
     rw [e1,h2 i hi,nums_at _ _ hi]) hc hl (by omega) hm
   rw [bytesOf_nums,bytesOf_nums] at h
   exact h.mono fun e w' ⟨he,q,hw⟩=>⟨he,by rw [hw];exact Gr.drN (Gr.refl w) q⟩
set_option maxHeartbeats 1000000 in
theorem first_any (v:Value) (s:List UInt8) (w:World) (hb:Byts w v s) (hm:Ml w) (hs:s.length < 4294967000) :
  Calls Tryz.prog 129 #[v] w fun e w'=>e=.returned (.tuple #[str (firstL s).1,.int .i64 (firstL s).2.1,.int .i64 (firstL s).2.2])∧Gr w w':=by
 obtain ⟨A,c,rfl,hc,hm',ho⟩:=hb.open
 have HB:=hid hb;have HM:=hid hm;clear hb hm ho
 have kc:=fun (w:World) (C:Array Value) (n c:Nat)=>Lib.run_convert_bytes_const (P:=Tryz.prog) w 30 5 C n c Tryz.underlying30 Tryz.underlying5
 go_enter Tryz.func129,Tryz.ntmps129
 go_wp2_with fail
 have hw1:=Bk.new w 5 #[.int .u8 13,.int .u8 10] (2,3)
 have hG1:Gr w (w.alloc (Obj.cells #[.int .u8 13,.int .u8 10] 5 (2,3))):=Gr.al (Gr.refl w) _
 have HI:=hid ((HB.out.gr hG1).idx (HM.out.gr hG1) (by omega) w.heap.size 2 [13,10] (by simp) (by simp) (fun i hi=>by
  rw [hw1.cell i]
  match i,hi with
  | 0,_=>rfl
  | 1,_=>rfl))
 clear hw1
 rw [crlf_lib] at HI
 cases hcr:crlf s with
 | none=>
   rw [hcr] at HI
   refine HI.out.mono ?_
   rintro e w1 ⟨rfl,hG⟩
   have hG2:=Gr.tr hG1 hG
   clear hG hG1 HI
   by_cases hl:s.length≤400
   ·have hf:=hid (show firstL s=([],0,3) from by unfold firstL;rw [hcr];simp [hl])
    clear hcr
    go_wp2_with fail
    go_ret3
    exact ⟨by rw [hf.out];rfl,hG2⟩
   ·have hf:=hid (show firstL s=([],0,2) from by unfold firstL;rw [hcr];simp [hl])
    clear hcr
    have hd:decide (s.length≤400)=false:=decide_eq_false hl
    go_wp2_with fail
    go_ret3
    exact ⟨by rw [hf.out];rfl,hG2⟩
 | some i=>
   rw [hcr] at HI
   have hlt:=crlf_lt hcr
   refine HI.out.mono ?_
   rintro e w1 ⟨rfl,hG⟩
   have hG2:=Gr.tr hG1 hG
   clear hG hG1 HI
   by_cases hl:400 < i
   ·have hf:=hid (show firstL s=([],0,2) from by unfold firstL;rw [hcr];simp [hl])
    clear hcr
    have hd:decide (400 < (i:Int))=true:=decide_eq_true (by omega)
    go_wp2_with fail
    go_ret3
    exact ⟨by rw [hf.out];rfl,hG2⟩
   ·have hf:=hid (show firstL s=(s.take i,i+2,0) from by unfold firstL;rw [hcr];simp [hl])
    clear hcr
    have hd:decide (400 < (i:Int))=false:=decide_eq_false (by omega)
    have HB2:=hid (HB.out.gr hG2)
    go_wp2_with (first
     | (refine wpList_slHi _ _ rfl rfl rfl rfl HB2.out ?_ ?_ ?_;omega;omega;intro A2 hA2;have HA2:=hid hA2;clear hA2)
     | (refine wpList_toStr _ rfl rfl rfl HA2.out ?_))
    go_ret3
    exact ⟨by rw [hf.out];rfl,hG2⟩
end Go.Proofs.YtflepnkpihfidaaGreatDoor
namespace Go.Proofs.YtflepnkpihfidaaGreatDoor
open Lib (hid)
open Go.RowKit
def HeadEnd (w:World) (r:HeadT×Nat×Nat) (e:Ending) (w':World):Prop:=
 ∃A c,e=.returned (.tuple #[.agg #[str r.1.1,str r.1.2.1,.int .i64 r.1.2.2.1,.slice A r.1.2.2.2.length c],.int .i64 r.2.1,.int .i64 r.2.2])∧Flds w' (.slice A r.1.2.2.2.length c) r.1.2.2.2∧Gr w w'∧Fresh w (.slice A r.1.2.2.2.length c)
theorem Flds.slice {w:World} {v:Value} {xs} (h:Flds w v xs):∃A c,v=.slice A xs.length c:=by
 obtain ⟨A,c,hv,_⟩:=h
 exact ⟨A,c,hv⟩
theorem headEnd_none (w w':World) (e:Nat) (g:Gr w w'):HeadEnd w (noHead,0,e) (.returned (.tuple #[.agg #[str [],str [],.int .i64 0,.slice none 0 0],.int .i64 0,.int .i64 e])) w':=
 ⟨none,0,rfl,nil_fld _,g,fresh_nil _⟩
theorem fresh_ne {w:World} {v:Value} {g:Nat} (h:Fresh w v) (hg:g < w.heap.size):v.ownBlock≠some g:=fun e=>by have:=h g e;omega
theorem Flds.st {w:World} {v:Value} {fs:List Fld} (h:Flds w v fs) {g:Nat} (hne:v.ownBlock≠some g) (i:Nat) (u:Value):Flds (w.setCell ⟨g,i,none⟩ u) v fs:=by
 obtain ⟨A,c,rfl,hc,hm,hh⟩:=h
 refine ⟨A,c,rfl,hc,hm,?_⟩
 rcases hh with hh | ⟨b,o,hA,hb,hj⟩
 ·exact .inl hh
 ·subst hA
  have hbg:b≠g:=by rintro rfl;exact hne rfl
  refine .inr ⟨b,o,rfl,by simpa [World.setCell] using hb,fun j u hu=>?_⟩
  rw [World.cell?_of_block (Below.heap_setCell w ⟨g,i,none⟩ _ b hbg)]
  exact hj j u hu
theorem Flds.st4 {w:World} {v:Value} {fs:List Fld} (h:Flds w v fs) {g:Nat} (hne:v.ownBlock≠some g) (x y z u:Value):Flds ((((w.setCell ⟨g,0,none⟩ x).setCell ⟨g,1,none⟩ y).setCell ⟨g,2,none⟩ z).setCell ⟨g,3,none⟩ u) v fs:=
 ((((h.st hne 0 x).st hne 1 y).st hne 2 z).st hne 3 u)
set_option maxHeartbeats 2000000 in
theorem fill_any (m o:List UInt8) (st:Int) (v:Value) (s:List UInt8) (n:Nat) (w:World) (hb:Byts w v s) (hm:Ml w) (hn:n≤s.length) (hs:s.length < 4294967000) :
  Calls Tryz.prog 132 #[.agg #[str m,str o,.int .i64 st,.slice none 0 0],v,.int .i64 n] w (HeadEnd w (restL m o st s n)):=by
 obtain ⟨A,c,rfl,hc,hm',ho⟩:=hb.open
 have HB:=hid hb;have HM:=hid hm;clear hb hm ho
 have hkb:=parse_le (s.drop n)
 rw [List.length_drop] at hkb
 have HPE:=hid (parse_anyF (s.drop n))
 have HR:Hid ((parse (s.drop n)).2.2=0→restL m o st s n=((m,o,st,(parse (s.drop n)).1),n+(parse (s.drop n)).2.1,0)):=restL_ok
 have HR2:Hid ((parse (s.drop n)).2.2≠0→restL m o st s n=(noHead,0,(parse (s.drop n)).2.2)):=restL_bad
 have hsd:(s.drop n).length < 4294967000:=by rw [List.length_drop];omega
 have HSD:=hid hsd;clear hsd
 generalize parse (s.drop n)=p at HPE HR HR2 hkb
 obtain ⟨fs,k,e0⟩:=p
 simp only at hkb
 go_enter Tryz.func132,Tryz.ntmps132
 go_upto_region 1 with fail
 have hb1:=hid (Bk.new w 123 #[str m,str o,.int .i64 st,.slice none 0 0] (0,0))
 have hG1:Gr w (w.alloc (Obj.cells #[str m,str o,.int .i64 st,.slice none 0 0] 123)):=Gr.al (Gr.refl w) _
 have hz1:(w.alloc (Obj.cells #[str m,str o,.int .i64 st,.slice none 0 0] 123)).heap.size=w.heap.size+1:=by simp
 generalize hw1:w.alloc (Obj.cells #[str m,str o,.int .i64 st,.slice none 0 0] 123)=w1 at *
 have hb2:=hid (Bk.new w1 123 #[str [],str [],.int .i64 0,.slice none 0 0] (0,0))
 have hG2:Gr w1 (w1.alloc (Obj.cells #[str [],str [],.int .i64 0,.slice none 0 0] 123)):=Gr.al (Gr.refl w1) _
 have HZ2:=hid (show w1.heap.size+1=(w1.alloc (Obj.cells #[str [],str [],.int .i64 0,.slice none 0 0] 123)).heap.size by simp)
 generalize hw2:w1.alloc (Obj.cells #[str [],str [],.int .i64 0,.slice none 0 0] 123)=w2 at *
 have hG12:=Gr.tr hG1 hG2
 have HB2:=hid (HB.out.gr hG12)
 rw [hz1] at hb2
 clear hw1 hw2 HB
 go_wp2_with (first
  | (refine wpList_slLo _ _ rfl rfl rfl rfl HB2.out ?_ ?_ ?_;omega;omega;intro A2 hA2;have HA2:=hid hA2;clear hA2)
  | (refine wpList_toStr _ rfl rfl rfl HA2.out ?_))
 refine (HPE.out _ (HM.out.gr hG12) HSD.out).mono ?_
 rintro e w3 ⟨pv,rfl,hpv,hG3,hfr⟩
 obtain ⟨A3,c3,rfl⟩:=hpv.slice
 have HV:=hid hpv
 have hbb1:=hid ((hb1.out.gr hG2).gr hG3)
 have hbb2:=hid (hb2.out.gr hG3)
 have hGw:=Gr.tr hG12 hG3
 have hsz2:w2.heap.size=w.heap.size+2:=by rw [←HZ2.out,hz1]
 have HFR:=hid hfr
 have HFW:=hid (Fresh.tr hG12 hfr)
 clear hpv hb1 hb2 hG1 hG2 hG3 hG12 HPE HB2 HA2 hfr
 have hz2:w.heap.size+1≠w.heap.size:=by omega
 have hz3:w.heap.size+1 < w2.heap.size:=by omega
 clear hsz2 HZ2 hz1
 generalize hg:w.heap.size=g at *
 obtain ⟨q0,q1,q2,q3⟩:=hbb1.out.cells4
 obtain ⟨f0,f1,f2,f3⟩:=hbb1.out.free4
 obtain ⟨y0,y1,y2,y3⟩:=hbb2.out.cells4
 obtain ⟨d0,d1,d2,d3⟩:=hbb2.out.free4
 by_cases he:e0=0
 ·subst he
  have HR3:Hid (restL m o st s n=((m,o,st,fs),n+k,0)):=HR.out rfl
  clear HR HR2
  go_wp2_with fail
  have hb3:=hbb2.out.far (p:=⟨g,3,none⟩) hz2 (.slice A3 fs.length c3)
  obtain ⟨x0,x1,x2,x3⟩:=(hb3.set4 (str m) (str o) (.int .i64 st) (.slice A3 fs.length c3)).cells4
  refine bodyPost_ret (v:=.tuple #[.agg #[str m,str o,.int .i64 st,.slice A3 fs.length c3],.int .i64 ((n:Int)+(k:Int)),.int .i64 0]) (by simp [results,Tryz.results132,go_sem,x0,x1,x2,x3]) rfl ?_
  rw [HR3.out]
  refine ⟨A3,c3,by simp,?_,Gr.st4 (Gr.st hGw (Nat.le_of_eq hg) _) (by omega) _ _ _ _,HFW.out⟩
  exact Flds.st4 (Flds.st HV.out (fresh_ne HFR.out (by omega)) _ _) (fresh_ne HFR.out (by omega)) _ _ _ _
 ·have HR3:Hid (restL m o st s n=(noHead,0,e0)):=HR2.out he
  have hne:((e0:Int) != 0)=true:=by simp;exact he
  clear HR HR2
  go_wp2_with fail
  obtain ⟨x0,x1,x2,x3⟩:=(hbb2.out.set4 (str []) (str []) (.int .i64 0) (.slice none 0 0)).cells4
  refine bodyPost_ret (v:=.tuple #[.agg #[str [],str [],.int .i64 0,.slice none 0 0],.int .i64 0,.int .i64 e0]) (by simp [results,Tryz.results132,go_sem,x0,x1,x2,x3]) rfl ?_
  rw [HR3.out]
  exact headEnd_none _ _ _ (Gr.st4 hGw (by omega) _ _ _ _)
end Go.Proofs.YtflepnkpihfidaaGreatDoor
namespace Go.Proofs.YtflepnkpihfidaaGreatDoor
open Lib (hid)
theorem statR_yes {r:List UInt8} (h1:3≤r.length) (h2:(r.take 3).all digC=true) (h3:(r.drop 3).all visC=true) (h4:∀h:3 < r.length,(r[3].toNat:Int)=32) (h5:100≤numB (r.take 3)∧numB (r.take 3)≤599):statR r=some (numB (r.take 3)):=by
 unfold statR
 rw [if_pos]
 refine ⟨h1,h2,h3,?_,h5.1,h5.2⟩
 rcases Nat.lt_or_ge 3 r.length with h | h
 ·right
  rw [List.getElem?_eq_getElem h]
  congr 1
  apply UInt8.toNat_inj.1
  have:=h4 h
  show r[3].toNat=32
  omega
 ·left;omega
theorem tellN_pre {x:List UInt8} (h:(httpB++[32]).isPrefixOf x=true):tellN x=statR (x.drop 9):=by unfold tellN;rw [h];rfl
theorem tellR_some {s x:List UInt8} {n k:Nat} (h:firstL s=(x,n,0)) (ht:tellN x=some k):tellR s=restL [] [] k s n:=by
 unfold tellR;rw [h];simp [ht]
end Go.Proofs.YtflepnkpihfidaaGreatDoor
namespace Go.Proofs.YtflepnkpihfidaaGreatDoor
open Lib (hid)
open Go.RowKit
end Go.Proofs.YtflepnkpihfidaaGreatDoor
namespace Go.Proofs.YtflepnkpihfidaaGreatDoor
open Lib (hid)
open Go.RowKit
def tellsB (m o:List UInt8) (st:Int):Bool:=m.isEmpty&&o.isEmpty&&decide (100≤st)&&decide (st≤599)
set_option maxHeartbeats 1000000 in
theorem tells_any (m o:List UInt8) (st:Int) (A:Option Addr) (n c:Nat) (w:World):Calls Tryz.prog 124 #[.agg #[str m,str o,.int .i64 st,.slice A n c]] w fun e w'=>e=.returned (.bool (tellsB m o st))∧Gr w w':=by
 cases hm:m.isEmpty with
 | false=>
   go_enter Tryz.func124,Tryz.ntmps124
   go_wp2_with fail
   go_ret
   exact ⟨by unfold tellsB;rw [hm];rfl,Gr.al (Gr.refl w) _⟩
 | true=>
   cases ho:o.isEmpty with
   | false=>
     go_enter Tryz.func124,Tryz.ntmps124
     go_wp2_with fail
     go_ret
     exact ⟨by unfold tellsB;rw [hm,ho];rfl,Gr.al (Gr.refl w) _⟩
   | true=>
     cases h1:decide (100≤st) with
     | false=>
       go_enter Tryz.func124,Tryz.ntmps124
       go_wp2_with fail
       go_ret
       exact ⟨by unfold tellsB;rw [hm,ho,h1];rfl,Gr.al (Gr.refl w) _⟩
     | true=>
       go_enter Tryz.func124,Tryz.ntmps124
       go_wp2_with fail
       go_ret
       exact ⟨by unfold tellsB;rw [hm,ho,h1];rfl,Gr.al (Gr.refl w) _⟩
end Go.Proofs.YtflepnkpihfidaaGreatDoor
