/- Several texts in one (their own heads say what each is). No conditions but those that each theorem names. -/
import Derived.Test.YtgfckbhkgggkeaaGreatDoorHeadLaw
import Derived.Test.YtgfckbhkgggkeaaGreatDoorJField2
import Derived.Test.YtgfckbhkgggkeaaGreatDoorJBytes
set_option linter.unusedVariables false
set_option linter.unusedSimpArgs false
/- XHeadLaw2 -/
namespace Go.Proofs.YtgfckbhkgggkeaaGreatDoor
open Lib (hid)
theorem parseGo_le (s:List UInt8) (fuel k:Nat) (acc:List Fld):(parseGo s fuel k acc).2.1≤s.length:=by
 induction fuel generalizing k acc with
 | zero=>simp [parseGo]
 | succ fuel ih=>
   cases hc:crlf (s.drop k) with
   | none=>rw [parseGo_none hc];split <;> simp
   | some j=>
     have hlt:=crlf_lt hc
     rw [List.length_drop] at hlt
     rw [parseGo_some hc]
     split
     ·simp
     ·split
      ·simp only;omega
      ·split
       ·simp
       ·split
        ·exact ih _ _
        ·simp
theorem parse_le (s:List UInt8):(parse s).2.1≤s.length:=parseGo_le s _ _ _
theorem restL_ok {m o:List UInt8} {st:Int} {s:List UInt8} {n:Nat} (h:(parse (s.drop n)).2.2=0):restL m o st s n=((m,o,st,(parse (s.drop n)).1),n+(parse (s.drop n)).2.1,0):=by
 unfold restL;simp only;rw [if_pos h]
theorem restL_bad {m o:List UInt8} {st:Int} {s:List UInt8} {n:Nat} (h:(parse (s.drop n)).2.2≠0):restL m o st s n=(noHead,0,(parse (s.drop n)).2.2):=by
 unfold restL;simp only;rw [if_neg h]
end Go.Proofs.YtgfckbhkgggkeaaGreatDoor
/- XHead1 -/
namespace Go.Proofs.YtgfckbhkgggkeaaGreatDoor
open Lib (hid)
open Go.RowKit
theorem Byts.idx {w:World} {A:Option Addr} {n c:Nat} {l:List UInt8} (hb:Byts w (.slice A n c) l) (hm:Ml w) (hl:l.length < 4294967281) (b2 c2:Nat) (sub:List UInt8) (hs2:2≤sub.length) (hs3:sub.length≤1000)
  (h2:∀(i:Nat) (hi:i < sub.length),w.cell? ⟨b2,i,none⟩=some (byt sub[i])) :
  Calls Tryz.prog 93 #[.slice A n c,.slice (some ⟨b2,0,none⟩) sub.length c2] w fun e w'=>e=.returned (.int .i64 (Lib.index l sub))∧Gr w w':=by
 obtain ⟨rfl,hc⟩:=hb.len
 obtain ⟨m,hm⟩:=hm
 cases A with
 | none=>
   have hl0:l=[]:=by
    cases l with
    | nil=>rfl
    | cons x t=>obtain ⟨b,o,hA,_⟩:=hb.cellAt 0 (by simp);cases hA
   subst hl0
   have h:=Tryz.bytes_Index_longer none (some ⟨b2,0,none⟩) 0 c sub.length c2 w hs2 (by omega) (by omega)
   refine h.mono fun e w' ⟨he,hw⟩=>⟨?_,by rw [hw];exact Gr.refl w⟩
   rw [he]
   cases sub with
   | nil=>simp at hs2
   | cons x t=>rfl
 | some ad=>
   have h:=Tryz.bytes_Index_at ad ⟨b2,0,none⟩ l.length c sub.length c2 (l.map fun c=>(c.toNat:Int)) (sub.map fun c=>(c.toNat:Int)) m w (by simp) (by simp)
    (fun x hx=>by simp only [List.mem_map] at hx;obtain ⟨y,_,rfl⟩:=hx;have:=y.toNat_lt;omega)
    (fun x hx=>by simp only [List.mem_map] at hx;obtain ⟨y,_,rfl⟩:=hx;have:=y.toNat_lt;omega)
    (fun i hi=>by
     obtain ⟨b,o,hA,_,hcell⟩:=hb.cellAt i hi
     injection hA with hA
     subst hA
     have e1:(Addr.mk b o none).add i=⟨b,o+i,none⟩:=by unfold Addr.add;split <;> simp_all
     rw [e1,hcell,nums_at _ _ hi])
    (fun i hi=>by
     have e1:(Addr.mk b2 0 none).add i=⟨b2,i,none⟩:=by unfold Addr.add;split <;> simp_all
     rw [e1,h2 i hi,nums_at _ _ hi]) hc hl (by omega) hm
   rw [bytesOf_nums,bytesOf_nums] at h
   exact h.mono fun e w' ⟨he,q,hw⟩=>⟨he,by rw [hw];exact Gr.drN (Gr.refl w) q⟩
set_option maxHeartbeats 1000000 in
theorem first_any (v:Value) (s:List UInt8) (w:World) (hb:Byts w v s) (hm:Ml w) (hs:s.length < 4294967000) :
  Calls Tryz.prog 84 #[v] w fun e w'=>e=.returned (.tuple #[str (firstL s).1,.int .i64 (firstL s).2.1,.int .i64 (firstL s).2.2])∧Gr w w':=by
 obtain ⟨A,c,rfl,hc,hm',ho⟩:=hb.open
 have HB:=hid hb;have HM:=hid hm;clear hb hm ho
 have kc:=fun (w:World) (C:Array Value) (n c:Nat)=>Lib.run_convert_bytes_const (P:=Tryz.prog) w 30 5 C n c Tryz.underlying30 Tryz.underlying5
 go_enter Tryz.func84,Tryz.ntmps84
 go_wp2_with fail
 have hw1:=Bk.new w 5 #[.int .u8 13,.int .u8 10] (2,3)
 have hG1:Gr w (w.alloc (Obj.cells #[.int .u8 13,.int .u8 10] 5 (2,3))):=Gr.al (Gr.refl w) _
 have HI:=hid ((HB.out.gr hG1).idx (HM.out.gr hG1) (by omega) w.heap.size 2 [13,10] (by simp) (by simp) (fun i hi=>by
  rw [hw1.cell i]
  match i,hi with
  | 0,_=>rfl
  | 1,_=>rfl))
 clear hw1
 rw [crlf_lib] at HI
 cases hcr:crlf s with
 | none=>
   rw [hcr] at HI
   refine HI.out.mono ?_
   rintro e w1 ⟨rfl,hG⟩
   have hG2:=Gr.tr hG1 hG
   clear hG hG1 HI
   by_cases hl:s.length≤400
   ·have hf:=hid (show firstL s=([],0,3) from by unfold firstL;rw [hcr];simp [hl])
    clear hcr
    go_wp2_with fail
    go_ret3
    exact ⟨by rw [hf.out];rfl,hG2⟩
   ·have hf:=hid (show firstL s=([],0,2) from by unfold firstL;rw [hcr];simp [hl])
    clear hcr
    have hd:decide (s.length≤400)=false:=decide_eq_false hl
    go_wp2_with fail
    go_ret3
    exact ⟨by rw [hf.out];rfl,hG2⟩
 | some i=>
   rw [hcr] at HI
   have hlt:=crlf_lt hcr
   refine HI.out.mono ?_
   rintro e w1 ⟨rfl,hG⟩
   have hG2:=Gr.tr hG1 hG
   clear hG hG1 HI
   by_cases hl:400 < i
   ·have hf:=hid (show firstL s=([],0,2) from by unfold firstL;rw [hcr];simp [hl])
    clear hcr
    have hd:decide (400 < (i:Int))=true:=decide_eq_true (by omega)
    go_wp2_with fail
    go_ret3
    exact ⟨by rw [hf.out];rfl,hG2⟩
   ·have hf:=hid (show firstL s=(s.take i,i+2,0) from by unfold firstL;rw [hcr];simp [hl])
    clear hcr
    have hd:decide (400 < (i:Int))=false:=decide_eq_false (by omega)
    have HB2:=hid (HB.out.gr hG2)
    go_wp2_with (first
     | (refine wpList_slHi _ _ rfl rfl rfl rfl HB2.out ?_ ?_ ?_;omega;omega;intro A2 hA2;have HA2:=hid hA2;clear hA2)
     | (refine wpList_toStr _ rfl rfl rfl HA2.out ?_))
    go_ret3
    exact ⟨by rw [hf.out];rfl,hG2⟩
end Go.Proofs.YtgfckbhkgggkeaaGreatDoor
/- XHead2 -/
namespace Go.Proofs.YtgfckbhkgggkeaaGreatDoor
open Lib (hid)
open Go.RowKit
def HeadEnd (w:World) (r:HeadT×Nat×Nat) (e:Ending) (w':World):Prop:=
 ∃A c,e=.returned (.tuple #[.agg #[str r.1.1,str r.1.2.1,.int .i64 r.1.2.2.1,.slice A r.1.2.2.2.length c],.int .i64 r.2.1,.int .i64 r.2.2])∧Flds w' (.slice A r.1.2.2.2.length c) r.1.2.2.2∧Gr w w'∧Fresh w (.slice A r.1.2.2.2.length c)
theorem Flds.slice {w:World} {v:Value} {xs} (h:Flds w v xs):∃A c,v=.slice A xs.length c:=by
 obtain ⟨A,c,hv,_⟩:=h
 exact ⟨A,c,hv⟩
theorem headEnd_none (w w':World) (e:Nat) (g:Gr w w'):HeadEnd w (noHead,0,e) (.returned (.tuple #[.agg #[str [],str [],.int .i64 0,.slice none 0 0],.int .i64 0,.int .i64 e])) w':=
 ⟨none,0,rfl,nil_fld _,g,fresh_nil _⟩
theorem fresh_ne {w:World} {v:Value} {g:Nat} (h:Fresh w v) (hg:g < w.heap.size):v.ownBlock≠some g:=fun e=>by have:=h g e;omega
theorem Flds.st {w:World} {v:Value} {fs:List Fld} (h:Flds w v fs) {g:Nat} (hne:v.ownBlock≠some g) (i:Nat) (u:Value):Flds (w.setCell ⟨g,i,none⟩ u) v fs:=by
 obtain ⟨A,c,rfl,hc,hm,hh⟩:=h
 refine ⟨A,c,rfl,hc,hm,?_⟩
 rcases hh with hh | ⟨b,o,hA,hb,hj⟩
 ·exact .inl hh
 ·subst hA
  have hbg:b≠g:=by rintro rfl;exact hne rfl
  refine .inr ⟨b,o,rfl,by simpa [World.setCell] using hb,fun j u hu=>?_⟩
  rw [World.cell?_of_block (Below.heap_setCell w ⟨g,i,none⟩ _ b hbg)]
  exact hj j u hu
theorem Flds.st4 {w:World} {v:Value} {fs:List Fld} (h:Flds w v fs) {g:Nat} (hne:v.ownBlock≠some g) (x y z u:Value):Flds ((((w.setCell ⟨g,0,none⟩ x).setCell ⟨g,1,none⟩ y).setCell ⟨g,2,none⟩ z).setCell ⟨g,3,none⟩ u) v fs:=
 ((((h.st hne 0 x).st hne 1 y).st hne 2 z).st hne 3 u)
set_option maxHeartbeats 2000000 in
theorem fill_any (m o:List UInt8) (st:Int) (v:Value) (s:List UInt8) (n:Nat) (w:World) (hb:Byts w v s) (hm:Ml w) (hn:n≤s.length) (hs:s.length < 4294967000) :
  Calls Tryz.prog 87 #[.agg #[str m,str o,.int .i64 st,.slice none 0 0],v,.int .i64 n] w (HeadEnd w (restL m o st s n)):=by
 obtain ⟨A,c,rfl,hc,hm',ho⟩:=hb.open
 have HB:=hid hb;have HM:=hid hm;clear hb hm ho
 have hkb:=parse_le (s.drop n)
 rw [List.length_drop] at hkb
 have HPE:=hid (parse_anyF (s.drop n))
 have HR:Hid ((parse (s.drop n)).2.2=0→restL m o st s n=((m,o,st,(parse (s.drop n)).1),n+(parse (s.drop n)).2.1,0)):=restL_ok
 have HR2:Hid ((parse (s.drop n)).2.2≠0→restL m o st s n=(noHead,0,(parse (s.drop n)).2.2)):=restL_bad
 have hsd:(s.drop n).length < 4294967000:=by rw [List.length_drop];omega
 have HSD:=hid hsd;clear hsd
 generalize parse (s.drop n)=p at HPE HR HR2 hkb
 obtain ⟨fs,k,e0⟩:=p
 simp only at hkb
 go_enter Tryz.func87,Tryz.ntmps87
 go_upto_region 1 with fail
 have hb1:=hid (Bk.new w 120 #[str m,str o,.int .i64 st,.slice none 0 0] (0,0))
 have hG1:Gr w (w.alloc (Obj.cells #[str m,str o,.int .i64 st,.slice none 0 0] 120)):=Gr.al (Gr.refl w) _
 have hz1:(w.alloc (Obj.cells #[str m,str o,.int .i64 st,.slice none 0 0] 120)).heap.size=w.heap.size+1:=by simp
 generalize hw1:w.alloc (Obj.cells #[str m,str o,.int .i64 st,.slice none 0 0] 120)=w1 at *
 have hb2:=hid (Bk.new w1 120 #[str [],str [],.int .i64 0,.slice none 0 0] (0,0))
 have hG2:Gr w1 (w1.alloc (Obj.cells #[str [],str [],.int .i64 0,.slice none 0 0] 120)):=Gr.al (Gr.refl w1) _
 have HZ2:=hid (show w1.heap.size+1=(w1.alloc (Obj.cells #[str [],str [],.int .i64 0,.slice none 0 0] 120)).heap.size by simp)
 generalize hw2:w1.alloc (Obj.cells #[str [],str [],.int .i64 0,.slice none 0 0] 120)=w2 at *
 have hG12:=Gr.tr hG1 hG2
 have HB2:=hid (HB.out.gr hG12)
 rw [hz1] at hb2
 clear hw1 hw2 HB
 go_wp2_with (first
  | (refine wpList_slLo _ _ rfl rfl rfl rfl HB2.out ?_ ?_ ?_;omega;omega;intro A2 hA2;have HA2:=hid hA2;clear hA2)
  | (refine wpList_toStr _ rfl rfl rfl HA2.out ?_))
 refine (HPE.out _ (HM.out.gr hG12) HSD.out).mono ?_
 rintro e w3 ⟨pv,rfl,hpv,hG3,hfr⟩
 obtain ⟨A3,c3,rfl⟩:=hpv.slice
 have HV:=hid hpv
 have hbb1:=hid ((hb1.out.gr hG2).gr hG3)
 have hbb2:=hid (hb2.out.gr hG3)
 have hGw:=Gr.tr hG12 hG3
 have hsz2:w2.heap.size=w.heap.size+2:=by rw [←HZ2.out,hz1]
 have HFR:=hid hfr
 have HFW:=hid (Fresh.tr hG12 hfr)
 clear hpv hb1 hb2 hG1 hG2 hG3 hG12 HPE HB2 HA2 hfr
 have hz2:w.heap.size+1≠w.heap.size:=by omega
 have hz3:w.heap.size+1 < w2.heap.size:=by omega
 clear hsz2 HZ2 hz1
 generalize hg:w.heap.size=g at *
 obtain ⟨q0,q1,q2,q3⟩:=hbb1.out.cells4
 obtain ⟨f0,f1,f2,f3⟩:=hbb1.out.free4
 obtain ⟨y0,y1,y2,y3⟩:=hbb2.out.cells4
 obtain ⟨d0,d1,d2,d3⟩:=hbb2.out.free4
 by_cases he:e0=0
 ·subst he
  have HR3:Hid (restL m o st s n=((m,o,st,fs),n+k,0)):=HR.out rfl
  clear HR HR2
  go_wp2_with fail
  have hb3:=hbb2.out.far (p:=⟨g,3,none⟩) hz2 (.slice A3 fs.length c3)
  obtain ⟨x0,x1,x2,x3⟩:=(hb3.set4 (str m) (str o) (.int .i64 st) (.slice A3 fs.length c3)).cells4
  refine bodyPost_ret (v:=.tuple #[.agg #[str m,str o,.int .i64 st,.slice A3 fs.length c3],.int .i64 ((n:Int)+(k:Int)),.int .i64 0]) (by simp [results,Tryz.results87,go_sem,x0,x1,x2,x3]) rfl ?_
  rw [HR3.out]
  refine ⟨A3,c3,by simp,?_,Gr.st4 (Gr.st hGw (Nat.le_of_eq hg) _) (by omega) _ _ _ _,HFW.out⟩
  exact Flds.st4 (Flds.st HV.out (fresh_ne HFR.out (by omega)) _ _) (fresh_ne HFR.out (by omega)) _ _ _ _
 ·have HR3:Hid (restL m o st s n=(noHead,0,e0)):=HR2.out he
  have hne:((e0:Int) != 0)=true:=by simp;exact he
  clear HR HR2
  go_wp2_with fail
  obtain ⟨x0,x1,x2,x3⟩:=(hbb2.out.set4 (str []) (str []) (.int .i64 0) (.slice none 0 0)).cells4
  refine bodyPost_ret (v:=.tuple #[.agg #[str [],str [],.int .i64 0,.slice none 0 0],.int .i64 0,.int .i64 e0]) (by simp [results,Tryz.results87,go_sem,x0,x1,x2,x3]) rfl ?_
  rw [HR3.out]
  exact headEnd_none _ _ _ (Gr.st4 hGw (by omega) _ _ _ _)
end Go.Proofs.YtgfckbhkgggkeaaGreatDoor
/- XHeadLaw3 -/
namespace Go.Proofs.YtgfckbhkgggkeaaGreatDoor
open Lib (hid)
theorem statR_of {r:List UInt8} {n:Nat} (h:statR r=some n):3≤r.length∧(r.take 3).all digC=true∧(r.drop 3).all visC=true∧(r.length=3∨r[3]?=some 32)∧100≤numB (r.take 3)∧numB (r.take 3)≤599∧n=numB (r.take 3):=by
 unfold statR at h
 split at h
 ·rename_i hc;obtain ⟨h1,h2,h3,h4,h5,h6⟩:=hc;simp only [Option.some.injEq] at h;exact ⟨h1,h2,h3,h4,h5,h6,h.symm⟩
 ·cases h
theorem statR_no {r:List UInt8} (h:∀n,statR r=some n→False):statR r=none:=by
 cases hc:statR r with
 | none=>rfl
 | some n=>exact (h n hc).elim
theorem statR_short {r:List UInt8} (h:r.length < 3):statR r=none:=statR_no fun n hn=>by have:=(statR_of hn).1;omega
theorem statR_blank {r:List UInt8} (h:3 < r.length) (hc:(r[3].toNat:Int)≠32):statR r=none:=statR_no fun n hn=>by
 rcases (statR_of hn).2.2.2.1 with h1 | h1
 ·omega
 ·rw [List.getElem?_eq_getElem h] at h1;injection h1 with h1;rw [h1] at hc;exact hc rfl
theorem statR_dig {r:List UInt8} {k:Nat} (hk:k < 3) (hr:3≤r.length) (hc:digC r[k]=false):statR r=none:=statR_no fun n hn=>by
 have h1:=List.all_eq_true.1 (statR_of hn).2.1 r[k] (by
  rw [List.mem_take_iff_getElem];exact ⟨k,by omega,rfl⟩)
 rw [hc] at h1;cases h1
theorem statR_vis {r:List UInt8} {k:Nat} (hk:k < r.length) (h3:3≤k) (hc:visC r[k]=false):statR r=none:=statR_no fun n hn=>by
 have h1:=List.all_eq_true.1 (statR_of hn).2.2.1 r[k] (by
  rw [List.mem_drop_iff_getElem];exact ⟨k-3,by omega,by congr 1;omega⟩)
 rw [hc] at h1;cases h1
theorem statR_num {r:List UInt8} (h:¬(100≤numB (r.take 3)∧numB (r.take 3)≤599)):statR r=none:=statR_no fun n hn=>by
 have:=statR_of hn;exact h ⟨this.2.2.2.2.1,this.2.2.2.2.2.1⟩
theorem statR_yes {r:List UInt8} (h1:3≤r.length) (h2:(r.take 3).all digC=true) (h3:(r.drop 3).all visC=true) (h4:∀h:3 < r.length,(r[3].toNat:Int)=32) (h5:100≤numB (r.take 3)∧numB (r.take 3)≤599):statR r=some (numB (r.take 3)):=by
 unfold statR
 rw [if_pos]
 refine ⟨h1,h2,h3,?_,h5.1,h5.2⟩
 rcases Nat.lt_or_ge 3 r.length with h | h
 ·right
  rw [List.getElem?_eq_getElem h]
  congr 1
  apply UInt8.toNat_inj.1
  have:=h4 h
  show r[3].toNat=32
  omega
 ·left;omega
theorem numB_3 {r:List UInt8} {k:Nat} (hk:k≤3) (h:(r.take k).all digC=true):numB (r.take k)≤999:=by
 have h1:=numB_lt _ h
 have h2:10 ^ (r.take k).length≤10 ^ 3:=Nat.pow_le_pow_right (by omega) (by rw [List.length_take];omega)
 omega
theorem tellN_none {x:List UInt8} (h:(httpB++[32]).isPrefixOf x=false):tellN x=none:=by unfold tellN;rw [h];rfl
theorem tellN_pre {x:List UInt8} (h:(httpB++[32]).isPrefixOf x=true):tellN x=statR (x.drop 9):=by unfold tellN;rw [h];rfl
theorem tellR_bad {s:List UInt8} {e:Nat} (h:firstL s=([],0,e)) (he:e≠0):tellR s=(noHead,0,e):=by
 unfold tellR;rw [h];simp [he]
theorem tellR_none {s x:List UInt8} {n:Nat} (h:firstL s=(x,n,0)) (ht:tellN x=none):tellR s=(noHead,0,2):=by
 unfold tellR;rw [h];simp [ht]
theorem tellR_some {s x:List UInt8} {n k:Nat} (h:firstL s=(x,n,0)) (ht:tellN x=some k):tellR s=restL [] [] k s n:=by
 unfold tellR;rw [h];simp [ht]
theorem visC_iff (c:UInt8):visC c=true↔((32≤(c.toNat:Int)∧(c.toNat:Int)≤126)∨(c.toNat:Int)=9):=by
 constructor
 ·intro h;apply Classical.byContradiction;intro hn;rw [visC_no c hn] at h;cases h
 ·exact visC_yes c
theorem drop_all_succ {r:List UInt8} {k:Nat} (p:UInt8→Bool) (h3:3≤k) (hk:k < r.length) (h:((r.take k).drop 3).all p=true) (hc:p r[k]=true):((r.take (k+1)).drop 3).all p=true:=by
 rw [take_snoc r k hk,List.drop_append_of_le_length (by rw [List.length_take];omega),List.all_append,h]
 simp [hc]
theorem drop_all_end {r:List UInt8} {k:Nat} (p:UInt8→Bool) (hk:¬k < r.length) (h:((r.take k).drop 3).all p=true):(r.drop 3).all p=true:=by
 rwa [List.take_of_length_le (by omega)] at h
theorem pre9 {x:List UInt8} (h:9≤x.length):(httpB++[32]).isPrefixOf x=(x.take 9==httpB++[32]):=by
 rw [Bool.eq_iff_iff,List.isPrefixOf_iff_prefix,beq_iff_eq]
 constructor
 ·rintro ⟨t,rfl⟩;rfl
 ·intro e;exact ⟨x.drop 9,by rw [←e,List.take_append_drop]⟩
theorem tellN_short {x:List UInt8} (h:x.length < 12):tellN x=none:=by
 cases hp:(httpB++[32]).isPrefixOf x with
 | false=>exact tellN_none hp
 | true=>rw [tellN_pre hp];exact statR_short (by rw [List.length_drop];omega)
theorem drop9_at {x : List UInt8} {j : Nat} (h9 : 9 ≤ j) (hj : j < x.length) : (x.drop 9)[j - 9]'(by rw [List.length_drop]; omega) = x[j] := by
 rw [List.getElem_drop];congr 1;omega
theorem take_drop9 (x:List UInt8) (j:Nat) (h:9≤j):(x.take j).drop 9=(x.drop 9).take (j-9):=by rw [List.drop_take]
theorem num9_succ {x:List UInt8} {j:Nat} (h9:9≤j) (hj:j < x.length):numB ((x.take (j+1)).drop 9)=numB ((x.take j).drop 9)*10+(x[j].toNat-48):=by
 rw [take_drop9 x (j+1) (by omega),take_drop9 x j h9,show j+1-9=(j-9)+1 from by omega,numB_succ _ _ (by rw [List.length_drop];omega),drop9_at h9 hj]
theorem dig9_succ {x:List UInt8} {j:Nat} (h9:9≤j) (hj:j < x.length) (h:((x.take j).drop 9).all digC=true) (hc:digC x[j]=true):((x.take (j+1)).drop 9).all digC=true:=by
 rw [take_snoc x j hj,List.drop_append_of_le_length (by rw [List.length_take];omega),List.all_append,h]
 simp [hc]
theorem num9_le {x:List UInt8} {j:Nat} (h9:9≤j) (hj:j≤12) (h:((x.take j).drop 9).all digC=true):numB ((x.take j).drop 9)≤999:=by
 rw [take_drop9 x j h9] at *;exact numB_3 (by omega) h
theorem tell_dig {x:List UInt8} {j:Nat} (hp:(httpB++[32]).isPrefixOf x=true) (h9:9≤j) (hj:j < 12) (hx:12≤x.length) (hc:digC x[j]=false):tellN x=none:=by
 rw [tellN_pre hp];exact statR_dig (k:=j-9) (by omega) (by rw [List.length_drop];omega) (by rw [drop9_at h9 (by omega)];exact hc)
theorem tell_vis {x:List UInt8} {j:Nat} (hp:(httpB++[32]).isPrefixOf x=true) (h9:12≤j) (hj:j < x.length) (hc:visC x[j]=false):tellN x=none:=by
 rw [tellN_pre hp];exact statR_vis (k:=j-9) (by rw [List.length_drop];omega) (by omega) (by rw [drop9_at (by omega) hj];exact hc)
theorem tell_blank {x:List UInt8} (hp:(httpB++[32]).isPrefixOf x=true) (hx:12 < x.length) (hc:(x[12].toNat:Int)≠32):tellN x=none:=by
 rw [tellN_pre hp]
 refine statR_blank (by rw [List.length_drop];omega) ?_
 rw [show (x.drop 9)[3]'(by rw [List.length_drop]; omega) = x[12] from drop9_at (j := 12) (by omega) hx]
 exact hc
theorem tell_num {x:List UInt8} (hp:(httpB++[32]).isPrefixOf x=true) (h:¬(100≤numB ((x.take 12).drop 9)∧numB ((x.take 12).drop 9)≤599)):tellN x=none:=by
 rw [tellN_pre hp];exact statR_num (by rw [take_drop9 x 12 (by omega)] at h;exact h)
theorem vis12_succ {x:List UInt8} {j:Nat} (h9:12≤j) (hj:j < x.length) (h:((x.take j).drop 12).all visC=true) (hc:visC x[j]=true):((x.take (j+1)).drop 12).all visC=true:=by
 rw [take_snoc x j hj,List.drop_append_of_le_length (by rw [List.length_take];omega),List.all_append,h]
 simp [hc]
theorem tell_yes {x:List UInt8} {j:Nat} (hp:(httpB++[32]).isPrefixOf x=true) (hx:12≤x.length) (hj:¬j < x.length) (hd:((x.take 12).drop 9).all digC=true) (hv:((x.take j).drop 12).all visC=true)
  (hb:∀h:12 < x.length,(x[12].toNat:Int)=32) (hn:100≤numB ((x.take 12).drop 9)∧numB ((x.take 12).drop 9)≤599):tellN x=some (numB ((x.take 12).drop 9)):=by
 rw [tellN_pre hp,take_drop9 x 12 (by omega)] at *
 rw [List.take_of_length_le (by omega)] at hv
 refine statR_yes (by rw [List.length_drop];omega) hd (by rw [List.drop_drop];exact hv) (fun h=>?_) hn
 rw [List.length_drop] at h
 rw [show (x.drop 9)[3]'(by rw [List.length_drop]; omega) = x[12] from drop9_at (j := 12) (by omega) (by omega)]
 exact hb (by omega)
end Go.Proofs.YtgfckbhkgggkeaaGreatDoor
/- XHead3 -/
namespace Go.Proofs.YtgfckbhkgggkeaaGreatDoor
open Lib (hid)
open Go.RowKit
set_option maxHeartbeats 2000000 in
theorem refRest_any (m o:List UInt8) (st:Int) (s:List UInt8) (n:Nat) (w:World) (hn:n≤s.length) (hs:s.length < 4294967000) :
  Calls Tryz.prog 49 #[.agg #[str m,str o,.int .i64 st,.slice none 0 0],str s,.int .i64 n] w (HeadEnd w (restL m o st s n)):=by
 have hkb:=parse_le (s.drop n)
 rw [List.length_drop] at hkb
 have HPE:=hid (refParse_anyF (s.drop n))
 have HR:Hid ((parse (s.drop n)).2.2=0→restL m o st s n=((m,o,st,(parse (s.drop n)).1),n+(parse (s.drop n)).2.1,0)):=restL_ok
 have HR2:Hid ((parse (s.drop n)).2.2≠0→restL m o st s n=(noHead,0,(parse (s.drop n)).2.2)):=restL_bad
 have hsd:(s.drop n).length < 4294967000:=by rw [List.length_drop];omega
 have HSD:=hid hsd;clear hsd
 generalize parse (s.drop n)=p at HPE HR HR2 hkb
 obtain ⟨fs,k,e0⟩:=p
 simp only at hkb
 go_enter Tryz.func49,Tryz.ntmps49
 go_upto_region 1 with fail
 have hb1:=hid (Bk.new w 39 #[str m,str o,.int .i64 st,.slice none 0 0] (0,0))
 have hG1:Gr w (w.alloc (Obj.cells #[str m,str o,.int .i64 st,.slice none 0 0] 39)):=Gr.al (Gr.refl w) _
 have hz1:(w.alloc (Obj.cells #[str m,str o,.int .i64 st,.slice none 0 0] 39)).heap.size=w.heap.size+1:=by simp
 generalize hw1:w.alloc (Obj.cells #[str m,str o,.int .i64 st,.slice none 0 0] 39)=w1 at *
 have hb2:=hid (Bk.new w1 39 #[str [],str [],.int .i64 0,.slice none 0 0] (0,0))
 have hG2:Gr w1 (w1.alloc (Obj.cells #[str [],str [],.int .i64 0,.slice none 0 0] 39)):=Gr.al (Gr.refl w1) _
 have HZ2:=hid (show w1.heap.size+1=(w1.alloc (Obj.cells #[str [],str [],.int .i64 0,.slice none 0 0] 39)).heap.size by simp)
 generalize hw2:w1.alloc (Obj.cells #[str [],str [],.int .i64 0,.slice none 0 0] 39)=w2 at *
 have hG12:=Gr.tr hG1 hG2
 rw [hz1] at hb2
 clear hw1 hw2
 go_wp2_with fail
 refine (HPE.out _ HSD.out).mono ?_
 rintro e w3 ⟨pv,rfl,hpv,hG3,hfr⟩
 obtain ⟨A3,c3,rfl⟩:=hpv.slice
 have HV:=hid hpv
 have hbb1:=hid ((hb1.out.gr hG2).gr hG3)
 have hbb2:=hid (hb2.out.gr hG3)
 have hGw:=Gr.tr hG12 hG3
 have hsz2:w2.heap.size=w.heap.size+2:=by rw [←HZ2.out,hz1]
 have HFR:=hid hfr
 have HFW:=hid (Fresh.tr hG12 hfr)
 clear hpv hb1 hb2 hG1 hG2 hG3 hG12 HPE hfr
 have hz2:w.heap.size+1≠w.heap.size:=by omega
 have hz3:w.heap.size+1 < w2.heap.size:=by omega
 clear hsz2 HZ2 hz1
 generalize hg:w.heap.size=g at *
 obtain ⟨q0,q1,q2,q3⟩:=hbb1.out.cells4
 obtain ⟨f0,f1,f2,f3⟩:=hbb1.out.free4
 obtain ⟨y0,y1,y2,y3⟩:=hbb2.out.cells4
 obtain ⟨d0,d1,d2,d3⟩:=hbb2.out.free4
 by_cases he:e0=0
 ·subst he
  have HR3:Hid (restL m o st s n=((m,o,st,fs),n+k,0)):=HR.out rfl
  clear HR HR2
  go_wp2_with fail
  have hb3:=hbb2.out.far (p:=⟨g,3,none⟩) hz2 (.slice A3 fs.length c3)
  obtain ⟨x0,x1,x2,x3⟩:=(hb3.set4 (str m) (str o) (.int .i64 st) (.slice A3 fs.length c3)).cells4
  refine bodyPost_ret (v:=.tuple #[.agg #[str m,str o,.int .i64 st,.slice A3 fs.length c3],.int .i64 ((n:Int)+(k:Int)),.int .i64 0]) (by simp [results,Tryz.results49,go_sem,x0,x1,x2,x3]) rfl ?_
  rw [HR3.out]
  refine ⟨A3,c3,by simp,?_,Gr.st4 (Gr.st hGw (Nat.le_of_eq hg) _) (by omega) _ _ _ _,HFW.out⟩
  exact Flds.st4 (Flds.st HV.out (fresh_ne HFR.out (by omega)) _ _) (fresh_ne HFR.out (by omega)) _ _ _ _
 ·have HR3:Hid (restL m o st s n=(noHead,0,e0)):=HR2.out he
  have hne:((e0:Int) != 0)=true:=by simp;exact he
  clear HR HR2
  go_wp2_with fail
  obtain ⟨x0,x1,x2,x3⟩:=(hbb2.out.set4 (str []) (str []) (.int .i64 0) (.slice none 0 0)).cells4
  refine bodyPost_ret (v:=.tuple #[.agg #[str [],str [],.int .i64 0,.slice none 0 0],.int .i64 0,.int .i64 e0]) (by simp [results,Tryz.results49,go_sem,x0,x1,x2,x3]) rfl ?_
  rw [HR3.out]
  exact headEnd_none _ _ _ (Gr.st4 hGw (by omega) _ _ _ _)
theorem line12_hit {l:List UInt8} {k:Nat} (h:k+1 < l.length) (h1:(l[k].toNat:Int)=13) (h2:(l[k+1].toNat:Int)=10) (he:lineAt l k=lineAt l 0):crlf l=some k:=by
 rw [lineAt_hit h h1 h2] at he
 unfold lineAt at he
 rw [List.drop_zero] at he
 cases hc:crlf l with
 | none=>rw [hc] at he;simp only at he;omega
 | some j=>rw [hc] at he;simp only at he;congr 1;omega
theorem line12_none {l:List UInt8} {k:Nat} (h:¬k+1 < l.length) (he:lineAt l k=lineAt l 0):crlf l=none:=by
 rw [lineAt_end h] at he
 unfold lineAt at he
 rw [List.drop_zero] at he
 cases hc:crlf l with
 | none=>rfl
 | some j=>rw [hc] at he;simp only at he;omega
def lineL (s:List UInt8):List UInt8×Int:=match crlf s with
 | none=>([],-1)
 | some i=>(s.take i,(i:Int)+2)
set_option maxHeartbeats 1000000 in
theorem refLine_any (l:List UInt8) (w:World) (_hl:l.length≤9223372036854775000):Calls Tryz.prog 73 #[str l] w fun e w'=>e=.returned (.tuple #[str (lineL l).1,.int .i64 (lineL l).2])∧Gr w w':=by
 go_enter Tryz.func73,Tryz.ntmps73
 go_wp2_with fail
 go_loopw [2,3,4] (fun r1 r2 j wr=>∃k:Nat,k≤l.length∧r1=str []∧r2=.int .i64 0∧j=.int .i64 k∧Gr w wr∧lineAt l k=lineAt l 0) (fun _ _ j _=>l.length-(intOf j).toNat)
 case atStart=>exact ⟨0,Nat.zero_le _,rfl,rfl,rfl,Gr.refl _,rfl⟩
 case round=>
  obtain ⟨k,hk,rfl,rfl,rfl,hG,hE⟩:=hrel
  have HE:=hid hE;clear hE
  by_cases hlt:k+1 < l.length
  ·by_cases h1:(l[k].toNat:Int)=13
   ·by_cases h2:(l[k+1].toNat:Int)=10
    ·have hb1:((l[k].toNat:Int)==13)=true:=by simp [h1]
     have hb2:((l[k+1].toNat:Int)==10)=true:=by simp [h2]
     have hit:=hid (line12_hit hlt h1 h2 HE.out)
     clear h1 h2
     go_wp2_with fail
     go_ret2
     exact ⟨by unfold lineL;rw [hit.out];rfl,hG⟩
    ·have hb1:((l[k].toNat:Int)==13)=true:=by simp [h1]
     have hb2:((l[k+1].toNat:Int)==10)=false:=by simp [h2]
     have hit:=hid (lineAt_miss hlt (fun h=>h2 h.2))
     clear h1 h2
     go_wp2_with fail
     exact ⟨⟨k+1,by omega,rfl,rfl,by go_num,hG,by rw [←HE.out,hit.out]⟩,by simp [intOf];omega⟩
   ·have hb1:((l[k].toNat:Int)==13)=false:=by simp [h1]
    have hit:=hid (lineAt_miss hlt (fun h=>h1 h.1))
    clear h1
    go_wp2_with fail
    exact ⟨⟨k+1,by omega,rfl,rfl,by go_num,hG,by rw [←HE.out,hit.out]⟩,by simp [intOf];omega⟩
  ·have he:=hid (line12_none hlt HE.out)
   go_wp2_with fail
   go_ret2
   exact ⟨by unfold lineL;rw [he.out];rfl,hG⟩
set_option maxHeartbeats 1000000 in
theorem refFirst_any (s:List UInt8) (w:World) (hs:s.length≤9223372036854775000) :
  Calls Tryz.prog 48 #[str s] w fun e w'=>e=.returned (.tuple #[str (firstL s).1,.int .i64 (firstL s).2.1,.int .i64 (firstL s).2.2])∧Gr w w':=by
 have HL:=hid (refLine_any s w (by omega))
 cases hcr:crlf s with
 | none=>
   have hln:lineL s=([],-1):=by unfold lineL;rw [hcr]
   rw [hln] at HL
   clear hln
   by_cases hl:s.length≤400
   ·have hf:=hid (show firstL s=([],0,3) from by unfold firstL;rw [hcr];simp [hl])
    clear hcr
    go_enter Tryz.func48,Tryz.ntmps48
    go_wp2_with (go_at_call 73;refine HL.out.mono ?_;rintro e w1 ⟨rfl,hG1⟩)
    go_ret3
    exact ⟨by rw [hf.out];rfl,hG1⟩
   ·have hf:=hid (show firstL s=([],0,2) from by unfold firstL;rw [hcr];simp [hl])
    clear hcr
    have hd:decide (s.length≤400)=false:=decide_eq_false hl
    go_enter Tryz.func48,Tryz.ntmps48
    go_wp2_with (go_at_call 73;refine HL.out.mono ?_;rintro e w1 ⟨rfl,hG1⟩)
    go_ret3
    exact ⟨by rw [hf.out];rfl,hG1⟩
 | some i=>
   have hlt:=crlf_lt hcr
   have hln:lineL s=(s.take i,(i:Int)+2):=by unfold lineL;rw [hcr]
   rw [hln] at HL
   clear hln
   have hmin:min i s.length=i:=by omega
   by_cases hl:400 < i
   ·have hf:=hid (show firstL s=([],0,2) from by unfold firstL;rw [hcr];simp [hl])
    clear hcr
    go_enter Tryz.func48,Tryz.ntmps48
    go_wp2_with (go_at_call 73;refine HL.out.mono ?_;rintro e w1 ⟨rfl,hG1⟩)
    go_ret3
    exact ⟨by rw [hf.out];rfl,hG1⟩
   ·have hf:=hid (show firstL s=(s.take i,i+2,0) from by unfold firstL;rw [hcr];simp [hl])
    clear hcr
    go_enter Tryz.func48,Tryz.ntmps48
    go_wp2_with (go_at_call 73;refine HL.out.mono ?_;rintro e w1 ⟨rfl,hG1⟩)
    go_ret3
    exact ⟨by rw [hf.out];rfl,hG1⟩
end Go.Proofs.YtgfckbhkgggkeaaGreatDoor
/- XHead4 -/
namespace Go.Proofs.YtgfckbhkgggkeaaGreatDoor
open Lib (hid)
open Go.RowKit
theorem cutPre_any (s p:List UInt8) (w:World):Calls Tryz.prog 85 #[str s,str p] w fun e w'=>e=.returned (.tuple #[str (Lib.trimPrefix s p),.bool (p.isPrefixOf s)])∧Gr w w':=
 (Tryz.strings_CutPrefix ⟨s.toArray⟩ ⟨p.toArray⟩ w).mono fun _ _ ⟨h1,h2⟩=>⟨by rw [h1];rfl,by rw [h2];exact Gr.refl _⟩
def tellsB (m o:List UInt8) (st:Int):Bool:=m.isEmpty&&o.isEmpty&&decide (100≤st)&&decide (st≤599)
set_option maxHeartbeats 1000000 in
theorem tells_any (m o:List UInt8) (st:Int) (A:Option Addr) (n c:Nat) (w:World):Calls Tryz.prog 86 #[.agg #[str m,str o,.int .i64 st,.slice A n c]] w fun e w'=>e=.returned (.bool (tellsB m o st))∧Gr w w':=by
 cases hm:m.isEmpty with
 | false=>
   go_enter Tryz.func86,Tryz.ntmps86
   go_wp2_with fail
   go_ret
   exact ⟨by unfold tellsB;rw [hm];rfl,Gr.al (Gr.refl w) _⟩
 | true=>
   cases ho:o.isEmpty with
   | false=>
     go_enter Tryz.func86,Tryz.ntmps86
     go_wp2_with fail
     go_ret
     exact ⟨by unfold tellsB;rw [hm,ho];rfl,Gr.al (Gr.refl w) _⟩
   | true=>
     cases h1:decide (100≤st) with
     | false=>
       go_enter Tryz.func86,Tryz.ntmps86
       go_wp2_with fail
       go_ret
       exact ⟨by unfold tellsB;rw [hm,ho,h1];rfl,Gr.al (Gr.refl w) _⟩
     | true=>
       go_enter Tryz.func86,Tryz.ntmps86
       go_wp2_with fail
       go_ret
       exact ⟨by unfold tellsB;rw [hm,ho,h1];rfl,Gr.al (Gr.refl w) _⟩
end Go.Proofs.YtgfckbhkgggkeaaGreatDoor
