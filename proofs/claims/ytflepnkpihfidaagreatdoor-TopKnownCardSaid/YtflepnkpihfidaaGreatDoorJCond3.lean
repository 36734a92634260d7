/- Parts. No conditions but those that each theorem names. -/
import Derived.Test.YtflepnkpihfidaaGreatDoorJCond2
import Derived.Test.YtflepnkpihfidaaGreatDoorJField2
set_option linter.unusedVariables false
set_option linter.unusedSimpArgs false
namespace Go.Proofs.YtflepnkpihfidaaGreatDoor
open Lib (hid)
open Go.RowKit
theorem neq_tag (w:World) (a c:List UInt8) (b d:Bool):(binOp .neq 25 (.agg #[str a,.bool b]) (.agg #[str c,.bool d])).run Tryz.prog w=.ok (.bool (!((a,b)==(c,d)))) w:=by
 rw [run_neq_struct,show (10000:Nat)=9998+1+1 from rfl,run_equalIn_agg _ _ _ _ _ (by kernel_rfl) (by kernel_rfl)]
 have hf : (Tryz.prog.fieldsOf 25).toList.map (fun f => (f.name, f.type, f.offset)) = [("Text", 9, 0), ("Weak", 4, 1)] := by kernel_rfl
 generalize (Tryz.prog.fieldsOf 25).toList=fs at hf
 obtain ⟨f,g,rfl,hf1,hf2⟩:=two_of_map hf
 ·simp only [Prod.mk.injEq] at hf1 hf2
  obtain ⟨n1,t1,o1⟩:=hf1
  obtain ⟨n2,t2,o2⟩:=hf2
  have e:((a,b)==(c,d))=(a==c&&b==d):=rfl
  rw [e]
  simp only [Op.eqFields,n1,t1,o1,n2,t2,o2]
  cases h1:(a==c) <;> cases h2:(b==d) <;> simp [go_sem,h1,h2]
theorem own_ne_ty {W0 w:World} {e t:TypeId} {size n k:Nat} {v:Value} {xs:List Value} {cs:Array Value} {fr:Nat×Nat} (h:Own W0 w e size v n xs) (hb:Bk w k t cs fr) (hne:t≠e):v.ownBlock≠some k:=by
 rcases h.2 with ⟨hv,_⟩ | ⟨g,cap,cur,hv,_,hh,_⟩
 ·rw [hv];simp [Value.ownBlock]
 ·rw [hv]
  intro he
  have:g=k:=by simpa [Value.ownBlock] using he
  subst this
  unfold Bk at hb
  rw [hh] at hb
  injection hb with hb
  injection hb with _ hb _
  exact hne hb.symm
structure PutS (w:World) (gl g1:Nat) (cs:Array Value) (F:List Fld) (x:World):Prop where
 gr:Gr w x
 lo:w.heap.size≤gl
 box:Bk x g1 27 cs (0,0)
 row:∃v,Bk x gl 34 #[v] (0,0)∧Own w x 127 2 v F.length (flat2 F)
theorem PutS.to {w:World} {gl g1:Nat} {cs:Array Value} {F:List Fld} {x x':World} (h:PutS w gl g1 cs F x) (g:Gr x x'):PutS w gl g1 cs F x':=by
 obtain ⟨v,h1,h2⟩:=h.row
 exact ⟨Gr.tr h.gr g,h.lo,h.box.gr g,v,h1.gr g,h2.gr g⟩
theorem condNeF:(27:Nat)≠127:=by decide
theorem fldsNeF:(34:Nat)≠127:=by decide
theorem elemFld8:ElemOk Tryz.prog 34 127 (.agg #[str [],str []]) 2 32:=⟨Tryz.underlying34,by kernel_rfl,rfl,by omega⟩
theorem one_fld8 (a b:List UInt8):∀u∈[str a,str b],u.oneCell'=true:=by
 intro u hu
 simp only [List.mem_cons,List.not_mem_nil,or_false] at hu
 rcases hu with rfl | rfl <;> rfl
set_option maxHeartbeats 2000000 in
theorem putF_any (name val:List UInt8) (w x:World) (gl g1:Nat) (cs:Array Value) (F:List Fld) (h:PutS w gl g1 cs F x) (hne:g1≠gl) (hl:F.length≤100) :
  Calls Tryz.prog 120 #[str name,str val,.pointer (some ⟨gl,0,none⟩)] x fun e x'=>e=.returned (.tuple #[])∧PutS w gl g1 cs (F++[(name,val)]) x':=by
 obtain ⟨v,hb,hown⟩:=h.row
 obtain ⟨A,c,rfl⟩:=hown.form
 have q:x.cell? ⟨gl,0,none⟩=some (.slice A F.length c):=hb.cell 0
 have HB:=hid hb;have HO:=hid hown;have HH:=hid h
 clear hb hown h
 go_enter Tryz.func120,Tryz.ntmps120
 go_wp2_with (at_builtin;refine wpList_app1x (W0:=w) (W:=x) (n:=F.length) (xs:=flat2 F) (v:=.slice A F.length c) (news:=[str name,str val]) elemFld8 rfl _ _ rfl rfl rfl HH.out.gr.size HO.out rfl (one_fld8 _ _) (by omega) (by omega) ?_)
 intro v' x' hown' happ
 obtain ⟨A',c',rfl⟩:=hown'.form
 have hb':Bk x' gl 34 #[.slice A F.length c] (0,0):=(happ.grown.block gl HB.out.lt (Ne.symm (own_ne_ty HO.out HB.out fldsNeF))).trans HB.out
 have q':x'.cell? ⟨gl,0,none⟩=some (.slice A F.length c):=hb'.cell 0
 have f':=hb'.free 0 (.inr (Nat.le_refl _))
 have hx':Bk x' g1 27 cs (0,0):=(happ.grown.block g1 HH.out.box.lt (Ne.symm (own_ne_ty HO.out HH.out.box condNeF))).trans HH.out.box
 have HF:=hid (show PutS w gl g1 cs (F++[(name,val)]) (x'.setCell ⟨gl,0,none⟩ (.slice A' (F.length+1) c')) from by
  refine ⟨Gr.st (happ.gr HH.out.gr HO.out) HH.out.lo _,HH.out.lo,hx'.far (p:=⟨gl,0,none⟩) hne _,_,hb'.set 0 _,?_⟩
  have hst:=own_kr hown' (by_st ((Gr.refl x').by (some gl)) 0 (.slice A' (F.length+1) c')) (.inr (own_ne_ty hown' hb' fldsNeF))
  rw [flat2_append,List.length_append]
  exact hst)
 clear hown' happ hx' hb'
 go_wp2_with fail
 go_end0
 exact ⟨rfl,HF.out⟩
def anyB (any:Bool) (l:List TagT):Bool:=any||!l.isEmpty
theorem anyB_pos {any:Bool} {l:List TagT} (h:0 < l.length):anyB any l=true:=by
 cases l with
 | nil=>simp at h
 | cons a r=>simp [anyB]
theorem anyB_neg {any:Bool} {l:List TagT} (h:¬0 < l.length):anyB any l=any:=by
 cases l with
 | nil=>simp [anyB]
 | cons a r=>simp at h
theorem fldsT_yes {name:List UInt8} {l:List TagT} {any:Bool} (h:anyB any l=true):fldsT name l any=[(name,textsT l any)]:=by
 unfold fldsT
 rw [if_pos]
 unfold anyB at h
 cases any <;> cases l <;> simp_all
theorem fldsT_no {name:List UInt8} {l:List TagT} {any:Bool} (h:anyB any l=false):fldsT name l any=[]:=by
 unfold fldsT
 rw [if_neg]
 unfold anyB at h
 cases any <;> cases l <;> simp_all
theorem fldsD_yes {name:List UInt8} {t:Int} (h:0≤t):fldsD name t=[(name,dateT t.toNat)]:=by unfold fldsD;rw [if_pos h]
theorem fldsD_no {name:List UInt8} {t:Int} (h:¬0≤t):fldsD name t=[]:=by unfold fldsD;rw [if_neg h]
theorem fldsT_le (name:List UInt8) (l:List TagT) (any:Bool):(fldsT name l any).length≤1:=by unfold fldsT;split <;> simp
theorem fldsD_le (name:List UInt8) (t:Int):(fldsD name t).length≤1:=by unfold fldsD;split <;> simp
theorem since_hi {t:Int} (h:sinceB t=true) (h0:0≤t):t.toNat≤253402300799∧((t.toNat:Nat):Int)=t:=by
 unfold sinceB at h
 simp only [Bool.or_eq_true,Bool.and_eq_true,decide_eq_true_eq] at h
 omega
theorem condB_parts {c:CondT} (h:condB c=true):listB c.mt c.am=true∧listB c.no c.an=true∧sinceB c.si=true∧sinceB c.un=true∧rangB c.rg=true:=by
 unfold condB at h
 simp only [Bool.and_eq_true] at h
 exact ⟨h.1,h.2.1,h.2.2.1,h.2.2.2.1,h.2.2.2.2⟩
def FieldsEnd (F:List Fld) (w:World) (e:Ending) (w':World):Prop:=∃A c,e=.returned (.tuple #[.slice A F.length c,.int .i64 0])∧Flds w' (.slice A F.length c) F∧Gr w w'∧Fresh w (.slice A F.length c)
set_option maxHeartbeats 8000000 in
set_option maxRecDepth 100000 in
theorem condFields_any (c:CondT) (vm vn:Value) (w:World) (hm:Tags w vm c.mt) (hn:Tags w vn c.no) (hs1:ShortT c.mt) (hs2:ShortT c.no) (hl1:c.mt.length≤1000000) (hl2:c.no.length≤1000000) (hr:c.rg.1.length≤140737488355328) (hc:condB c=true) :
  Calls Tryz.prog 63 #[condV c vm vn] w (FieldsEnd (condF c) w):=by
 obtain ⟨p1,p2,p3,p4,p5⟩:=condB_parts hc
 have HRT:=hid (fun (x:World) (g:Gr w x)=>condRight_any c vm vn x (hm.gr g) (hn.gr g) hs1 hs2 hl1 hl2 hr)
 rw [hc] at HRT
 obtain ⟨mt,no,am,an,si,un,rx,rk⟩:=c
 unfold condV at HRT ⊢
 simp only at hm hn hs1 hs2 hl1 hl2 hr p1 p2 p3 p4 p5 HRT ⊢
 obtain ⟨A1,c1,rfl,_,_,_⟩:=id hm.open
 obtain ⟨A2,c2,rfl,_,_,_⟩:=id hn.open
 have hbk:=Bk.new w 27 #[.slice A1 mt.length c1,.slice A2 no.length c2,.bool am,.bool an,.int .i64 si,.int .i64 un,str rx,.bool rk] (0,0)
 have hG0:=Gr.al (Gr.refl w) (.cells #[.slice A1 mt.length c1,.slice A2 no.length c2,.bool am,.bool an,.int .i64 si,.int .i64 un,str rx,.bool rk] 27)
 have HT1:=hid (fun (x:World) (g:Gr w x)=>texts5_any _ mt am x (hm.gr g) hs1 hl1)
 have HT2:=hid (fun (x:World) (g:Gr w x)=>texts5_any _ no an x (hn.gr g) hs2 hl2)
 have HD1:=hid (fun (h:0≤un) (x:World)=>show Calls Tryz.prog 122 #[.int .i64 un] x fun e w'=>e=.returned (.tuple #[str (dateT un.toNat),.int .i64 0])∧Gr x w' from by
  have h2:=since_hi p4 h
  have:=textD_in un.toNat x h2.1
  rw [h2.2] at this;exact this)
 have HD2:=hid (fun (h:0≤si) (x:World)=>show Calls Tryz.prog 122 #[.int .i64 si] x fun e w'=>e=.returned (.tuple #[str (dateT si.toNat),.int .i64 0])∧Gr x w' from by
  have h2:=since_hi p3 h
  have:=textD_in si.toNat x h2.1
  rw [h2.2] at this;exact this)
 have HTG:=hid (fun (x:World)=>tagText_any (rx,rk) x (by simp only;omega))
 have HF:=hid (show condF ⟨mt,no,am,an,si,un,(rx,rk)⟩=(((fldsT nMatch mt am++fldsD nUnmod un)++fldsT nNone no an)++fldsD nMod si)++fldsR (rx,rk) from by unfold condF;simp only [List.append_assoc])
 have hqe:=neq_tag
 have hqg:=fun (w:World) (x y:Operand) (a b:Array Value)=>run_eqGuard_agg (P:=Tryz.prog) w .neq 25 x y a b (by kernel_rfl)
 clear hm hn hs1 hs2 hc p1 p2 p3 p4 p5
 go_enter Tryz.func63,Tryz.ntmps63
 go_upto_region 4 with (go_at_call 91;refine (HRT.out _ hG0).mono ?_;rintro e w1 ⟨rfl,hG1⟩)
 have hbk:=hbk.gr hG1
 have hgl:=Bk.new w1 34 #[.slice none 0 0] (0,0)
 have hga:=Gr.al (Gr.refl w1) (Obj.cells #[.slice none 0 0] 34)
 have hne:w.heap.size≠w1.heap.size:=by have:=hbk.lt;omega
 have HP:=hid (show PutS w w1.heap.size w.heap.size #[.slice A1 mt.length c1,.slice A2 no.length c2,.bool am,.bool an,.int .i64 si,.int .i64 un,str rx,.bool rk] [] (w1.alloc (Obj.cells #[.slice none 0 0] 34)) from ⟨Gr.tr (Gr.tr hG0 hG1) hga,(Gr.tr hG0 hG1).size,hbk.gr hga,_,hgl,Own.nil _ _ _ _⟩)
 clear hgl hbk hga hG0 HRT
 generalize w1.alloc (Obj.cells #[.slice none 0 0] 34)=wc at *
 generalize hg1:w.heap.size=g1 at HP hne ⊢
 clear hg1 hG1
 generalize w1.heap.size=gl at *
 have HFL:=hid (show (([]:List Fld)).length≤100 from by (try simp only [List.length_append,List.length_nil]);have:=fldsT_le nMatch mt am;have:=fldsD_le nUnmod un;have:=fldsT_le nNone no an;have:=fldsD_le nMod si;omega)
 go_upto_region 5 with fail
 go_cut [21] (fun s wx=>s=.bool (anyB am mt)∧wc=wx)
 case first=>
  have q0:wc.cell? ⟨g1,0,none⟩=some (.slice A1 mt.length c1):=HP.out.box.cell 0
  have q2:wc.cell? ⟨g1,2,none⟩=some (.bool am):=HP.out.box.cell 2
  by_cases hp0:0 < mt.length
  ·have HA:=hid (show anyB am mt=true from anyB_pos hp0)
   go_wp2_with fail
   go_meet
   exact ⟨by rw [HA.out],rfl⟩
  ·have HA:=hid (show anyB am mt=am from anyB_neg hp0)
   go_wp2_with fail
   go_meet
   exact ⟨by rw [HA.out],rfl⟩
 case rest=>
 obtain ⟨rfl,rfl⟩:=hcut
 go_upto_if 21 with fail
 go_cut [] (fun wx=>PutS w gl g1 #[.slice A1 mt.length c1,.slice A2 no.length c2,.bool am,.bool an,.int .i64 si,.int .i64 un,str rx,.bool rk] ([]++fldsT nMatch mt am) wx)
 case first=>
  cases hB:anyB am mt with
  | false=>
    have HN:=hid (fldsT_no (name:=nMatch) hB)
    clear hB
    go_wp2_with fail
    go_meet
    exact by rw [HN.out,List.append_nil];exact HP.out
  | true=>
    have HN:=hid (fldsT_yes (name:=nMatch) hB)
    clear hB
    have q0:wc.cell? ⟨g1,0,none⟩=some (.slice A1 mt.length c1):=HP.out.box.cell 0
    have q2:wc.cell? ⟨g1,2,none⟩=some (.bool am):=HP.out.box.cell 2
    have hgw:=HP.out.gr
    go_wp2_with (first
     | (go_at_call 121;refine (HT1.out _ hgw).mono ?_;rintro e w2 ⟨rfl,hG2⟩;have HP2:=hid (HP.out.to hG2);clear hG2)
     | (go_at_call 120;refine (putF_any nMatch _ w _ gl g1 _ _ HP2.out hne HFL.out).mono ?_;rintro e w3 ⟨rfl,hP3⟩;have HP3:=hid hP3;clear hP3))
    go_meet
    exact by rw [HN.out];exact HP3.out
 case rest=>
 rw [List.nil_append] at hcut
 have HP:=hid hcut
 clear hcut HFL
 have HFL:=hid (show (fldsT nMatch mt am).length≤100 from by (try simp only [List.length_append,List.length_nil]);have:=fldsT_le nMatch mt am;have:=fldsD_le nUnmod un;have:=fldsT_le nNone no an;have:=fldsD_le nMod si;omega)
 go_upto_region 7 with fail
 have q5:wc.cell? ⟨g1,5,none⟩=some (.int .i64 un):=HP.out.box.cell 5
 go_upto_if 31 with fail
 clear q5
 go_cut [] (fun wx=>PutS w gl g1 #[.slice A1 mt.length c1,.slice A2 no.length c2,.bool am,.bool an,.int .i64 si,.int .i64 un,str rx,.bool rk] (fldsT nMatch mt am++fldsD nUnmod un) wx)
 case first=>
  by_cases h0:0≤un
  ·have HN:=hid (fldsD_yes (name:=nUnmod) h0)
   have HDX:=hid (HD1.out h0)
   have q5:wc.cell? ⟨g1,5,none⟩=some (.int .i64 un):=HP.out.box.cell 5
   go_wp2_with (first
    | (go_at_call 122;refine (HDX.out _).mono ?_;rintro e w2 ⟨rfl,hG2⟩;have HP2:=hid (HP.out.to hG2);clear hG2)
    | (go_at_call 120;refine (putF_any nUnmod _ w _ gl g1 _ _ HP2.out hne HFL.out).mono ?_;rintro e w3 ⟨rfl,hP3⟩;have HP3:=hid hP3;clear hP3))
   go_meet
   exact by rw [HN.out];exact HP3.out
  ·have HN:=hid (fldsD_no (name:=nUnmod) h0)
   go_wp2_with fail
   go_meet
   exact by rw [HN.out,List.append_nil];exact HP.out
 case rest=>
 have HP:=hid hcut
 clear hcut HFL
 have HFL:=hid (show (fldsT nMatch mt am++fldsD nUnmod un).length≤100 from by (try simp only [List.length_append,List.length_nil]);have:=fldsT_le nMatch mt am;have:=fldsD_le nUnmod un;have:=fldsT_le nNone no an;have:=fldsD_le nMod si;omega)
 go_upto_region 10 with fail
 go_cut [48] (fun s wx=>s=.bool (anyB an no)∧wc=wx)
 case first=>
  have q1:wc.cell? ⟨g1,1,none⟩=some (.slice A2 no.length c2):=HP.out.box.cell 1
  have q3:wc.cell? ⟨g1,3,none⟩=some (.bool an):=HP.out.box.cell 3
  by_cases hp0:0 < no.length
  ·have HA:=hid (show anyB an no=true from anyB_pos hp0)
   go_wp2_with fail
   go_meet
   exact ⟨by rw [HA.out],rfl⟩
  ·have HA:=hid (show anyB an no=an from anyB_neg hp0)
   go_wp2_with fail
   go_meet
   exact ⟨by rw [HA.out],rfl⟩
 case rest=>
 obtain ⟨rfl,rfl⟩:=hcut
 go_upto_if 48 with fail
 go_cut [] (fun wx=>PutS w gl g1 #[.slice A1 mt.length c1,.slice A2 no.length c2,.bool am,.bool an,.int .i64 si,.int .i64 un,str rx,.bool rk] ((fldsT nMatch mt am++fldsD nUnmod un)++fldsT nNone no an) wx)
 case first=>
  cases hB:anyB an no with
  | false=>
    have HN:=hid (fldsT_no (name:=nNone) hB)
    clear hB
    go_wp2_with fail
    go_meet
    exact by rw [HN.out,List.append_nil];exact HP.out
  | true=>
    have HN:=hid (fldsT_yes (name:=nNone) hB)
    clear hB
    have q1:wc.cell? ⟨g1,1,none⟩=some (.slice A2 no.length c2):=HP.out.box.cell 1
    have q3:wc.cell? ⟨g1,3,none⟩=some (.bool an):=HP.out.box.cell 3
    have hgw:=HP.out.gr
    go_wp2_with (first
     | (go_at_call 121;refine (HT2.out _ hgw).mono ?_;rintro e w2 ⟨rfl,hG2⟩;have HP2:=hid (HP.out.to hG2);clear hG2)
     | (go_at_call 120;refine (putF_any nNone _ w _ gl g1 _ _ HP2.out hne HFL.out).mono ?_;rintro e w3 ⟨rfl,hP3⟩;have HP3:=hid hP3;clear hP3))
    go_meet
    exact by rw [HN.out];exact HP3.out
 case rest=>
 have HP:=hid hcut
 clear hcut HFL
 have HFL:=hid (show ((fldsT nMatch mt am++fldsD nUnmod un)++fldsT nNone no an).length≤100 from by (try simp only [List.length_append,List.length_nil]);have:=fldsT_le nMatch mt am;have:=fldsD_le nUnmod un;have:=fldsT_le nNone no an;have:=fldsD_le nMod si;omega)
 go_upto_region 12 with fail
 have q4:wc.cell? ⟨g1,4,none⟩=some (.int .i64 si):=HP.out.box.cell 4
 go_upto_if 58 with fail
 clear q4
 go_cut [] (fun wx=>PutS w gl g1 #[.slice A1 mt.length c1,.slice A2 no.length c2,.bool am,.bool an,.int .i64 si,.int .i64 un,str rx,.bool rk] (((fldsT nMatch mt am++fldsD nUnmod un)++fldsT nNone no an)++fldsD nMod si) wx)
 case first=>
  by_cases h0:0≤si
  ·have HN:=hid (fldsD_yes (name:=nMod) h0)
   have HDX:=hid (HD2.out h0)
   have q4:wc.cell? ⟨g1,4,none⟩=some (.int .i64 si):=HP.out.box.cell 4
   go_wp2_with (first
    | (go_at_call 122;refine (HDX.out _).mono ?_;rintro e w2 ⟨rfl,hG2⟩;have HP2:=hid (HP.out.to hG2);clear hG2)
    | (go_at_call 120;refine (putF_any nMod _ w _ gl g1 _ _ HP2.out hne HFL.out).mono ?_;rintro e w3 ⟨rfl,hP3⟩;have HP3:=hid hP3;clear hP3))
   go_meet
   exact by rw [HN.out];exact HP3.out
  ·have HN:=hid (fldsD_no (name:=nMod) h0)
   go_wp2_with fail
   go_meet
   exact by rw [HN.out,List.append_nil];exact HP.out
 case rest=>
 have HP:=hid hcut
 clear hcut HFL
 have HFL:=hid (show (((fldsT nMatch mt am++fldsD nUnmod un)++fldsT nNone no an)++fldsD nMod si).length≤100 from by (try simp only [List.length_append,List.length_nil]);have:=fldsT_le nMatch mt am;have:=fldsD_le nUnmod un;have:=fldsT_le nNone no an;have:=fldsD_le nMod si;omega)
 go_upto_region 15 with fail
 have q6:wc.cell? ⟨g1,6,none⟩=some (str rx):=HP.out.box.cell 6
 have q7:wc.cell? ⟨g1,7,none⟩=some (.bool rk):=HP.out.box.cell 7
 by_cases hz:rx=[]∧rk=false
 ·obtain ⟨rfl,rfl⟩:=hz
  have HN:=hid (show fldsR (([]:List UInt8),false)=[] from rfl)
  rw [HN.out,List.append_nil] at HF
  rw [←HF.out] at HP
  obtain ⟨v,hb,hown⟩:=HP.out.row
  obtain ⟨A,cc,rfl⟩:=hown.form
  have ql:wc.cell? ⟨gl,0,none⟩=some (.slice A _ cc):=hb.cell 0
  have HO:=hid hown
  clear hb hown
  go_wp2_with fail
  go_ret2
  exact ⟨_,_,rfl,HO.out.sl (by omega),HP.out.gr,fresh_own HO.out⟩
 ·have HN:=hid (show fldsR (rx,rk)=[(nIfR,tagTxt (rx,rk))] from by unfold fldsR;rw [if_neg hz])
  rw [HN.out] at HF
  have hz2:((rx,rk)==(([]:List UInt8),false))=false:=by
   rw [beq_eq_false_iff_ne];intro h;exact hz ⟨(Prod.mk.inj h).1,(Prod.mk.inj h).2⟩
  clear hz
  go_upto_region 17 with (first
   | (go_at_call 123;refine (HTG.out _).mono ?_;rintro e w2 ⟨rfl,hG2⟩;have HP2:=hid (HP.out.to hG2);clear hG2)
   | (go_at_call 120;refine (putF_any nIfR _ w _ gl g1 _ _ HP2.out hne HFL.out).mono ?_;rintro e w3 ⟨rfl,hP3⟩;have HP3:=hid hP3;clear hP3))
  rw [←HF.out] at HP3
  obtain ⟨v,hb,hown⟩:=HP3.out.row
  obtain ⟨A,cc,rfl⟩:=hown.form
  have ql:w3.cell? ⟨gl,0,none⟩=some (.slice A _ cc):=hb.cell 0
  have HO:=hid hown
  clear hb hown
  go_wp2_with fail
  go_ret2
  exact ⟨_,_,rfl,HO.out.sl (by omega),HP3.out.gr,fresh_own HO.out⟩
end Go.Proofs.YtflepnkpihfidaaGreatDoor
namespace Go.Proofs.YtflepnkpihfidaaGreatDoor
open Lib (hid)
open Go.RowKit
end Go.Proofs.YtflepnkpihfidaaGreatDoor
namespace Go.Proofs.YtflepnkpihfidaaGreatDoor
open Lib (hid)
open Go.RowKit
end Go.Proofs.YtflepnkpihfidaaGreatDoor
