/- Parts. No conditions but those that each theorem names. -/
import Derived.Test.YtflepnkpihfidaaGreatDoorJChunk
import Derived.Test.YtflepnkpihfidaaGreatDoorJCond3
set_option linter.unusedVariables false
set_option linter.unusedSimpArgs false
set_option maxHeartbeats 64000000
set_option maxRecDepth 100000
namespace Go.Proofs.YtflepnkpihfidaaGreatDoor
open Lib (hid)
open Go.RowKit
def lengthN:List UInt8:=[67,111,110,116,101,110,116,45,76,101,110,103,116,104]
def codingN:List UInt8:=[84,114,97,110,115,102,101,114,45,69,110,99,111,100,105,110,103]
def tellB (st:Int) (fs:List Fld) (sz:Int):Bool:=decide (100≤st)&&decide (st≤599)&&decide (-1≤sz)&&decide (sz≤1099511627776)&&decide ((ofN fs lengthN).length=0)&&decide ((ofN fs codingN).length=0)
theorem tellB_iff {st sz:Int} {fs:List Fld}:tellB st fs sz=true↔100≤st∧st≤599∧-1≤sz∧sz≤1099511627776∧ofN fs lengthN=[]∧ofN fs codingN=[]:=by
 unfold tellB;simp [and_assoc]
theorem tellB_no {st sz:Int} {fs:List Fld} (h:¬(100≤st∧st≤599∧-1≤sz∧sz≤1099511627776∧ofN fs lengthN=[]∧ofN fs codingN=[])):tellB st fs sz=false:=by
 cases hb:tellB st fs sz with
 | false=>rfl
 | true=>exact absurd (tellB_iff.1 hb) h
theorem getN_found (l:List Fld) (n:List UInt8):(getN l n).2=!(decide ((ofN l n).length=0)):=by
 unfold getN
 cases ofN l n <;> simp
theorem tells45_any (st sz:Int) (fs:List Fld) (A:Option Addr) (c:Nat) (vp:Value) (w:World) (hf:Flds w (.slice A fs.length c) fs) (hs:Short2 fs) :
  Calls Tryz.prog 84 #[.agg #[.int .i64 st,.slice A fs.length c,vp,.int .i64 sz]] w fun e w'=>e=.returned (.bool (tellB st fs sz))∧Gr w w':=by
 have HN:=hid (fun h=>tellB_no (st:=st) (sz:=sz) (fs:=fs) h)
 have HY:=hid (tellB_iff (st:=st) (sz:=sz) (fs:=fs))
 have HG:=hid (fun (n:List UInt8) (hn:n.length≤100) (x:World) (g:Gr w x)=>get_any (.slice A fs.length c) fs n x (hf.gr g) hs (by omega))
 have H1:=hid (getN_found fs lengthN)
 have H2:=hid (getN_found fs codingN)
 generalize tellB st fs sz=tb at *
 clear hf hs
 by_cases h0:st < 100
 ·have k0:decide (st < 100)=true:=decide_eq_true h0
  have HN:=hid (HN.out (by omega))
  clear HG H1 H2 HY
  go_enter Tryz.func84,Tryz.ntmps84
  go_wp2_with fail
  go_ret
  exact ⟨ret_bool HN.out.symm,Gr.al (Gr.refl w) _⟩
 ·have k0:decide (st < 100)=false:=decide_eq_false h0
  by_cases h1:599 < st
  ·have k1:decide (599 < st)=true:=decide_eq_true h1
   have HN:=hid (HN.out (by omega))
   clear HG H1 H2 HY
   go_enter Tryz.func84,Tryz.ntmps84
   go_wp2_with fail
   go_ret
   exact ⟨ret_bool HN.out.symm,Gr.al (Gr.refl w) _⟩
  ·have k1:decide (599 < st)=false:=decide_eq_false h1
   by_cases h2:sz < -1
   ·have k2:decide (sz < -1)=true:=decide_eq_true h2
    have HN:=hid (HN.out (by omega))
    clear HG H1 H2 HY
    go_enter Tryz.func84,Tryz.ntmps84
    go_wp2_with fail
    go_ret
    exact ⟨ret_bool HN.out.symm,Gr.al (Gr.refl w) _⟩
   ·have k2:decide (sz < -1)=false:=decide_eq_false h2
    by_cases h3:1099511627776 < sz
    ·have k3:decide (1099511627776 < sz)=true:=decide_eq_true h3
     have HN:=hid (HN.out (by omega))
     clear HG H1 H2 HY
     go_enter Tryz.func84,Tryz.ntmps84
     go_wp2_with fail
     go_ret
     exact ⟨ret_bool HN.out.symm,Gr.al (Gr.refl w) _⟩
    ·have k3:decide (1099511627776 < sz)=false:=decide_eq_false h3
     have HA:=hid (fun (x:World) (g:Gr w x)=>show Calls Tryz.prog 66 #[.slice A fs.length c,.string { data:=#[67,111,110,116,101,110,116,45,76,101,110,103,116,104] }] x _ from HG.out lengthN (by decide) x g)
     have HB:=hid (fun (x:World) (g:Gr w x)=>show Calls Tryz.prog 66 #[.slice A fs.length c,.string { data:=#[84,114,97,110,115,102,101,114,45,69,110,99,111,100,105,110,103] }] x _ from HG.out codingN (by decide) x g)
     rw [H1.out] at HA
     rw [H2.out] at HB
     have HR:=hid (show tb=(decide ((ofN fs lengthN).length=0)&&decide ((ofN fs codingN).length=0)) from by
      by_cases q1:ofN fs lengthN=[]
      ·by_cases q2:ofN fs codingN=[]
       ·rw [q1,q2];exact HY.out.2 ⟨by omega,by omega,by omega,by omega,q1,q2⟩
       ·rw [HN.out (fun h=>q2 h.2.2.2.2.2)];simp [q2]
      ·rw [HN.out (fun h=>q1 h.2.2.2.2.1)];simp [q1])
     clear HG H1 H2 HY HN
     generalize decide ((ofN fs lengthN).length=0)=b1 at *
     generalize decide ((ofN fs codingN).length=0)=b2 at *
     have hb:=Bk.new w 37 #[.int .i64 st,.slice A fs.length c,vp,.int .i64 sz] (0,0)
     have hG1:=Gr.al (Gr.refl w) (Obj.cells #[.int .i64 st,.slice A fs.length c,vp,.int .i64 sz] 37)
     go_enter Tryz.func84,Tryz.ntmps84
     go_upto_region 1 with fail
     generalize w.alloc (Obj.cells #[.int .i64 st,.slice A fs.length c,vp,.int .i64 sz] 37)=w1 at *
     generalize w.heap.size=g at *
     obtain ⟨q0,q1,q2,q3⟩:=hb.cells4
     clear hb
     cases b1 <;> cases b2
     all_goals
      go_wp2_with (go_at_call 66;first
       | ((with_reducible refine (HA.out _ hG1).mono ?_);rintro e w2 ⟨rfl,hG2⟩;have q1:=hG2.cell q1;clear HA)
       | ((with_reducible refine (HB.out _ (Gr.tr hG1 hG2)).mono ?_);rintro e w3 ⟨rfl,hG3⟩))
      go_ret
      exact ⟨ret_bool HR.out.symm,Gr.tr hG1 (Gr.tr hG2 hG3)⟩
def gBody (sz:Int) (l:List UInt8):List UInt8:=if sz= -1 then chunkL l else l
theorem gateBody_any (st sz:Int) (vf vp:Value) (l:List UInt8) (v:Value) (w:World) (hz:Tz w) (hb:Byts w v l) (hl:l.length≤1000000) :
  Calls Tryz.prog 88 #[.agg #[.int .i64 st,vf,vp,.int .i64 sz],v] w fun e w'=>∃A c,e=.returned (.slice A (gBody sz l).length c)∧Byts w' (.slice A (gBody sz l).length c) (gBody sz l)∧Gr w w':=by
 have HZ:=hid hz
 clear hz
 obtain ⟨A,c,rfl,hc,hm,_⟩:=id hb
 have HP:=hid (fun (x:World) (g:Gr w x)=>chunkPut_any l (.slice A l.length c) x (HZ.out.gr g) (hb.gr g) hl)
 by_cases h1:sz= -1
 ·subst h1
  have HC:=hid (show gBody (-1) l=chunkL l from rfl)
  clear hb
  go_enter Tryz.func88,Tryz.ntmps88
  go_wp2_with (go_at_call 158;refine (HP.out _ (Gr.al (Gr.refl w) _)).mono ?_;rintro e w2 ⟨A2,c2,rfl,hb2,hG2⟩;have HB2:=hid hb2;clear hb2)
  go_ret
  rw [HC.out]
  exact ⟨A2,c2,rfl,HB2.out,Gr.tr (Gr.al (Gr.refl w) _) hG2⟩
 ·have k1:(sz==-1)=false:=by simpa using h1
  have HC:=hid (show gBody sz l=l from if_neg h1)
  have HB:=hid (hb.gr (Gr.al (Gr.refl w) (Obj.cells #[.int .i64 st,vf,vp,.int .i64 sz] 37)))
  have hG1:=Gr.al (Gr.refl w) (Obj.cells #[.int .i64 st,vf,vp,.int .i64 sz] 37)
  have hbk:=Bk.new w 37 #[.int .i64 st,vf,vp,.int .i64 sz] (0,0)
  clear h1 hb
  go_enter Tryz.func88,Tryz.ntmps88
  go_upto_region 1 with fail
  generalize w.alloc (Obj.cells #[.int .i64 st,vf,vp,.int .i64 sz] 37)=w1 at *
  generalize w.heap.size=g at *
  obtain ⟨q0,q1,q2,q3⟩:=hbk.cells4
  clear hbk
  go_wp2_with (at_builtin;refine wpList_appS (W0:=w) (W:=w1) (m:=l.length) elemByte rfl _ _ rfl rfl rfl hG1.size (Own.nil w w1 _ _) HB.out (by simp) (one_byt _) (by omega) (by decide) ?_;intro v2 w2 hown2 happ2;rw [Nat.zero_add,List.nil_append] at hown2;obtain ⟨A2,c2,rfl⟩:=hown2.form;have hG2:=happ2.gr hG1 (Own.nil w w1 5 1);have HO2:=hid (own_byts hown2);clear hown2 happ2)
  go_ret
  rw [HC.out]
  exact ⟨A2,c2,rfl,HO2.out,hG2⟩
def gEnd (sz:Int) (whole:Bool):List UInt8:=if sz= -1∧whole=true then lastL else []
theorem gateEnd_any (st sz:Int) (vf vp:Value) (b:Bool) (w:World) :
  Calls Tryz.prog 89 #[.agg #[.int .i64 st,vf,vp,.int .i64 sz],.bool b] w fun e w'=>∃A c,e=.returned (.slice A (gEnd sz b).length c)∧Byts w' (.slice A (gEnd sz b).length c) (gEnd sz b)∧Gr w w':=by
 have HL:=hid (fun (x:World)=>chunkLast_any x)
 by_cases h1:sz= -1
 ·subst h1
  cases b with
  | true=>
    go_enter Tryz.func89,Tryz.ntmps89
    go_wp2_with (go_at_call 159;refine (HL.out _).mono ?_;rintro e w2 ⟨A2,c2,rfl,hb2,hG2⟩;have HB2:=hid hb2;clear hb2)
    go_ret
    exact ⟨A2,c2,rfl,HB2.out,Gr.tr (Gr.al (Gr.refl w) _) hG2⟩
  | false=>
    go_enter Tryz.func89,Tryz.ntmps89
    go_wp2_with fail
    go_ret
    exact ⟨none,0,rfl,Byts.nil _,Gr.al (Gr.refl w) _⟩
 ·have k1:(sz==-1)=false:=by simpa using h1
  have HC:=hid (show gEnd sz b=[] from if_neg (fun h=>h1 h.1))
  clear h1
  go_enter Tryz.func89,Tryz.ntmps89
  go_wp2_with fail
  go_ret
  rw [HC.out]
  exact ⟨none,0,rfl,Byts.nil _,Gr.al (Gr.refl w) _⟩
def chunkedN:List UInt8:=[99,104,117,110,107,101,100]
def sizeF (sz:Int):Fld:=if sz= -1 then (codingN,chunkedN) else (lengthN,Lib.itoa sz)
def headF (st:Int) (fs:List Fld) (sz:Int):List Fld:=if bodB st then fs++[sizeF sz] else fs
def headR (st:Int) (fs:List Fld) (sz:Int):List UInt8×Nat:=if tellB st fs sz then putH ([],[],st,headF st fs sz) else ([],1)
theorem PutM.base {w x w':World} {r:List UInt8×Nat} {e:Ending} (h:PutM x r e w') (g:Gr w x):PutM w r e w':=by
 obtain ⟨A,c,he,hg,h⟩:=h
 refine ⟨A,c,he,Gr.tr g hg,?_⟩
 rcases h with ⟨h,hm⟩ | h
 ·exact .inl ⟨h,hm.base g.size⟩
 ·exact .inr h
theorem own_set45 {W0 w:World} {e:TypeId} {size n b:Nat} {v:Value} {xs:List Value} (h:Own W0 w e size v n xs) (hne:v.ownBlock≠some b) (i:Nat) (u:Value):Own W0 (w.setCell ⟨b,i,none⟩ u) e size v n xs:=by
 refine ⟨h.1,?_⟩
 rcases h.2 with hn | ⟨g,cap,cur,hv,hb,hh,r⟩
 ·exact .inl hn
 ·subst hv
  exact .inr ⟨g,cap,cur,rfl,hb,by rw [Below.heap_setCell _ _ _ _ (by rintro rfl;exact hne rfl)];exact hh,r⟩
theorem one_flat2 (fs:List Fld):∀u∈flat2 fs,u.oneCell'=true:=by
 intro u hu
 unfold flat2 at hu
 obtain ⟨x,_,hx⟩:=List.mem_flatMap.1 hu
 simp at hx
 rcases hx with rfl | rfl <;> rfl
theorem putH_le (T:HeadT) (h1:T.1.length≤600) (h2:T.2.1.length≤600):(putH T).1.length≤70000:=by
 have hp:=put_len T.2.2.2
 rcases Classical.em ((putH T).2=0) with h | h
 ·obtain ⟨hb,he,_,_,hl⟩:=putH_ok h
  have:=(line_no hb).2
  rw [he];simp;omega
 ·unfold putH at *
  split
  ·rename_i hc
   split
   ·rename_i hz;rw [if_pos hc,if_pos hz] at h;exact absurd rfl h
   ·simp
  ·simp
theorem bulk2_snoc (l:List Fld) (x:Fld):bulk2 (l++[x])=bulk2 l+(x.1.length+x.2.length):=by
 have h1:(l++[x]).take l.length=l:=by simp
 have h2:=bulk2_succ (l++[x]) l.length (by simp)
 rw [h1,List.take_of_length_le (by simp)] at h2
 rw [h2]
 simp <;> omega
theorem itoa_len13 (sz:Int) (h0:0≤sz) (h1:sz≤1099511627776):(Lib.itoa sz).length≤19:=by
 obtain ⟨m,rfl⟩:∃m:Nat,sz=m:=⟨sz.toNat,by omega⟩
 rw [itoa_nat];exact dec_len19 (by omega)
theorem sizeF_len (sz:Int) (h0:-1≤sz) (h1:sz≤1099511627776):(sizeF sz).1.length+(sizeF sz).2.length≤40:=by
 unfold sizeF
 split
 ·decide
 ·have:=itoa_len13 sz (by omega) h1
  simp only [lengthN,List.length_cons,List.length_nil];omega
theorem short2_snoc {l:List Fld} {x:Fld} (h:Short2 l) (hx:x.1.length+x.2.length≤40):Short2 (l++[x]):=by
 intro y hy
 rcases List.mem_append.1 hy with hy | hy
 ·exact h y hy
 ·rw [List.mem_singleton.1 hy];omega
theorem gateHead_any (st sz:Int) (fs:List Fld) (A:Option Addr) (c:Nat) (vp:Value) (w:World) (hp:Pw w) (hf:Flds w (.slice A fs.length c) fs) (hs:Short2 fs) (h1:fs.length≤130) (h2:bulk2 fs≤12000) :
  Calls Tryz.prog 87 #[.agg #[.int .i64 st,.slice A fs.length c,vp,.int .i64 sz]] w (PutM w (headR st fs sz)):=by
 have HF:=hid hf
 have HS:=hid hs
 have HT:=hid (fun (x:World) (g:Gr w x)=>tells45_any st sz fs A c vp x (hf.gr g) hs)
 have HB:=hid (fun (x:World)=>bodied_any st sz (.slice A fs.length c) vp x)
 have HPU:=hid (fun (L:List Fld) (A':Option Addr) (c':Nat) (x:World) (g:Gr w x) (h:Flds x (.slice A' L.length c') L) (hs:Short2 L) (hl:L.length≤140) (hb:bulk2 L≤12400)=>show Calls Tryz.prog 64 #[.agg #[str [],str [],.int .i64 st,.slice A' L.length c']] x (PutM x (putH ([],[],st,L))) from put12_w ([],[],st,L) A' c' x (hp.gr g) h hs (by simp) (by simp) hl hb)
 have hb:=Bk.new w 37 #[.int .i64 st,.slice A fs.length c,vp,.int .i64 sz] (0,0)
 have hG1:=Gr.al (Gr.refl w) (Obj.cells #[.int .i64 st,.slice A fs.length c,vp,.int .i64 sz] 37)
 cases ht:tellB st fs sz with
 | false=>
   have HR:=hid (show headR st fs sz=([],1) from by unfold headR;rw [ht];rfl)
   rw [ht] at HT
   clear hf hs ht HPU HB hp
   go_enter Tryz.func87,Tryz.ntmps87
   go_upto_region 1 with fail
   generalize w.alloc (Obj.cells #[.int .i64 st,.slice A fs.length c,vp,.int .i64 sz] 37)=w1 at *
   generalize w.heap.size=g at *
   obtain ⟨q0,q1,q2,q3⟩:=hb.cells4
   clear hb
   go_wp2_with (go_at_call 84;refine (HT.out _ hG1).mono ?_;rintro e w2 ⟨rfl,hG2⟩)
   go_ret2
   rw [HR.out]
   exact ⟨none,0,rfl,Gr.tr hG1 hG2,.inr ⟨by decide,rfl,rfl,rfl⟩⟩
 | true=>
   obtain ⟨t1,t2,t3,t4,t5,t6⟩:=tellB_iff.1 ht
   have HNUM:=hid (fun (h0:0≤sz) (x:World) (g:Gr w x)=>fmtInt_any sz x (hp.gr g) (by omega) (by omega))
   have HSF:=hid (sizeF_len sz t3 t4)
   have HIL:=hid (fun (h0:0≤sz)=>itoa_len13 sz h0 t4)
   have HR:=hid (show headR st fs sz=putH ([],[],st,headF st fs sz) from by unfold headR;rw [ht];rfl)
   have HL:=hid (show Short2 (headF st fs sz)∧(headF st fs sz).length≤140∧bulk2 (headF st fs sz)≤12400 from by
    unfold headF
    split
    ·exact ⟨short2_snoc hs HSF.out,by rw [List.length_append];show fs.length+1≤140;omega,by rw [bulk2_snoc];have:=HSF.out;omega⟩
    ·exact ⟨hs,by omega,by omega⟩)
   rw [ht] at HT
   clear hf hs ht t5 t6 hp
   go_enter Tryz.func87,Tryz.ntmps87
   go_upto_region 1 with fail
   generalize w.alloc (Obj.cells #[.int .i64 st,.slice A fs.length c,vp,.int .i64 sz] 37)=w1 at *
   generalize w.heap.size=g at *
   have r0:∀x,Gr w1 x→x.cell? ⟨g,0,none⟩=some (.int .i64 st):=fun x h=>(hb.gr h).cell 0
   have r1:∀x,Gr w1 x→x.cell? ⟨g,1,none⟩=some (.slice A fs.length c):=fun x h=>(hb.gr h).cell 1
   have r2:∀x,Gr w1 x→x.cell? ⟨g,2,none⟩=some vp:=fun x h=>(hb.gr h).cell 2
   have r3:∀x,Gr w1 x→x.cell? ⟨g,3,none⟩=some (.int .i64 sz):=fun x h=>(hb.gr h).cell 3
   clear hb
   have h11:Gr w1 w1:=Gr.refl w1
   have HG1:=hid hG1
   clear hG1
   go_upto_region 4 with (first
    | (go_at_call 84;refine (HT.out _ HG1.out).mono ?_;rintro e w2 ⟨rfl,hg2⟩;have hg2a:=Gr.al hg2 (Obj.cells #[] 127))
    | (at_builtin;refine wpList_appS (W0:=w1) (W:=w2) (m:=fs.length) elemFld8 rfl _ _ rfl rfl rfl hg2.size (Own.nil w1 w2 127 2) (HF.out.gr (Gr.tr HG1.out hg2)) (flat2_len fs) (one_flat2 fs) (by omega) (by decide) ?_;intro v3 w3 hown3 happ3;rw [Nat.zero_add,List.nil_append] at hown3;obtain ⟨A3,c3,rfl⟩:=hown3.form;have HO3:=hid hown3;have hg3:=happ3.gr hg2 (Own.nil w1 w2 127 2);clear hown3 happ3))
   have HLF:=hid (show headF st fs sz=if bodB st then fs++[sizeF sz] else fs from rfl)
   generalize headF st fs sz=L at *
   go_upto_if 13 with (go_at_call 86;refine (HB.out _).mono ?_;rintro e wc ⟨rfl,hg4'⟩)
   have hg4:=Gr.tr hg3 hg4'
   have HO4:=hid (HO3.out.gr hg4')
   clear HB HO3
   go_cut [4] (fun s4 wx=>∃A' c',s4=.slice A' L.length c'∧Flds wx (.slice A' L.length c') L∧Gr w1 wx)
   case first=>
    cases hbd:bodB st with
    | false=>
      have HFF:=hid (show L=fs from by rw [HLF.out,hbd];rfl)
      clear hbd HPU HNUM HR HL
      go_wp2_with fail
      go_meet
      rw [HFF.out]
      exact ⟨A3,c3,rfl,own_fld HO4.out rfl rfl,hg4⟩
    | true=>
      have HFF:=hid (show L=fs++[sizeF sz] from by rw [HLF.out,hbd];rfl)
      have HOF:=hid (fun (x:World) (A':Option Addr) (c':Nat) (h:Own w1 x 127 2 (.slice A' (fs.length+1) c') (fs.length+1) (flat2 fs++[str (sizeF sz).1,str (sizeF sz).2]))=>show Flds x (.slice A' L.length c') L from by
       have e1:L.length=fs.length+1:=by rw [HFF.out];simp
       have e2:flat2 fs++[str (sizeF sz).1,str (sizeF sz).2]=flat2 L:=by rw [HFF.out];unfold flat2;rw [List.flatMap_append];rfl
       rw [e2] at h
       rw [e1]
       exact own_fld h e1.symm rfl)
      have HLN:=hid (show L.length=fs.length+1 from by rw [HFF.out];simp)
      clear hbd HPU HR HL HLF HFF
      go_upto_region 6 with fail
      have hbf:=Bk.new wc 127 #[(.string { data:=#[84,114,97,110,115,102,101,114,45,69,110,99,111,100,105,110,103] }:Value),(.string { data:=#[99,104,117,110,107,101,100] }:Value)] (0,0)
      have hg5:=Gr.al hg4 (Obj.cells #[(.string { data:=#[84,114,97,110,115,102,101,114,45,69,110,99,111,100,105,110,103] }:Value),(.string { data:=#[99,104,117,110,107,101,100] }:Value)] 127)
      have HO5:=hid (HO4.out.al (Obj.cells #[(.string { data:=#[84,114,97,110,115,102,101,114,45,69,110,99,111,100,105,110,103] }:Value),(.string { data:=#[99,104,117,110,107,101,100] }:Value)] 127))
      have hgf:w1.heap.size≤wc.heap.size:=hg4.size
      have HLT:=hid (fun (k:Nat) (h:(Value.slice A3 fs.length c3).ownBlock=some k)=>(World.ownsRow.lt HO4.out k h).2)
      clear HO4
      generalize wc.alloc (Obj.cells #[(.string { data:=#[84,114,97,110,115,102,101,114,45,69,110,99,111,100,105,110,103] }:Value),(.string { data:=#[99,104,117,110,107,101,100] }:Value)] 127)=w5 at *
      generalize wc.heap.size=gf at *
      by_cases hm1:sz= -1
      ·have HSZ:=hid (show sizeF sz=(codingN,chunkedN) from by rw [hm1];rfl)
       rw [HSZ.out] at HOF
       have k1:(sz != -1)=false:=by simp [hm1]
       obtain ⟨f0,f1⟩:=hbf.cells2
       clear hm1 HNUM HIL hbf
       have HO9:=hid (HO5.out.al (Obj.cells #[(.string { data:=#[84,114,97,110,115,102,101,114,45,69,110,99,111,100,105,110,103] }:Value),(.string { data:=#[99,104,117,110,107,101,100] }:Value)] 127))
       have HS9:=hid (sl_lit w5 127 [(.string { data:=#[84,114,97,110,115,102,101,114,45,69,110,99,111,100,105,110,103] }:Value),(.string { data:=#[99,104,117,110,107,101,100] }:Value)] 1 (by decide))
       have hg9:=Gr.al hg5 (Obj.cells #[(.string { data:=#[84,114,97,110,115,102,101,114,45,69,110,99,111,100,105,110,103] }:Value),(.string { data:=#[99,104,117,110,107,101,100] }:Value)] 127)
       go_wp2_with (at_builtin;refine wpList_appS (W0:=w1) (n:=fs.length) (m:=1) (news:=[(.string { data:=#[84,114,97,110,115,102,101,114,45,69,110,99,111,100,105,110,103] }:Value),(.string { data:=#[99,104,117,110,107,101,100] }:Value)]) elemFld8 rfl _ _ rfl rfl rfl hg9.size HO9.out HS9.out rfl (one_fld8 codingN chunkedN) (by omega) (by decide) ?_;intro v7 w7 hown7 happ7;obtain ⟨A7,c7,rfl⟩:=hown7.form;have hg7:=happ7.gr hg9 HO9.out;have HL7:=hid (HOF.out _ _ _ hown7);clear hown7 happ7)
       go_meet
       rw [HLN.out]
       exact ⟨A7,c7,rfl,by have:=HL7.out;rw [HLN.out] at this;exact this,hg7⟩
      ·have h0:0≤sz:=by omega
       have HSZ:=hid (show sizeF sz=(lengthN,Lib.itoa sz) from by unfold sizeF;rw [if_neg hm1])
       rw [HSZ.out] at HOF
       have k1:(sz != -1)=true:=by simpa using hm1
       have HNX:=hid (fun (x:World) (g:Gr w1 x)=>HNUM.out h0 x (Gr.tr HG1.out g))
       have hil:=HIL.out h0
       clear hm1 h0 HNUM HIL HSZ HSF
       generalize Lib.itoa sz=it at *
       obtain ⟨z0,z1⟩:=hbf.free2
       go_upto_region 8 with (go_at_call 119;refine (HNX.out _ hg5).mono ?_;rintro e w6 ⟨rfl,hg6'⟩;have hg6:=Gr.tr hg5 hg6';have hbf6:=hbf.gr hg6';have HO6:=hid (HO5.out.gr hg6');obtain ⟨f0,f1⟩:=hbf6.cells2;obtain ⟨z0,z1⟩:=hbf6.free2;clear HO5)
       have hb8:=hbf6.set2 ((.string { data:=#[67,111,110,116,101,110,116,45,76,101,110,103,116,104] }:Value)) (str it)
       have hg8:=(hg6.st (p:=⟨gf,0,none⟩) hgf ((.string { data:=#[67,111,110,116,101,110,116,45,76,101,110,103,116,104] }:Value))).st (p:=⟨gf,1,none⟩) hgf (str it)
       have HO8:=hid (own_set45 (b:=gf) (own_set45 (b:=gf) HO6.out (fun h=>by have:=HLT.out _ h;omega) 0 ((.string { data:=#[67,111,110,116,101,110,116,45,76,101,110,103,116,104] }:Value))) (fun h=>by have:=HLT.out _ h;omega) 1 (str it))
       clear hbf6 HO6 hg6 z0 z1 f0 f1 HLT HNX
       generalize (w6.setCell ⟨gf,0,none⟩ ((.string { data:=#[67,111,110,116,101,110,116,45,76,101,110,103,116,104] }:Value))).setCell ⟨gf,1,none⟩ (str it)=w8 at *
       obtain ⟨f0,f1⟩:=hb8.cells2
       have HO9:=hid (HO8.out.al (Obj.cells #[(.string { data:=#[67,111,110,116,101,110,116,45,76,101,110,103,116,104] }:Value),str it] 127))
       have HS9:=hid (sl_lit w8 127 [(.string { data:=#[67,111,110,116,101,110,116,45,76,101,110,103,116,104] }:Value),str it] 1 (by decide))
       have hg9:=Gr.al hg8 (Obj.cells #[(.string { data:=#[67,111,110,116,101,110,116,45,76,101,110,103,116,104] }:Value),str it] 127)
       go_wp2_with (at_builtin;refine wpList_appS (W0:=w1) (n:=fs.length) (m:=1) (news:=[(.string { data:=#[67,111,110,116,101,110,116,45,76,101,110,103,116,104] }:Value),str it]) elemFld8 rfl _ _ rfl rfl rfl hg9.size HO9.out HS9.out rfl (one_fld8 lengthN it) (by omega) (by decide) ?_;intro v7 w7 hown7 happ7;obtain ⟨A7,c7,rfl⟩:=hown7.form;have hg7:=happ7.gr hg9 HO9.out;have HL7:=hid (HOF.out _ _ _ hown7);clear hown7 happ7)
       go_meet
       rw [HLN.out]
       exact ⟨A7,c7,rfl,by have:=HL7.out;rw [HLN.out] at this;exact this,hg7⟩
   case rest=>
    obtain ⟨A7,c7,rfl,hfl,hgc⟩:=hcut
    have HPP:=hid (HPU.out L A7 c7 _ (Gr.tr HG1.out hgc) hfl HL.out.1 HL.out.2.1 HL.out.2.2)
    have hgw:=hid (Gr.tr HG1.out hgc)
    clear HPU hfl HLF HL HNUM HSF HIL HT HO4
    generalize putH ([],[],st,L)=R at *
    go_wp2_with (go_at_call 64;refine HPP.out.mono ?_;rintro e w9 hp9;have HP9:=hid (hp9.base hgw.out);obtain ⟨A9,c9,rfl,_,_⟩:=hp9)
    go_ret2
    rw [HR.out]
    exact HP9.out
end Go.Proofs.YtflepnkpihfidaaGreatDoor
