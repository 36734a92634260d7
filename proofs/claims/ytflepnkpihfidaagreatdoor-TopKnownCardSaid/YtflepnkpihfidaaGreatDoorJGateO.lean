/- Parts. No conditions but those that each theorem names. -/
import Derived.Test.YtflepnkpihfidaaGreatDoorJHead3
import Derived.Test.YtflepnkpihfidaaGreatDoorJReq
import Derived.Test.YtflepnkpihfidaaGreatDoorJGate1
import Derived.Test.YtflepnkpihfidaaGreatDoorJRow
import Derived.Test.YtflepnkpihfidaaGreatDoorOpen2
import Derived.Test.YtflepnkpihfidaaGreatDoorJMulti
import Derived.Test.YtflepnkpihfidaaGreatDoorJCond
import Derived.Test.YtflepnkpihfidaaGreatDoorJSpec
set_option linter.unusedVariables false
set_option linter.unusedSimpArgs false
namespace Go.Proofs.YtflepnkpihfidaaGreatDoor
def rngN:List UInt8:=[82,97,110,103,101]
abbrev ReqT:=Bool×List UInt8×List SpecT×CondT
def ReqT.zero:ReqT:=(false,[],[],CondT.zero)
def rngV (vs:List (List UInt8)):List SpecT:=match vs with
 | [v]=>if (specP v).2=0 then (specP v).1 else []
 | _=>[]
def askF (T:HeadT) (n:Nat):ReqT×Nat×Nat:=
 if ofN T.2.2.2 codingN≠[] then (ReqT.zero,0,2)
 else if (ofN T.2.2.2 lengthN).all (·==[48])=false then (ReqT.zero,0,2)
 else if (condP T.2.2.2).2≠0 then (ReqT.zero,0,(condP T.2.2.2).2)
 else ((T.1==headB,T.2.1,rngV (ofN T.2.2.2 rngN),(condP T.2.2.2).1),n,0)
def askQ (s:List UInt8):ReqT×Nat×Nat:=if (askR s).2.2=0 then askF (askR s).1 (askR s).2.1 else (ReqT.zero,0,(askR s).2.2)
def reqB (q:ReqT):Bool:=((objB q.2.1&&decide (q.2.2.1.length≤64))&&condB q.2.2.2)&&q.2.2.1.all specB
def fldsS (l:List SpecT):List Fld:=if l=[] then [] else [(rngN,specTx l)]
def reqF (q:ReqT):List Fld:=fldsS q.2.2.1++condF q.2.2.2
def reqH (q:ReqT):HeadT:=(if q.1 then headB else getB,q.2.1,0,reqF q)
def putQ (q:ReqT):List UInt8×Nat:=if reqB q then putH (reqH q) else ([],1)
theorem reqB_iff {q:ReqT}:reqB q=true↔objB q.2.1=true∧q.2.2.1.length≤64∧condB q.2.2.2=true∧q.2.2.1.all specB=true:=by
 unfold reqB;simp only [Bool.and_eq_true,decide_eq_true_eq,and_assoc]
theorem ofN_fldsS (l:List SpecT) (n:List UInt8):ofN (fldsS l) n=if alike rngN n=true∧l≠[] then [specTx l] else []:=by
 unfold fldsS
 by_cases h:l=[]
 ·rw [if_pos h,if_neg (fun h'=>h'.2 h)];rfl
 ·rw [if_neg h,ofN_one]
  simp [h]
theorem reqF_other (q:ReqT) (n:List UInt8) (h0:alike rngN n=false) (h1:alike nMatch n=false) (h2:alike nNone n=false) (h3:alike nUnmod n=false) (h4:alike nMod n=false) (h5:alike nIfR n=false):ofN (reqF q) n=[]:=by
 unfold reqF
 rw [ofN_app,ofN_fldsS,condF_other q.2.2.2 n h1 h2 h3 h4 h5,h0];simp
theorem reqF_cond (q:ReqT) (n:List UInt8) (h0:alike rngN n=false):ofN (reqF q) n=ofN (condF q.2.2.2) n:=by
 unfold reqF
 rw [ofN_app,ofN_fldsS,h0];simp
theorem reqF_range (q:ReqT):ofN (reqF q) rngN=if q.2.2.1=[] then [] else [specTx q.2.2.1]:=by
 unfold reqF
 rw [ofN_app,ofN_fldsS,condF_other q.2.2.2 rngN (by decide) (by decide) (by decide) (by decide) (by decide),show alike rngN rngN=true by decide]
 by_cases h:q.2.2.1=[]
 ·simp [h]
 ·simp [h]
theorem rngV_back {l:List SpecT} (h:l.all specB=true) (hl:l.length≤64):rngV (if l=[] then [] else [specTx l])=l:=by
 by_cases hn:l=[]
 ·rw [if_pos hn,hn];rfl
 ·rw [if_neg hn]
  show (if (specP (specTx l)).2=0 then (specP (specTx l)).1 else [])=l
  rw [specP_back hn (fun t ht=>List.all_eq_true.1 h t ht) hl]
  rfl
theorem askF_of {c:CondT} {T:HeadT} {n:Nat} (hc:condB c=true) (h1:ofN T.2.2.2 codingN=[]) (h2:(ofN T.2.2.2 lengthN).all (·==[48])=true)
  (k1:ofN T.2.2.2 nMatch=ofN (condF c) nMatch) (k2:ofN T.2.2.2 nNone=ofN (condF c) nNone) (k3:ofN T.2.2.2 nUnmod=ofN (condF c) nUnmod) (k4:ofN T.2.2.2 nMod=ofN (condF c) nMod) (k5:ofN T.2.2.2 nIfR=ofN (condF c) nIfR) :
  askF T n=((T.1==headB,T.2.1,rngV (ofN T.2.2.2 rngN),c),n,0):=by
 unfold askF
 rw [condP_of hc k1 k2 k3 k4 k5,h1,h2]
 simp
theorem askF_back {q:ReqT} (h:reqB q=true) (n:Nat):askF (reqH q) n=(q,n,0):=by
 obtain ⟨h1,h2,h3,h4⟩:=reqB_iff.1 h
 rw [askF_of (T:=reqH q) h3 (reqF_other q codingN (by decide) (by decide) (by decide) (by decide) (by decide) (by decide)) (by show (ofN (reqF q) lengthN).all _=true;rw [reqF_other q lengthN (by decide) (by decide) (by decide) (by decide) (by decide) (by decide)];rfl)
  (reqF_cond q _ (by decide)) (reqF_cond q _ (by decide)) (reqF_cond q _ (by decide)) (reqF_cond q _ (by decide)) (reqF_cond q _ (by decide))]
 show ((_==headB,q.2.1,rngV (ofN (reqF q) rngN),q.2.2.2),n,0)=(q,n,0)
 rw [reqF_range,rngV_back h4 h2]
 obtain ⟨b,o,l,c⟩:=q
 cases b <;> rfl
theorem putQ_ok {q:ReqT} (h:(putQ q).2=0):reqB q=true∧putQ q=putH (reqH q)∧(putH (reqH q)).2=0:=by
 unfold putQ at *
 cases hb:reqB q with
 | false=>rw [hb] at h;cases h
 | true=>rw [hb] at h;exact ⟨rfl,rfl,h⟩
theorem askQ_back {q:ReqT} (h:(putQ q).2=0) (more:List UInt8):askQ ((putQ q).1++more)=(q,(putQ q).1.length,0):=by
 obtain ⟨hb,he,hz⟩:=putQ_ok h
 have hk:=back_eq (reqH q) more hz
 rw [if_pos (show (reqH q).2.2.1=0 from rfl)] at hk
 unfold askQ
 rw [he,hk]
 exact askF_back hb _
theorem bulk2_app (a b:List Fld):bulk2 (a++b)=bulk2 a+bulk2 b:=by unfold bulk2;simp
theorem listB_len {l:List TagT} {any:Bool} (h:listB l any=true):l.length≤32:=by
 unfold listB at h;simp only [Bool.and_eq_true,decide_eq_true_eq] at h;exact h.1.1
theorem textsT_len {l:List TagT} {any:Bool} (h:l.length≤32):(textsT l any).length≤3392:=by
 unfold textsT
 have:=joinT_len l
 split
 ·simp
 ·split
  ·omega
  ·simp
theorem condF_size {c:CondT} (h:condB c=true):(condF c).length≤5∧bulk2 (condF c)≤7100:=by
 unfold condB at h
 simp only [Bool.and_eq_true] at h
 obtain ⟨b1,b2,b3,b4,b5⟩:=h
 have t1:=textsT_len (any:=c.am) (listB_len b1)
 have t2:=textsT_len (any:=c.an) (listB_len b2)
 have t3:=tagTxt_len c.rg
 have d1:=dateT_len c.un.toNat
 have d2:=dateT_len c.si.toNat
 have one:∀(n v:List UInt8),bulk2 [(n,v)]=n.length+v.length:=fun n v=>by simp [bulk2]
 have a1:(fldsT nMatch c.mt c.am).length≤1∧bulk2 (fldsT nMatch c.mt c.am)≤3400:=by
  unfold fldsT;split
  ·rw [one];exact ⟨by simp,by have:nMatch.length=8:=rfl;omega⟩
  ·exact ⟨by simp,by simp [bulk2]⟩
 have a2:(fldsT nNone c.no c.an).length≤1∧bulk2 (fldsT nNone c.no c.an)≤3405:=by
  unfold fldsT;split
  ·rw [one];exact ⟨by simp,by have:nNone.length=13:=rfl;omega⟩
  ·exact ⟨by simp,by simp [bulk2]⟩
 have a3:(fldsD nUnmod c.un).length≤1∧bulk2 (fldsD nUnmod c.un)≤48:=by
  unfold fldsD;split
  ·rw [one];exact ⟨by simp,by have:nUnmod.length=19:=rfl;omega⟩
  ·exact ⟨by simp,by simp [bulk2]⟩
 have a4:(fldsD nMod c.si).length≤1∧bulk2 (fldsD nMod c.si)≤46:=by
  unfold fldsD;split
  ·rw [one];exact ⟨by simp,by have:nMod.length=17:=rfl;omega⟩
  ·exact ⟨by simp,by simp [bulk2]⟩
 have a5:(fldsR c.rg).length≤1∧bulk2 (fldsR c.rg)≤112:=by
  unfold fldsR;split
  ·exact ⟨by simp,by simp [bulk2]⟩
  ·rw [one];exact ⟨by simp,by have:nIfR.length=8:=rfl;omega⟩
 unfold condF
 simp only [List.length_append,bulk2_app]
 omega
theorem specTx_len {l:List SpecT} (h:l.all specB=true) (hl:l.length≤64):(specTx l).length≤2438:=by
 have:=joinS_len l (fun t ht=>List.all_eq_true.1 h t ht)
 unfold specTx
 rw [List.length_append,show bytesEq.length=6 from rfl];omega
theorem reqF_size {q:ReqT} (h:reqB q=true):(reqF q).length≤6∧bulk2 (reqF q)≤9600:=by
 obtain ⟨h1,h2,h3,h4⟩:=reqB_iff.1 h
 have hc:=condF_size h3
 have hs:=specTx_len h4 h2
 unfold reqF
 rw [List.length_append,bulk2_app]
 have hf:(fldsS q.2.2.1).length≤1∧bulk2 (fldsS q.2.2.1)≤2443:=by
  unfold fldsS;split
  ·exact ⟨by simp,by simp [bulk2]⟩
  ·exact ⟨by simp,by simp [bulk2,rngN];omega⟩
 omega
theorem bulk2_short {l:List Fld} {n:Nat} (h:bulk2 l≤n):∀f∈l,f.1.length+f.2.length≤n:=by
 induction l with
 | nil=>intro f hf;cases hf
 | cons x r ih=>
   have e:bulk2 (x::r)=x.1.length+x.2.length+bulk2 r:=by simp [bulk2]
   rw [e] at h
   intro f hf
   rcases List.mem_cons.1 hf with rfl | hf
   ·omega
   ·exact ih (by omega) f hf
theorem fieldR_right {l:List UInt8} (h:(fieldR l).2=true):right (fieldR l).1=true:=by
 unfold fieldR at *
 cases hc:cutC l with
 | none=>rw [hc] at h;cases h
 | some p=>rw [hc] at h;exact h
theorem parseGo_right (s:List UInt8) (fuel k:Nat) (acc:List Fld) (h:acc.all right=true):(parseGo s fuel k acc).1.all right=true:=by
 induction fuel generalizing k acc with
 | zero=>rfl
 | succ fuel ih=>
   cases hc:crlf (s.drop k) with
   | none=>rw [parseGo_none hc];split <;> rfl
   | some j=>
     rw [parseGo_some hc]
     split
     ·rfl
     ·split
      ·exact h
      ·split
       ·rfl
       ·split
        ·rename_i hr
         exact ih _ _ (by rw [List.all_append,h];simpa using fieldR_right hr)
        ·rfl
theorem parse_right (s:List UInt8):(parse s).1.all right=true:=parseGo_right s _ _ _ rfl
theorem restL_right (m o:List UInt8) (st:Int) (s:List UInt8) (n:Nat):(restL m o st s n).1.2.2.2.all right=true∧(restL m o st s n).1.2.2.2.length≤100:=by
 unfold restL
 simp only
 split
 ·exact ⟨parse_right _,parse_few _⟩
 ·exact ⟨rfl,by simp [noHead]⟩
theorem askR_right (s:List UInt8):(askR s).1.2.2.2.all right=true∧(askR s).1.2.2.2.length≤100:=by
 unfold askR
 split
 ·split
  ·exact ⟨rfl,by simp [noHead]⟩
  ·exact restL_right _ _ _ _ _
 ·exact ⟨rfl,by simp [noHead]⟩
theorem right_len {f:Fld} (h:right f=true):f.1.length≤200∧f.2.length≤8192:=by
 unfold right at h
 simp only [Bool.and_eq_true,decide_eq_true_eq] at h
 exact ⟨h.1.1.1.2,h.1.1.2⟩
end Go.Proofs.YtflepnkpihfidaaGreatDoor
namespace Go.Proofs.YtflepnkpihfidaaGreatDoor
open Go.ChangeShapes Go.WideShapes Go.ChangeAt Go.RowKit Go.Deep Go.Joins
def specSh:Sh:=.seq (.int .i64) (.seq (.int .i64) .nil)
def tagSh:Sh:=.seq .str (.seq .bool .nil)
def condSh:Sh:=.seq (.slice (.struct tagSh)) (.seq (.slice (.struct tagSh)) (.seq .bool (.seq .bool (.seq (.int .i64) (.seq (.int .i64) (.seq (.struct tagSh) .nil))))))
def reqSh:Sh:=.seq .bool (.seq .str (.seq (.slice (.struct specSh)) (.seq (.struct condSh) .nil)))
theorem rows_of {α:Type} {w:World} {sh:Sh} (enc:α→List Value) (ok:α→Prop) (h:∀r,Rd sh w r→∃x,r=enc x∧ok x):∀{rows:List (List Value)},(∀r∈rows,r.length=(Sh.struct sh).size∧Rd (.struct sh) w r)→∃l:List α,l.length=rows.length∧rows.flatten=l.flatMap enc∧∀x∈l,ok x
 | [],_=>⟨[],rfl,rfl,fun c hc=>by simp at hc⟩
 | r::rows,hr=>by
   obtain ⟨x,hx,ho⟩:=h r (show Rd sh w r from (hr r (List.mem_cons_self ..)).2)
   obtain ⟨l,hl,hf,hk⟩:=rows_of enc ok h (rows:=rows) (fun y hy=>hr y (List.mem_cons_of_mem _ hy))
   refine ⟨x::l,by simp [hl],by rw [List.flatten_cons,hf,hx];rfl,fun y hy=>?_⟩
   rcases List.mem_cons.1 hy with rfl | hy
   ·exact ho
   ·exact hk y hy
def Low (x:List UInt8):Prop:=x.length≤140737488355328
theorem rd_spec {w:World} {cs:List Value} (h:Rd specSh w cs):∃s:SpecT,cs=[.int .i64 s.1,.int .i64 s.2]∧True:=by
 unfold specSh at h
 obtain ⟨x0,c0,rfl,w0,h0⟩:=Rd.int_cons h
 obtain ⟨x1,c1,rfl,w1,h1⟩:=Rd.int_cons h0
 obtain rfl:=Rd.nil_eq h1
 exact ⟨(x0,x1),rfl,trivial⟩
theorem rd_tag {w:World} {cs:List Value} (h:Rd tagSh w cs):∃t:TagT,cs=[str t.1,.bool t.2]∧Low t.1:=by
 unfold tagSh at h
 obtain ⟨x0,c0,rfl,w0,h0⟩:=Rd.str_cons h
 obtain ⟨x1,c1,rfl,h1⟩:=Rd.bool_cons h0
 obtain rfl:=Rd.nil_eq h1
 exact ⟨(x0,x1),rfl,w0⟩
def reqV (q:ReqT) (vs vm vn:Value):Value:=.agg #[.bool q.1,str q.2.1,vs,vm,vn,.bool q.2.2.2.am,.bool q.2.2.2.an,.int .i64 q.2.2.2.si,.int .i64 q.2.2.2.un,str q.2.2.2.rg.1,.bool q.2.2.2.rg.2]
structure ReqA (w:World) (q:ReqT) (vs vm vn:Value):Prop where
 specs:Specs w vs q.2.2.1
 mt:Tags w vm q.2.2.2.mt
 no:Tags w vn q.2.2.2.no
theorem ReqA.gr {w w':World} {q:ReqT} {vs vm vn:Value} (h:ReqA w q vs vm vn) (g:Gr w w'):ReqA w' q vs vm vn:=⟨h.specs.gr g,h.mt.gr g,h.no.gr g⟩
structure ReqLow (q:ReqT):Prop where
 obj:q.2.1.length≤140737488355328
 rg:q.2.2.2.rg.1.length≤140737488355328
 mt:ShortT q.2.2.2.mt
 no:ShortT q.2.2.2.no
section
variable {H : Type} {enc : TypeId × Value → H} {P : Program}
theorem open_req {W:World} {b0:Nat} {t:TypeId} {v:Value} {d:DataW H} {ps:List MemPlace} (hf:fits P (.struct reqSh) (.inl t)=true)
  (hval:Value.okWide P W .any b0 t v) (hd:DataW.Trod enc P W 0 (fun _=>true) true t v d ps) (hz:∀n∈d.weights P t,n≤reachBytes):∃q vs vm vn,v=reqV q vs vm vn∧ReqA W q vs vm vn∧ReqLow q:=by
 obtain ⟨cs,rfl,hr⟩:=open_struct hf hval hd hz
 unfold reqSh at hr
 obtain ⟨b,c0,rfl,h0⟩:=Rd.bool_cons hr
 obtain ⟨o,c1,rfl,lo,h1⟩:=Rd.str_cons h0
 obtain ⟨vs,rows,c2,rfl,_,hs,hrs,h2⟩:=Rd.slice_cons h1
 obtain ⟨c3,c4,rfl,_,h3,h4⟩:=Rd.struct_cons h2
 obtain rfl:=Rd.nil_eq h4
 unfold condSh at h3
 obtain ⟨vm,rm,c5,rfl,_,hm,hrm,h5⟩:=Rd.slice_cons h3
 obtain ⟨vn,rn,c6,rfl,_,hn,hrn,h6⟩:=Rd.slice_cons h5
 obtain ⟨am,c7,rfl,h7⟩:=Rd.bool_cons h6
 obtain ⟨an,c8,rfl,h8⟩:=Rd.bool_cons h7
 obtain ⟨si,c9,rfl,_,h9⟩:=Rd.int_cons h8
 obtain ⟨un,c10,rfl,_,h10⟩:=Rd.int_cons h9
 obtain ⟨c11,c12,rfl,_,h11,h12⟩:=Rd.struct_cons h10
 obtain rfl:=Rd.nil_eq h12
 obtain ⟨tg,rfl,lt⟩:=rd_tag h11
 obtain ⟨ls,l1,l2,l3⟩:=rows_of _ _ (fun r h=>rd_spec h) hrs
 obtain ⟨lm,m1,m2,m3⟩:=rows_of _ _ (fun r h=>rd_tag h) hrm
 obtain ⟨ln,n1,n2,n3⟩:=rows_of _ _ (fun r h=>rd_tag h) hrn
 rw [l2,←l1] at hs
 rw [m2,←m1] at hm
 rw [n2,←n1] at hn
 refine ⟨(b,o,ls,⟨lm,ln,am,an,si,un,tg⟩),vs,vm,vn,?_,⟨hs,hm,hn⟩,⟨lo,lt,m3,n3⟩⟩
 simp [reqV]
end
end Go.Proofs.YtflepnkpihfidaaGreatDoor
