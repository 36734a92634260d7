/- Parts. No conditions but those that each theorem names. -/
import Derived.Test.YtflepnkpihfidaaGreatDoorJFrame2
set_option linter.unusedVariables false
set_option linter.unusedSimpArgs false
namespace Go.Proofs.YtflepnkpihfidaaGreatDoor
def endsB (s:List UInt8):Bool:=s.drop (s.length-2)==[13,10]
theorem ends_cons (a b:UInt8) (r:List UInt8) (h:1≤r.length):endsB (a::b::r)=endsB (b::r):=by
 unfold endsB
 simp only [List.length_cons]
 rw [show r.length+1+1-2=(r.length+1-2)+1 from by omega,List.drop_succ_cons]
theorem crlf_snoc (c:UInt8):∀l:List UInt8,crlf (l++[c])=match crlf l with | some k=>some k | none=>if endsB (l++[c]) then some (l.length-1) else none
 | []=>by
   have h1:crlf ([]++[c])=none:=by simp [crlf]
   have h2:endsB ([]++[c])=false:=by simp [endsB]
   rw [h1,h2];rfl
 | [a]=>by
   by_cases ha:a=13 <;> by_cases hc:c=10 <;> simp [crlf,endsB,ha,hc]
 | a::b::r=>by
   have ih:=crlf_snoc c (b::r)
   have e:endsB (a::b::r++[c])=endsB (b::r++[c]):=by
    show endsB (a::b::(r++[c]))=endsB (b::(r++[c]))
    exact ends_cons a b _ (by simp)
   rw [e]
   show crlf (a::(b::r++[c]))=match crlf (a::b::r) with | some k=>some k | none=>if endsB (b::r++[c]) then some ((a::b::r).length-1) else none
   rw [crlf,crlf]
   have hd:(b::r++[c]).head?=(b::r).head?:=rfl
   rw [hd]
   cases hc:(a==13&&(b::r).head?==some 10) with
   | true=>rfl
   | false=>
     simp only [Bool.false_eq_true,if_false]
     rw [ih]
     cases h2:crlf (b::r) with
     | some k=>rfl
     | none=>
       simp only [Option.map_none]
       cases h3:endsB (b::r++[c]) with
       | true=>simp
       | false=>rfl
theorem ends_drop {t:List UInt8} {c:UInt8} (n:Nat) (hn:n≤t.length) (h:endsB (t++[c])=false):endsB (t.drop n++[c])=false:=by
 unfold endsB at *
 rw [beq_eq_false_iff_ne] at *
 intro he
 by_cases h0:n=t.length
 ·subst h0
  rw [List.drop_length] at he
  simp at he
 ·apply h
  have e:(t.drop n++[c])=(t++[c]).drop n:=by rw [List.drop_append_of_le_length hn]
  rw [e,List.drop_drop,List.length_drop] at he
  have:n+((t++[c]).length-n-2)=(t++[c]).length-2:=by rw [List.length_append];simp;omega
  rw [this] at he
  exact he
theorem parseGo_more {t:List UInt8} {c:UInt8} (he:endsB (t++[c])=false) (hl:(t++[c]).length≤65536):∀(fuel f2 n:Nat) (acc:List Fld),fuel≤f2→n≤t.length→(parseGo t fuel n acc).2.2=3→(parseGo (t++[c]) f2 n acc).2.2=3
 | 0,_,_,_,_,_,h=>by simp [parseGo] at h
 | fuel+1,0,_,_,hf,_,_=>by omega
 | fuel+1,f2+1,n,acc,hf,hn,h=>by
   have hd:(t++[c]).drop n=t.drop n++[c]:=by rw [List.drop_append_of_le_length hn]
   unfold parseGo at h ⊢
   rw [hd,crlf_snoc,ends_drop n hn he]
   cases hc:crlf (t.drop n) with
   | none=>
     simp only [Bool.false_eq_true,if_false]
     rw [if_neg (by omega)]
   | some k=>
     have hk:=crlf_lt hc
     rw [List.length_drop] at hk
     rw [hc] at h
     simp only at h ⊢
     rw [List.take_append_of_le_length (by rw [List.length_drop];omega)]
     by_cases h1:65536 < n+k+2
     ·rw [if_pos h1] at h;cases h
     rw [if_neg h1] at h ⊢
     by_cases h2:k=0
     ·rw [if_pos h2] at h;cases h
     rw [if_neg h2] at h ⊢
     by_cases h3:acc.length=100
     ·rw [if_pos h3] at h;cases h
     rw [if_neg h3] at h ⊢
     by_cases h4:(fieldR ((t.drop n).take k)).2=true
     ·rw [if_pos h4] at h ⊢
      exact parseGo_more he hl fuel f2 _ _ (by omega) (by omega) h
     ·rw [if_neg h4] at h;cases h
theorem parse_more {t:List UInt8} {c:UInt8} (he:endsB (t++[c])=false) (hl:(t++[c]).length≤65536) (h:(parse t).2.2=3):(parse (t++[c])).2.2=3:=
 parseGo_more he hl _ _ 0 [] (by simp) (Nat.zero_le _) h
theorem tellR_more {s:List UInt8} {c:UInt8} (he:endsB (s++[c])=false) (h0:crlf s=none→s.length+1≤400) (hl:s.length+1≤65536) (h:(tellR s).2.2=3):(tellR (s++[c])).2.2=3:=by
 have hcr:=crlf_snoc c s
 rw [he] at hcr
 cases hc:crlf s with
 | none=>
   rw [hc] at hcr
   simp only [Bool.false_eq_true,if_false] at hcr
   have hf:firstL (s++[c])=([],0,3):=by
    unfold firstL;rw [hcr];simp only
    rw [if_pos (by rw [List.length_append];simpa using h0 hc)]
   unfold tellR
   rw [hf,if_neg (by decide)]
 | some i=>
   rw [hc] at hcr
   simp only at hcr
   have hi:=crlf_lt hc
   have hf:firstL (s++[c])=firstL s:=by
    unfold firstL;rw [hcr,hc];simp only
    rw [List.take_append_of_le_length (by omega)]
   unfold tellR at h ⊢
   rw [hf]
   by_cases h1:(firstL s).2.2=0
   ·rw [if_pos h1] at h ⊢
    cases ht:tellN (firstL s).1 with
    | none=>rw [ht] at h;cases h
    | some n=>
      rw [ht] at h
      simp only at h ⊢
      have hn:(firstL s).2.1=i+2:=by
       obtain ⟨j,hj,_,e⟩:=firstL_ok h1
       rw [hc] at hj;injection hj with hj;subst hj
       rw [e]
      rw [hn] at h ⊢
      unfold restL at h ⊢
      simp only at h ⊢
      rw [List.drop_append_of_le_length (by omega)]
      by_cases h2:(parse (s.drop (i+2))).2.2=0
      ·rw [if_pos h2] at h;cases h
      ·rw [if_neg h2] at h
       have h3:(parse (s.drop (i+2))).2.2=3:=h
       have h4:=parse_more (c:=c) (ends_drop (i+2) (by omega) he) (by rw [List.length_append,List.length_drop];simp;omega) h3
       rw [if_neg (by omega)]
       exact h4
   ·rw [if_neg h1] at h ⊢
    exact h
def crN:List UInt8:=[67,111,110,116,101,110,116,45,82,97,110,103,101]
def ctN:List UInt8:=[67,111,110,116,101,110,116,45,84,121,112,101]
def sevN:List UInt8:=[109,117,108,116,105,112,97,114,116,47,98,121,116,101,114,97,110,103,101,115,59,32,98,111,117,110,100,97,114,121,61]
structure ClH where
 st:Int
 fs:List Fld
 kind:Nat
 size:Nat
 tells:Nat
 fro:Int
 til:Int
 bnd:List UInt8
inductive ClS where
 | head (raw:List UInt8)
 | bad0
 | body (h:ClH) (fr:FrT) (b:List UInt8)
 | bad1 (h:ClH) (b:List UInt8)
def rangedR (fs:List Fld) (k z:Nat):ClS:=
 match rangeR (getN fs crN).1 with
 | some x=>if k=1∧(z:Int)≠x.2.1-x.1 then .bad0 else .body ⟨206,fs,k,z,2,x.1,x.2.1,[]⟩ (FrT.new k z) []
 | none=>match stripL sevN (getN fs ctN).1 with
   | some b=>if boundB b then .body ⟨206,fs,k,z,3,0,0,b⟩ (FrT.new k z) [] else .bad0
   | none=>.bad0
def heedR (asked:List UInt8) (st:Int) (fs:List Fld):ClS:=
 if (frameL st fs asked).2.2≠0 then .bad0
 else if st=200 then .body ⟨200,fs,(frameL st fs asked).1,(frameL st fs asked).2.1.toNat,1,0,0,[]⟩ (FrT.new (frameL st fs asked).1 (frameL st fs asked).2.1.toNat) []
 else if st=206 then rangedR fs (frameL st fs asked).1 (frameL st fs asked).2.1.toNat
 else .body ⟨st,fs,(frameL st fs asked).1,(frameL st fs asked).2.1.toNat,0,0,0,[]⟩ (FrT.new (frameL st fs asked).1 (frameL st fs asked).2.1.toNat) []
def bodyB1 (h:ClH) (fr:FrT) (b:List UInt8) (c:UInt8):ClS:=
 if frDone fr=true then .bad1 h b
 else if (frTk fr [c]).2.2.1≠0 then .bad1 h b
 else if h.tells=2∧h.til-h.fro < (b.length:Int)+((frTk fr [c]).1.length:Int) then .bad1 h b
 else .body h (frTk fr [c]).2.2.2 (b++(frTk fr [c]).1)
def clByte (asked:List UInt8):ClS→UInt8→ClS
 | .head raw,c=>if (tellR (raw++[c])).2.2=3 then .head (raw++[c]) else if (tellR (raw++[c])).2.2=0 then heedR asked (tellR (raw++[c])).1.2.2.1 (tellR (raw++[c])).1.2.2.2 else .bad0
 | .bad0,_=>.bad0
 | .body h fr b,c=>bodyB1 h fr b c
 | .bad1 h b,_=>.bad1 h b
def nowL (asked s:List UInt8):ClS:=s.foldl (clByte asked) (.head [])
def ClS.wrong:ClS→Bool
 | .bad0=>true
 | .bad1 _ _=>true
 | _=>false
def ClS.headed:ClS→Bool
 | .body _ _ _=>true
 | .bad1 _ _=>true
 | _=>false
def endBody (h:ClH) (fr:FrT) (b:List UInt8):Nat:=
 if frDone fr.stop=false then 13
 else if h.kind=4 then 0
 else if h.tells=2 then (if (b.length:Int) < h.til-h.fro then 13 else 0)
 else if h.tells=3 then (match multiL h.bnd b with | .inl e=>if e=13 then 13 else 2 | .inr _=>0)
 else 0
def ClS.ends:ClS→Nat
 | .head _=>13
 | .bad0=>2
 | .body h fr b=>endBody h fr b
 | .bad1 _ _=>2
def clBytes (h:ClH) (b:List UInt8):List ((Int×Int)×List UInt8):=
 if h.tells=3 then (match multiL h.bnd b with | .inl _=>[] | .inr ps=>ps.map fun p=>((p.1.1,p.1.2.1),p.2))
 else if h.tells=0∨b=[] then []
 else [((h.fro,h.fro+b.length),b)]
def ClS.came:ClS→List ((Int×Int)×List UInt8)
 | .body h _ b=>clBytes h b
 | .bad1 h b=>clBytes h b
 | _=>[]
def sizeH (h:ClH):Int:=if h.kind=1 then h.size else if h.kind=4 then 0 else -1
theorem fold_bad0 (asked:List UInt8):∀l:List UInt8,l.foldl (clByte asked) .bad0=.bad0
 | []=>rfl
 | _::l=>fold_bad0 asked l
theorem fold_bad1 (asked:List UInt8) (h:ClH) (b:List UInt8):∀l:List UInt8,l.foldl (clByte asked) (.bad1 h b)=.bad1 h b
 | []=>rfl
 | _::l=>fold_bad1 asked h b l
theorem fold_wrong (asked:List UInt8) {s:ClS} (h:s.wrong=true) (l:List UInt8):l.foldl (clByte asked) s=s:=by
 cases s with
 | head _=>cases h
 | bad0=>exact fold_bad0 asked l
 | body _ _ _=>cases h
 | bad1 hh b=>exact fold_bad1 asked hh b l
theorem clByte_head (asked raw:List UInt8) (c:UInt8):clByte asked (.head raw) c=if (tellR (raw++[c])).2.2=3 then .head (raw++[c]) else if (tellR (raw++[c])).2.2=0 then heedR asked (tellR (raw++[c])).1.2.2.1 (tellR (raw++[c])).1.2.2.2 else .bad0:=rfl
theorem frameL_ok {st:Int} {fs:List Fld} {asked:List UInt8} (h:(frameL st fs asked).2.2=0):1≤(frameL st fs asked).1∧(frameL st fs asked).1≤4∧0≤(frameL st fs asked).2.1∧(frameL st fs asked).2.1≤1099511627776∧((frameL st fs asked).1≠1→(frameL st fs asked).2.1=0):=by
 unfold frameL at *
 split
 ·simp
 ·split
  ·split
   ·simp
   ·rename_i h1 h2 h3;rw [if_neg h1,if_pos h2,if_neg h3] at h;cases h
  ·split
   ·simp
   ·split
    ·rename_i h1 h2 h3 h4;rw [if_neg h1,if_neg h2,if_neg h3,if_pos h4] at h;cases h
    ·simp;omega
structure BodyInv (h:ClH) (fr:FrT) (b:List UInt8):Prop where
 kind:fr.kind=h.kind
 k1:1≤h.kind
 k4:h.kind≤4
 bad:fr.bad=false
 ended:fr.ended=false
 ck:CkOk fr.ck
 left:fr.left≤h.size
 size:h.size≤1099511627776
 zero:h.kind≠1→h.size=0
 sum:h.kind=1→fr.left+b.length=h.size
 one:h.kind=1→h.tells=2→(h.size:Int)=h.til-h.fro
 room:h.tells=2→(b.length:Int)≤h.til-h.fro
 span:h.tells=2→0≤h.fro∧h.fro≤h.til∧h.til≤4611686018427387903
 tells:h.tells≤3
 zspan:h.tells≠2→h.fro=0∧h.til=0
 bnd:h.tells=3→boundB h.bnd=true
structure HeadInv (h:ClH):Prop where
 k1:1≤h.kind
 k4:h.kind≤4
 size:h.size≤1099511627776
 zero:h.kind≠1→h.size=0
 span:h.tells=2→0≤h.fro∧h.fro≤h.til∧h.til≤4611686018427387903
 tells:h.tells≤3
 zspan:h.tells≠2→h.fro=0∧h.til=0
 bnd:h.tells=3→boundB h.bnd=true
theorem BodyInv.hd {h:ClH} {fr:FrT} {b:List UInt8} (i:BodyInv h fr b):HeadInv h:=⟨i.k1,i.k4,i.size,i.zero,i.span,i.tells,i.zspan,i.bnd⟩
def ClInv:ClS→Prop
 | .head raw=>(tellR raw).2.2=3
 | .bad0=>True
 | .body h fr b=>BodyInv h fr b
 | .bad1 h b=>HeadInv h∧(h.tells=2→(b.length:Int)≤h.til-h.fro)
theorem clInv_start:ClInv (.head []):=by
 show (tellR []).2.2=3
 decide
theorem rangeR_span {s:List UInt8} {x:Int×Int×Int} (h:rangeR s=some x):0≤x.1∧x.1 < x.2.1∧x.2.1≤4611686018427387903:=by
 obtain ⟨e,hn⟩:=rangeR_some h
 unfold contentL at e
 split at e
 ·rename_i hc
  unfold contB at hc
  simp only [Bool.and_eq_true,Bool.or_eq_true,decide_eq_true_eq] at hc
  obtain ⟨⟨⟨⟨⟨h1,h2⟩,h3⟩,h4⟩,h5⟩,h6⟩:=hc
  have hb:=span_bounds h1
  omega
 ·exact absurd e.symm hn
theorem inv_new {h:ClH} (i:HeadInv h) (h1:h.kind=1→h.tells=2→(h.size:Int)=h.til-h.fro) (h2:h.tells=2→0≤h.til-h.fro):BodyInv h (FrT.new h.kind h.size) []:=
 ⟨rfl,i.k1,i.k4,rfl,rfl,ckOk_start,Nat.le_refl _,i.size,i.zero,fun _=>by simp [FrT.new],h1,fun h=>by simpa using h2 h,i.span,i.tells,i.zspan,i.bnd⟩
theorem inv_ranged {fs:List Fld} {k z:Nat} (hk1:1≤k) (hk4:k≤4) (hz:z≤1099511627776) (h0:k≠1→z=0):ClInv (rangedR fs k z):=by
 unfold rangedR
 cases hr:rangeR (getN fs crN).1 with
 | some x=>
   have hs:=rangeR_span hr
   simp only
   split
   ·trivial
   ·rename_i hc
    exact inv_new (h:=⟨206,fs,k,z,2,x.1,x.2.1,[]⟩) ⟨hk1,hk4,hz,h0,fun _=>by simp only;omega,by simp,fun h=>absurd rfl h,fun h=>by cases h⟩
     (fun h1 _=>by simp only at *;by_cases h2:(z:Int)=x.2.1-x.1;exact h2;exact absurd ⟨h1,h2⟩ hc) (fun _=>by simp only;omega)
 | none=>
   simp only
   cases hst:stripL sevN (getN fs ctN).1 with
   | none=>trivial
   | some b=>
     simp only
     cases hb:boundB b with
     | false=>simp only [Bool.false_eq_true,if_false];trivial
     | true=>
       simp only [if_true]
       exact inv_new (h:=⟨206,fs,k,z,3,0,0,b⟩) ⟨hk1,hk4,hz,h0,(fun h=>by simp at h),by simp,fun _=>⟨rfl,rfl⟩,fun _=>hb⟩ (fun _ h=>by simp at h) (fun h=>by simp at h)
theorem inv_heed {asked:List UInt8} {st:Int} {fs:List Fld}:ClInv (heedR asked st fs):=by
 unfold heedR
 by_cases h0:(frameL st fs asked).2.2=0
 ·obtain ⟨h1,h2,h3,h4,h5⟩:=frameL_ok h0
  rw [if_neg (by simp [h0])]
  have hz:(frameL st fs asked).2.1.toNat≤1099511627776:=by omega
  have hz0:(frameL st fs asked).1≠1→(frameL st fs asked).2.1.toNat=0:=fun h=>by rw [h5 h];rfl
  by_cases ha:st=200
  ·rw [if_pos ha]
   exact inv_new (h:=⟨200,fs,(frameL st fs asked).1,(frameL st fs asked).2.1.toNat,1,0,0,[]⟩) ⟨h1,h2,hz,hz0,(fun h=>by simp at h),by simp,fun _=>⟨rfl,rfl⟩,(fun h=>by simp at h)⟩ (fun _ h=>by simp at h) (fun h=>by simp at h)
  rw [if_neg ha]
  by_cases hb:st=206
  ·rw [if_pos hb];exact inv_ranged h1 h2 hz hz0
  ·rw [if_neg hb]
   exact inv_new (h:=⟨st,fs,(frameL st fs asked).1,(frameL st fs asked).2.1.toNat,0,0,0,[]⟩) ⟨h1,h2,hz,hz0,(fun h=>by simp at h),by simp,fun _=>⟨rfl,rfl⟩,(fun h=>by simp at h)⟩ (fun _ h=>by simp at h) (fun h=>by simp at h)
 ·rw [if_pos h0];trivial
theorem frTk_inv {h:ClH} {fr:FrT} {b l:List UInt8} (i:BodyInv h fr b) (hd:frDone fr=false) (he:(frTk fr l).2.2.1=0) (hl:l.length≤1∨h.kind≠2) :
  (frTk fr l).2.2.2.kind=h.kind∧(frTk fr l).2.2.2.bad=false∧(frTk fr l).2.2.2.ended=false∧CkOk (frTk fr l).2.2.2.ck∧(frTk fr l).2.2.2.left≤h.size∧(h.kind=1→(frTk fr l).2.2.2.left+(b++(frTk fr l).1).length=h.size):=by
 obtain ⟨k,left,c,bd,en⟩:=fr
 obtain ⟨h1,h2,h3,h4,h5,h6,h7,h8,h9,h10,h11,h12,_,_,_,_⟩:=i
 simp only at h1 h4 h5 h6 h7 h10
 subst h4 h5
 unfold frTk at he ⊢
 simp only [Bool.false_eq_true,if_false] at he ⊢
 by_cases e1:k=1
 ·rw [if_pos e1] at he ⊢
  have:=h10 (by omega)
  refine ⟨by simp only;omega,rfl,rfl,h6,by simp only;omega,fun _=>?_⟩
  simp only [List.length_append,List.length_take]
  omega
 rw [if_neg e1] at he ⊢
 by_cases e2:k=2
 ·rw [if_pos e2] at he ⊢
  cases ho:(ckTake c l).2.2.2 with
  | false=>rw [ho] at he;simp at he
  | true=>
    refine ⟨by simp only;omega,by simp,rfl,ckTake_ok l c h6 ho,h7,fun hk=>by omega⟩
 rw [if_neg e2] at he ⊢
 by_cases e3:k=3
 ·rw [if_pos e3] at he ⊢
  exact ⟨by simp only;omega,rfl,rfl,h6,h7,fun hk=>by omega⟩
 ·exfalso
  unfold frDone at hd
  simp only at hd
  rw [if_neg e1,if_neg e2,if_neg e3] at hd
  cases hd
theorem inv_body1 {h:ClH} {fr:FrT} {b:List UInt8} (i:BodyInv h fr b) (c:UInt8):ClInv (bodyB1 h fr b c):=by
 have hbad:ClInv (.bad1 h b):=⟨i.hd,i.room⟩
 unfold bodyB1
 cases hd:frDone fr with
 | true=>simpa using hbad
 | false=>
   simp only [Bool.false_eq_true,if_false]
   by_cases he:(frTk fr [c]).2.2.1=0
   ·rw [if_neg (by simp [he])]
    by_cases hr:h.tells=2∧h.til-h.fro < (b.length:Int)+((frTk fr [c]).1.length:Int)
    ·rw [if_pos hr];exact hbad
    ·rw [if_neg hr]
     obtain ⟨a1,a2,a3,a4,a5,a6⟩:=frTk_inv i hd he (.inl (by simp))
     refine ⟨a1,i.k1,i.k4,a2,a3,a4,a5,i.size,i.zero,a6,i.one,fun h2=>?_,i.span,i.tells,i.zspan,i.bnd⟩
     rw [List.length_append]
     have:¬(h.til-h.fro < (b.length:Int)+((frTk fr [c]).1.length:Int)):=fun h3=>hr ⟨h2,h3⟩
     omega
   ·rw [if_pos he];exact hbad
theorem inv_byte {asked:List UInt8} {s:ClS} (h:ClInv s) (c:UInt8):ClInv (clByte asked s c):=by
 cases s with
 | head raw=>
   rw [clByte_head]
   by_cases h3:(tellR (raw++[c])).2.2=3
   ·rw [if_pos h3];exact h3
   rw [if_neg h3]
   by_cases h0:(tellR (raw++[c])).2.2=0
   ·rw [if_pos h0];exact inv_heed
   ·rw [if_neg h0];trivial
 | bad0=>trivial
 | body hh fr b=>exact inv_body1 h c
 | bad1 hh b=>exact h
theorem inv_fold {asked:List UInt8}:∀{l:List UInt8} {s:ClS},ClInv s→ClInv (l.foldl (clByte asked) s)
 | [],_,h=>h
 | c::l,_,h=>inv_fold (l:=l) (inv_byte h c)
theorem inv_now (asked l:List UInt8):ClInv (nowL asked l):=inv_fold clInv_start
theorem now_app (asked a b:List UInt8):nowL asked (a++b)=b.foldl (clByte asked) (nowL asked a):=by unfold nowL;rw [List.foldl_append]
theorem now_snoc (asked a:List UInt8) (c:UInt8):nowL asked (a++[c])=clByte asked (nowL asked a) c:=now_app asked a [c]
theorem fold_fixed (asked:List UInt8) {h:ClH} {fr:FrT}:∀(l b:List UInt8),BodyInv h fr b→h.kind=1→l.length≤fr.left→l.foldl (clByte asked) (.body h fr b)=.body h ⟨1,fr.left-l.length,fr.ck,fr.bad,false⟩ (b++l):=by
 intro l
 induction l generalizing fr with
 | nil=>
   intro b i hk hl
   obtain ⟨k,left,c,bd,en⟩:=fr
   have h1:=i.kind;have h2:=i.ended
   simp only at h1 h2
   subst h2
   simp [h1,hk]
 | cons c l ih=>
   intro b i hk hl
   have hl1:1≤fr.left:=by simp at hl;omega
   have hd:frDone fr=false:=by
    unfold frDone;rw [if_pos (by rw [i.kind];exact hk)];simp;omega
   have ht:frTk fr [c]=([c],1,0,⟨1,fr.left-1,fr.ck,fr.bad,false⟩):=by
    unfold frTk
    rw [i.ended]
    simp only [Bool.false_eq_true,if_false]
    rw [if_pos (by rw [i.kind];exact hk)]
    have:min fr.left [c].length=1:=by simp;omega
    rw [this];rfl
   have hsum:=i.sum hk
   have hroom:¬(h.tells=2∧h.til-h.fro < (b.length:Int)+(([c]:List UInt8).length:Int)):=by
    rintro ⟨h2,h3⟩
    have:=i.one hk h2
    simp at h3
    omega
   have hb1:clByte asked (.body h fr b) c=.body h ⟨1,fr.left-1,fr.ck,fr.bad,false⟩ (b++[c]):=by
    show bodyB1 h fr b c=_
    unfold bodyB1
    rw [hd,ht]
    simp only [Bool.false_eq_true,if_false,ne_eq,not_true_eq_false]
    rw [if_neg hroom]
   have i2:BodyInv h ⟨1,fr.left-1,fr.ck,fr.bad,false⟩ (b++[c]):=by
    have:=inv_byte (asked:=asked) (s:=.body h fr b) i c
    rw [hb1] at this;exact this
   show l.foldl (clByte asked) (clByte asked (.body h fr b) c)=_
   rw [hb1,ih (fr:=⟨1,fr.left-1,fr.ck,fr.bad,false⟩) (b++[c]) i2 hk (by simp at hl ⊢;omega)]
   simp only [List.append_assoc,List.singleton_append,List.length_cons]
   rw [show fr.left-1-l.length=fr.left-(l.length+1) from by omega]
theorem fold_close (asked:List UInt8) {h:ClH} {fr:FrT}:∀(l b:List UInt8),BodyInv h fr b→h.kind=3→(h.tells=2→(b.length:Int)+l.length≤h.til-h.fro)→l.foldl (clByte asked) (.body h fr b)=.body h fr (b++l):=by
 intro l
 induction l with
 | nil=>intro b i hk _;simp
 | cons c l ih=>
   intro b i hk hr
   have hd:frDone fr=false:=by
    unfold frDone;rw [if_neg (by rw [i.kind];omega),if_neg (by rw [i.kind];omega),if_pos (by rw [i.kind];exact hk)];exact i.ended
   have ht:frTk fr [c]=([c],1,0,fr):=by
    unfold frTk
    rw [i.ended]
    simp only [Bool.false_eq_true,if_false]
    rw [if_neg (by rw [i.kind];omega),if_neg (by rw [i.kind];omega),if_pos (by rw [i.kind];exact hk)];rfl
   have hb1:clByte asked (.body h fr b) c=.body h fr (b++[c]):=by
    show bodyB1 h fr b c=_
    unfold bodyB1
    rw [hd,ht]
    simp only [Bool.false_eq_true,if_false,ne_eq,not_true_eq_false]
    rw [if_neg]
    rintro ⟨h2,h3⟩
    have:=hr h2
    simp at h3 this
    omega
   have i2:BodyInv h fr (b++[c]):=by
    have:=inv_byte (asked:=asked) (s:=.body h fr b) i c
    rw [hb1] at this;exact this
   show l.foldl (clByte asked) (clByte asked (.body h fr b) c)=_
   rw [hb1,ih (b++[c]) i2 hk (fun h2=>by have:=hr h2;simp at this ⊢;omega)]
   simp
theorem fold_over (asked:List UInt8) {h:ClH} {fr:FrT} {b l:List UInt8} (i:BodyInv h fr b) (hk:h.kind=3) (ht:h.tells=2) (hr:h.til-h.fro < (b.length:Int)+l.length):l.foldl (clByte asked) (.body h fr b)=.bad1 h (b++l.take (h.til-h.fro-b.length).toNat):=by
 have hroom:=i.room ht
 obtain ⟨m,hm⟩:∃m:Nat,m=(h.til-h.fro-b.length).toNat:=⟨_,rfl⟩
 have hml:m < l.length:=by omega
 have e:l=l.take m++(l[m]::l.drop (m+1)):=by rw [←List.drop_eq_getElem_cons hml,List.take_append_drop]
 have hlen:(l.take m).length=m:=by rw [List.length_take];omega
 have h1:=fold_close asked (l.take m) b i hk (fun _=>by rw [hlen];omega)
 have i2:BodyInv h fr (b++l.take m):=by
  have:=inv_fold (asked:=asked) (l:=l.take m) (s:=.body h fr b) i
  rw [h1] at this;exact this
 rw [←hm]
 conv=>lhs;rw [e]
 rw [List.foldl_append,h1]
 show (l.drop (m+1)).foldl (clByte asked) (bodyB1 h fr (b++l.take m) l[m])=_
 have hd:frDone fr=false:=by
  unfold frDone;rw [if_neg (by rw [i.kind];omega),if_neg (by rw [i.kind];omega),if_pos (by rw [i.kind];exact hk)];exact i.ended
 have ht1:frTk fr [l[m]]=([l[m]],1,0,fr):=by
  unfold frTk
  rw [i.ended]
  simp only [Bool.false_eq_true,if_false]
  rw [if_neg (by rw [i.kind];omega),if_neg (by rw [i.kind];omega),if_pos (by rw [i.kind];exact hk)];rfl
 have hb1:bodyB1 h fr (b++l.take m) l[m]=.bad1 h (b++l.take m):=by
  unfold bodyB1
  rw [hd,ht1]
  simp only [Bool.false_eq_true,if_false,ne_eq,not_true_eq_false]
  rw [if_pos ⟨ht,by rw [List.length_append,hlen];simp;omega⟩]
 rw [hb1,fold_bad1]
theorem fold_done (asked:List UInt8) {h:ClH} {fr:FrT} {b l:List UInt8} (hd:frDone fr=true) (hl:l≠[]):l.foldl (clByte asked) (.body h fr b)=.bad1 h b:=by
 cases l with
 | nil=>exact absurd rfl hl
 | cons c l=>
   show l.foldl (clByte asked) (bodyB1 h fr b c)=_
   unfold bodyB1
   rw [if_pos hd,fold_bad1]
def linesL (raw:List UInt8):Nat:=match crlf raw with | none=>0 | some i=>i+2
theorem lines_snoc (raw:List UInt8) (c:UInt8):linesL (raw++[c])=if endsB (raw++[c])=true∧linesL raw=0 then raw.length+1 else linesL raw:=by
 unfold linesL
 rw [crlf_snoc]
 cases hc:crlf raw with
 | some k=>simp
 | none=>
   simp only
   cases he:endsB (raw++[c]) with
   | false=>simp
   | true=>
     simp only [if_true,and_self]
     have:2≤(raw++[c]).length:=by
      unfold endsB at he
      rw [beq_iff_eq] at he
      have:=congrArg List.length he
      rw [List.length_drop] at this
      simp at this ⊢
      omega
     simp at this
     omega
theorem byte_quiet (asked:List UInt8) {raw:List UInt8} {c:UInt8} (h:(tellR raw).2.2=3) (he:endsB (raw++[c])=false) (hl:linesL raw=0→raw.length+1≤400) (hb:raw.length+1≤65536):clByte asked (.head raw) c=.head (raw++[c]):=by
 rw [clByte_head,if_pos]
 exact tellR_more he (fun hc=>hl (by unfold linesL;rw [hc])) hb h
theorem lines_le (raw:List UInt8):linesL raw≤raw.length:=by
 unfold linesL
 cases hc:crlf raw with
 | none=>exact Nat.zero_le _
 | some k=>have:=crlf_lt hc;simp only;omega
theorem now_more (asked:List UInt8) {B:List UInt8} (h:∀k,k < B.length→(tellR (B.take k)).2.2=3):∀k,k < B.length→nowL asked (B.take k)=.head (B.take k)
 | 0,_=>by simp [nowL]
 | k+1,hk=>by
   have ih:=now_more asked h k (by omega)
   have e:B.take (k+1)=B.take k++[B[k]]:=by rw [List.take_succ_eq_append_getElem (by omega)]
   have h3:=h (k+1) hk
   rw [e] at h3 ⊢
   rw [now_snoc,ih]
   rw [clByte_head,if_pos h3]
theorem now_head (asked:List UInt8) {B:List UInt8} (h:∀k,k < B.length→(tellR (B.take k)).2.2=3) (h0:(tellR B).2.2=0) (hB:B≠[]):nowL asked B=heedR asked (tellR B).1.2.2.1 (tellR B).1.2.2.2:=by
 have hpos:1≤B.length:=by cases B with
  | nil=>exact absurd rfl hB
  | cons _ _=>simp
 have e : B = B.take (B.length - 1) ++ [B[B.length - 1]'(by omega)] := by
  have:=List.take_succ_eq_append_getElem (l:=B) (i:=B.length-1) (by omega)
  rw [show B.length-1+1=B.length from by omega,List.take_length] at this
  exact this
 have hm:=now_more asked h (B.length-1) (by omega)
 conv=>lhs;rw [e]
 rw [now_snoc,hm]
 rw [clByte_head,←e,if_neg (by omega),if_pos h0]
theorem fold_frTk (asked:List UInt8) {h:ClH}:∀(l:List UInt8) {fr fr':FrT} {b d:List UInt8},BodyInv h fr b→frTk fr l=(d,l.length,0,fr')→(h.tells=2→(b.length:Int)+d.length≤h.til-h.fro)→l.foldl (clByte asked) (.body h fr b)=.body h fr' (b++d):=by
 intro l fr fr' b d i ht hr
 by_cases h1:h.kind=1
 ·have h2:=ht
  unfold frTk at h2
  rw [i.ended] at h2
  simp only [Bool.false_eq_true,if_false] at h2
  rw [if_pos (by rw [i.kind];exact h1)] at h2
  simp only [Prod.mk.injEq] at h2
  obtain ⟨e1,e2,_,e4⟩:=h2
  rw [fold_fixed asked l b i h1 (by omega),←e4,←e1,e2,List.take_length]
 by_cases h3:h.kind=3
 ·have h2:=ht
  unfold frTk at h2
  rw [i.ended] at h2
  simp only [Bool.false_eq_true,if_false] at h2
  rw [if_neg (by rw [i.kind];exact h1),if_neg (by rw [i.kind];omega),if_pos (by rw [i.kind];exact h3)] at h2
  simp only [Prod.mk.injEq,true_and] at h2
  obtain ⟨e1,e2⟩:=h2
  rw [←e1] at hr ⊢
  rw [←e2]
  exact fold_close asked l b i h3 hr
 by_cases h4:h.kind=4
 ·have h2:=ht
  unfold frTk at h2
  rw [i.ended] at h2
  simp only [Bool.false_eq_true,if_false] at h2
  rw [if_neg (by rw [i.kind];exact h1),if_neg (by rw [i.kind];omega),if_neg (by rw [i.kind];exact h3)] at h2
  simp only [Prod.mk.injEq,true_and] at h2
  obtain ⟨e1,e2,e3⟩:=h2
  have:l=[]:=List.length_eq_zero_iff.1 e2.symm
  subst this
  rw [←e1,←e3];simp
 have hk2:h.kind=2:=by have:=i.k1;have:=i.k4;omega
 obtain ⟨k,left,c,bd,en⟩:=fr
 have e1:=i.kind;have e2:=i.ended;have e3:=i.bad
 simp only at e1 e2 e3
 subst e2 e3
 obtain rfl:k=2:=by omega
 clear e1
 induction l generalizing c b d with
 | nil=>
   have h2:(([]:List UInt8),0,0,(⟨2,left,c,false,false⟩:FrT))=(d,0,0,fr'):=ht
   simp only [Prod.mk.injEq,true_and] at h2
   rw [←h2.1,←h2.2];simp
 | cons x l ih=>
   have hc:(ckTake c (x::l)).2.2.2=true∧(ckTake c (x::l)).2.1=l.length+1∧d=(ckTake c (x::l)).1∧fr'=⟨2,left,(ckTake c (x::l)).2.2.1,false,false⟩:=by
    have h2:(if (ckTake c (x::l)).2.2.2 then (ckTake c (x::l)).1 else [],(ckTake c (x::l)).2.1,if (ckTake c (x::l)).2.2.2 then 0 else 2,(⟨2,left,(ckTake c (x::l)).2.2.1,!(ckTake c (x::l)).2.2.2,false⟩:FrT))=(d,l.length+1,0,fr'):=ht
    cases ho:(ckTake c (x::l)).2.2.2 with
    | false=>rw [ho] at h2;simp at h2
    | true=>rw [ho] at h2;simp only [if_true,Prod.mk.injEq,true_and] at h2;exact ⟨rfl,h2.2.1,h2.1.symm,h2.2.2.symm⟩
   obtain ⟨c1,c2,c3,c4⟩:=hc
   have ha:=ckTake_app [x] l c
   rw [List.singleton_append] at ha
   have h9:c.pos≠9:=fun h9=>by rw [ckTake_end h9] at c2;simp at c2
   have hx:(ckTake c [x]).2.2.2=true∧(ckTake c [x]).2.1=1:=by
    by_cases hh:(ckTake c [x]).2.2.2=true∧(ckTake c [x]).2.1=([x]:List UInt8).length
    ·exact hh
    ·rw [if_neg hh] at ha
     rw [ha] at c1 c2
     by_cases h3:c.pos=3
     ·rw [ckTake_data1 h3] at c1 c2 ⊢;exact ⟨by simpa using c1,rfl⟩
     ·cases hs:(ckStep c x).2 with
      | true=>rw [ckTake_step h9 h3 hs] at c1 ⊢;exact ⟨c1,rfl⟩
      | false=>rw [ckTake_bad h9 h3 hs] at c1;cases c1
   rw [if_pos ⟨hx.1,hx.2⟩] at ha
   have hd:frDone ⟨2,left,c,false,false⟩=false:=by
    show (!false&&c.pos==9)=false
    simpa using h9
   have ht1:frTk ⟨2,left,c,false,false⟩ [x]=((ckTake c [x]).1,1,0,⟨2,left,(ckTake c [x]).2.2.1,false,false⟩):=by
    show (if (ckTake c [x]).2.2.2 then (ckTake c [x]).1 else [],(ckTake c [x]).2.1,if (ckTake c [x]).2.2.2 then 0 else 2,(⟨2,left,(ckTake c [x]).2.2.1,!(ckTake c [x]).2.2.2,false⟩:FrT))=_
    rw [hx.1,hx.2];rfl
   have hdl:d=(ckTake c [x]).1++(ckTake (ckTake c [x]).2.2.1 l).1:=by rw [c3,ha]
   have hb1:clByte asked (.body h ⟨2,left,c,false,false⟩ b) x=.body h ⟨2,left,(ckTake c [x]).2.2.1,false,false⟩ (b++(ckTake c [x]).1):=by
    show bodyB1 h _ b x=_
    unfold bodyB1
    rw [hd,ht1]
    simp only [Bool.false_eq_true,if_false,ne_eq,not_true_eq_false]
    rw [if_neg]
    rintro ⟨h5,h6⟩
    have:=hr h5
    rw [hdl,List.length_append] at this
    omega
   have i2:BodyInv h ⟨2,left,(ckTake c [x]).2.2.1,false,false⟩ (b++(ckTake c [x]).1):=by
    have:=inv_byte (asked:=asked) (s:=.body h ⟨2,left,c,false,false⟩ b) i x
    rw [hb1] at this;exact this
   have hrest:frTk ⟨2,left,(ckTake c [x]).2.2.1,false,false⟩ l=((ckTake (ckTake c [x]).2.2.1 l).1,l.length,0,fr'):=by
    show (if (ckTake (ckTake c [x]).2.2.1 l).2.2.2 then (ckTake (ckTake c [x]).2.2.1 l).1 else [],(ckTake (ckTake c [x]).2.2.1 l).2.1,if (ckTake (ckTake c [x]).2.2.1 l).2.2.2 then 0 else 2,(⟨2,left,(ckTake (ckTake c [x]).2.2.1 l).2.2.1,!(ckTake (ckTake c [x]).2.2.1 l).2.2.2,false⟩:FrT))=_
    rw [ha] at c1 c2 c4
    simp only at c1 c2 c4
    rw [c1]
    simp only [if_true,Bool.not_true,Prod.mk.injEq,true_and]
    refine ⟨by omega,c4.symm⟩
   show l.foldl (clByte asked) (clByte asked (.body h ⟨2,left,c,false,false⟩ b) x)=_
   rw [hb1]
   have:=ih (b:=b++(ckTake c [x]).1) (d:=(ckTake (ckTake c [x]).2.2.1 l).1) (fun h5=>by
    have:=hr h5
    rw [hdl,List.length_append] at this
    rw [List.length_append]
    omega) (ckTake c [x]).2.2.1 i2 hrest
   rw [this,hdl,List.append_assoc]
theorem fold_body (asked:List UInt8):∀(l:List UInt8) {h h':ClH} {fr fr':FrT} {b b':List UInt8},l.foldl (clByte asked) (.body h fr b)=.body h' fr' b'→h'=h∧∃x,b'=b++x
 | [],h,h',fr,fr',b,b',e=>by
   simp only [List.foldl_nil,ClS.body.injEq] at e
   exact ⟨e.1.symm,[],by simp [e.2.2]⟩
 | c::l,h,h',fr,fr',b,b',e=>by
   have e2:l.foldl (clByte asked) (bodyB1 h fr b c)=.body h' fr' b':=e
   unfold bodyB1 at e2
   split at e2
   ·rw [fold_bad1] at e2;cases e2
   ·split at e2
    ·rw [fold_bad1] at e2;cases e2
    ·split at e2
     ·rw [fold_bad1] at e2;cases e2
     ·obtain ⟨h1,x,h2⟩:=fold_body asked l e2
      exact ⟨h1,_,by rw [h2,List.append_assoc]⟩
theorem crlf_app2 {s:List UInt8} {i:Nat} (x:List UInt8) (h:crlf s=some i):crlf (s++x)=some i:=by
 induction x generalizing s with
 | nil=>simpa using h
 | cons c x ih=>
   have e:crlf (s++[c])=some i:=by rw [crlf_snoc,h]
   have:=ih e
   rwa [List.append_assoc,List.singleton_append] at this
theorem lnL_app {s t r:List UInt8} (x:List UInt8) (h:lnL s=some (t,r)):lnL (s++x)=some (t,r++x):=by
 obtain ⟨i,hc,ht,hr,hl,hti⟩:=lnL_some h
 rw [lnL_of (crlf_app2 x hc)]
 have:=crlf_lt hc
 rw [List.take_append_of_le_length (by omega),List.drop_append_of_le_length (by omega),ht,hr]
theorem dataL_app {y:Int×Int×Int} {s r:List UInt8} {p:PieceT} (x:List UInt8) (h:dataL y s=.inr (p,r)):dataL y (s++x)=.inr (p,r++x):=by
 unfold dataL at *
 split at h
 ·cases h
 ·rename_i hl
  simp only [Sum.inr.injEq,Prod.mk.injEq] at h
  rw [if_neg (by rw [List.length_append];omega),List.take_append_of_le_length (by omega),List.drop_append_of_le_length (by omega),h.1,h.2]
theorem pieceL_app {first:Bool} {tot:Int} {s r:List UInt8} {p:PieceT} (x:List UInt8) (h:pieceL first tot s=.inr (p,r)):pieceL first tot (s++x)=.inr (p,r++x):=by
 unfold pieceL at *
 cases h1:lnL s with
 | none=>rw [h1] at h;cases h
 | some a=>
   obtain ⟨t1,s1⟩:=a
   rw [h1] at h
   rw [lnL_app x h1]
   simp only at h ⊢
   by_cases k1:kindLn t1=false
   ·rw [if_pos k1] at h;cases h
   rw [if_neg k1] at h ⊢
   cases h2:lnL s1 with
   | none=>rw [h2] at h;cases h
   | some a=>
     obtain ⟨t2,s2⟩:=a
     rw [h2] at h
     rw [lnL_app x h2]
     simp only at h ⊢
     cases h3:rangeLn first tot t2 with
     | none=>rw [h3] at h;cases h
     | some y=>
       rw [h3] at h
       simp only at h ⊢
       cases h4:lnL s2 with
       | none=>rw [h4] at h;cases h
       | some a=>
         obtain ⟨t3,s3⟩:=a
         rw [h4] at h
         rw [lnL_app x h4]
         simp only at h ⊢
         by_cases k3:t3≠[]
         ·rw [if_pos k3] at h;cases h
         rw [if_neg k3] at h ⊢
         exact dataL_app x h
theorem aheadR_app {n:Nat} {s r:List UInt8} (x:List UInt8) (h:aheadR n s=.inr r):aheadR n (s++x)=.inr (r++x):=by
 unfold aheadR at *
 by_cases h0:n=0
 ·rw [if_pos h0] at h ⊢;injection h with h;rw [h]
 rw [if_neg h0] at h ⊢
 by_cases h1:s.length < 2
 ·rw [if_pos h1] at h;cases h
 rw [if_neg h1] at h
 rw [if_neg (by rw [List.length_append];omega),List.take_append_of_le_length (by omega)]
 by_cases h2:s.take 2=[13,10]
 ·rw [if_pos h2] at h ⊢
  injection h with h
  rw [List.drop_append_of_le_length (by omega),h]
 ·rw [if_neg h2] at h;cases h
theorem stepR_app {bnd:List UInt8} {out o:List PieceT} {s r:List UInt8} (x:List UInt8) (h:stepR bnd out s=.inr (o,r)):stepR bnd out (s++x)=.inr (o,r++x):=by
 unfold stepR at *
 cases h1:aheadR out.length s with
 | inl e=>rw [h1] at h;cases h
 | inr s1=>
   rw [h1] at h
   rw [aheadR_app x h1]
   simp only at h ⊢
   cases h2:lnL s1 with
   | none=>rw [h2] at h;cases h
   | some a=>
     obtain ⟨t,r1⟩:=a
     rw [h2] at h
     rw [lnL_app x h2]
     simp only at h ⊢
     by_cases k1:out≠[]∧t=[45,45]++bnd++[45,45]
     ·rw [if_pos k1] at h;split at h <;> cases h
     rw [if_neg k1] at h ⊢
     by_cases k2:t=[45,45]++bnd
     ·rw [if_pos k2] at h ⊢
      cases h3:pieceL out.isEmpty (totOf out) r1 with
      | inl e=>rw [h3] at h;cases h
      | inr a=>
        obtain ⟨p,r2⟩:=a
        rw [h3] at h
        rw [pieceL_app x h3]
        simp only [Sum.inr.injEq,Prod.mk.injEq] at h ⊢
        exact ⟨h.1,by rw [h.2]⟩
     ·rw [if_neg k2] at h;cases h
theorem stepR_last {bnd:List UInt8} {out o:List PieceT} {s:List UInt8} {x:List UInt8} (hx:x≠[]) (h:stepR bnd out s=.inl (.inr o)):stepR bnd out (s++x)=.inl (.inl 2):=by
 unfold stepR at *
 cases h1:aheadR out.length s with
 | inl e=>rw [h1] at h;cases h
 | inr s1=>
   rw [h1] at h
   rw [aheadR_app x h1]
   simp only at h ⊢
   cases h2:lnL s1 with
   | none=>rw [h2] at h;cases h
   | some a=>
     obtain ⟨t,r1⟩:=a
     rw [h2] at h
     rw [lnL_app x h2]
     simp only at h ⊢
     by_cases k1:out≠[]∧t=[45,45]++bnd++[45,45]
     ·rw [if_pos k1] at h ⊢
      rw [if_neg (by simp [hx])]
     rw [if_neg k1] at h
     by_cases k2:t=[45,45]++bnd
     ·rw [if_pos k2] at h;split at h <;> cases h
     ·rw [if_neg k2] at h;cases h
theorem readG_over {bnd:List UInt8} {x:List UInt8} (hx:x≠[]):∀(n:Nat) (out o:List PieceT) (s:List UInt8),s.length≤n→readG bnd out s=.inr o→readG bnd out (s++x)=.inl 2:=by
 intro n
 induction n with
 | zero=>
   intro out o s hs h
   cases hst:stepR bnd out s with
   | inl r=>rw [readG_end hst] at h;rw [readG_end (stepR_last hx (h▸hst))]
   | inr a=>obtain ⟨o2,r⟩:=a;have:=(stepR_less hst).1;omega
 | succ n ih=>
   intro out o s hs h
   cases hst:stepR bnd out s with
   | inl r=>rw [readG_end hst] at h;rw [readG_end (stepR_last hx (h▸hst))]
   | inr a=>
     obtain ⟨o2,r⟩:=a
     have:=(stepR_less hst).1
     rw [readG_step hst] at h
     rw [readG_step (stepR_app x hst)]
     exact ih o2 o r (by omega) h
theorem multiL_over {bnd s x:List UInt8} {o:List PieceT} (h:multiL bnd s=.inr o) (hx:x≠[]):multiL bnd (s++x)=.inl 2:=by
 cases hb:boundB bnd with
 | false=>rw [multiL_no hb]
 | true=>rw [multiL_eq hb] at h ⊢;exact readG_over hx _ [] o s (Nat.le_refl _) h
def Begins (a b:List ((Int×Int)×List UInt8)):Prop:=a.length≤b.length∧∀i (h1:i < a.length) (h2:i < b.length),a[i].1.1=b[i].1.1∧a[i].2.length≤b[i].2.length∧a[i].2=b[i].2.take a[i].2.length
theorem begins_nil (b:List ((Int×Int)×List UInt8)):Begins [] b:=⟨Nat.zero_le _,fun i h=>by simp at h⟩
theorem begins_refl (b:List ((Int×Int)×List UInt8)):Begins b b:=⟨Nat.le_refl _,fun i _ _=>⟨rfl,Nat.le_refl _,by simp⟩⟩
theorem short_law (asked:List UInt8) {s:List UInt8} {h:ClH} {fr:FrT} {b:List UInt8} (hs:nowL asked s=.body h fr b) (hk3:h.kind≠3) (he:endBody h fr b=0) {k:Nat} (hk:k < s.length) :
  (nowL asked (s.take k)).wrong=false∧(nowL asked (s.take k)).ends=13∧Begins (nowL asked (s.take k)).came (clBytes h b):=by
 have e:s=s.take k++s.drop k:=(List.take_append_drop k s).symm
 have hne:s.drop k≠[]:=by
  intro h0
  have:=congrArg List.length h0
  rw [List.length_drop] at this
  simp at this
  omega
 have hi:=inv_now asked (s.take k)
 have hf:(s.drop k).foldl (clByte asked) (nowL asked (s.take k))=.body h fr b:=by rw [←now_app,List.take_append_drop];exact hs
 generalize nowL asked (s.take k)=S at *
 cases S with
 | head raw=>exact ⟨rfl,rfl,begins_nil _⟩
 | bad0=>rw [fold_bad0] at hf;cases hf
 | bad1 _ _=>rw [fold_bad1] at hf;cases hf
 | body h' fr' b'=>
   obtain ⟨rfl,x,rfl⟩:=fold_body asked _ hf
   have hd:frDone fr'=false:=by
    cases hd:frDone fr' with
    | false=>rfl
    | true=>rw [fold_done asked hd hne] at hf;cases hf
   have i:BodyInv h fr' b':=hi
   have hk4:h.kind≠4:=fun h4=>by
    unfold frDone at hd
    rw [if_neg (by rw [i.kind];omega),if_neg (by rw [i.kind];omega),if_neg (by rw [i.kind];omega)] at hd
    cases hd
   have hst:frDone fr'.stop=false:=by
    unfold frDone FrT.stop at *
    simp only
    by_cases h1:fr'.kind=1
    ·rw [if_pos h1] at hd ⊢;exact hd
    rw [if_neg h1] at hd ⊢
    by_cases h2:fr'.kind=2
    ·rw [if_pos h2] at hd ⊢;exact hd
    ·exfalso
     have:=i.k1;have:=i.k4;have:=i.kind
     omega
   refine ⟨rfl,?_,?_⟩
   ·show endBody h fr' b'=13
    unfold endBody
    rw [if_pos hst]
   ·show Begins (clBytes h b') (clBytes h (b'++x))
    unfold clBytes
    by_cases h3:h.tells=3
    ·rw [if_pos h3,if_pos h3]
     by_cases hx:x=[]
     ·subst hx;rw [List.append_nil];exact begins_refl _
     ·cases hm:multiL h.bnd b' with
      | inl e=>exact begins_nil _
      | inr o=>
        exfalso
        unfold endBody at he
        by_cases hq:frDone fr.stop=false
        ·rw [if_pos hq] at he;cases he
        ·rw [if_neg hq,if_neg hk4,if_neg (by omega),if_pos h3,multiL_over hm hx] at he
         simp at he
    ·rw [if_neg h3,if_neg h3]
     by_cases h0:h.tells=0∨b'=[]
     ·rw [if_pos h0];exact begins_nil _
     ·have h0':¬(h.tells=0∨b'++x=[]):=by
       rintro (h1 | h1)
       ·exact h0 (.inl h1)
       ·exact h0 (.inr (List.append_eq_nil_iff.1 h1).1)
      rw [if_neg h0,if_neg h0']
      refine ⟨Nat.le_refl _,fun j h1 h2=>?_⟩
      obtain rfl:j=0:=by simp at h1;exact h1
      refine ⟨rfl,by simp,by simp⟩
theorem right_ends {n:List UInt8} {c d:UInt8} {m:List UInt8} (hn:token n=true) (hl:n.length≤200) (hc:blk c=false) (hd:blk d=false) (hv:(c::(m++[d])).all visC=true) (h2:(c::(m++[d])).length≤8192):right (n,c::(m++[d]))=true:=by
 rw [right_rest hn hl h2 (by rw [trim_no hc hd];exact beq_self_eq_true _)]
 exact hv
theorem dig_vis {c:UInt8} (h:digC c=true):visC c=true:=by
 unfold digC at h
 unfold visC
 simp only [Bool.and_eq_true,decide_eq_true_eq] at h
 have h1:=h.1;have h2:=h.2
 rw [decide_eq_true (show 32≤c.toNat by omega),decide_eq_true (show c.toNat≤126 by omega)];rfl
theorem itoa_all {x:Int} (h:0≤x):∀c∈Lib.itoa x,digC c=true:=by
 obtain ⟨m,rfl⟩:∃m:Nat,x=m:=⟨x.toNat,by omega⟩
 rw [itoa_nat]
 exact fun c hc=>List.all_eq_true.1 (dec_all m).1 c hc
theorem itoa_some {x:Int} (h:0≤x):Lib.itoa x≠[]:=by
 obtain ⟨m,rfl⟩:∃m:Nat,x=m:=⟨x.toNat,by omega⟩
 rw [itoa_nat,Lib.decDigits]
 split <;> simp
theorem content_right {f t n:Int} (h:contB f t n=true):right (crN,contentL f t n)=true:=by
 have hlen:=cont_len f t n
 obtain ⟨h0,h1,h2,h3,h4,h5⟩:=cont_parts h
 unfold contentL at hlen ⊢
 rw [if_pos h] at hlen ⊢
 unfold headC at hlen ⊢
 have key:∀X:List UInt8,X≠[]→(∀c∈X,c=42∨digC c=true)→([98,121,116,101,115,32]++Lib.itoa f++[45]++Lib.itoa (t-1)++[47]++X).length≤70→right (crN,[98,121,116,101,115,32]++Lib.itoa f++[45]++Lib.itoa (t-1)++[47]++X)=true:=by
  intro X hX hall hl
  rcases List.eq_nil_or_concat X with h | ⟨m,d,h⟩
  ·exact absurd h hX
  ·rw [List.concat_eq_append] at h
   subst h
   have e:[98,121,116,101,115,32]++Lib.itoa f++[45]++Lib.itoa (t-1)++[47]++(m++[d])=98::(([121,116,101,115,32]++Lib.itoa f++[45]++Lib.itoa (t-1)++[47]++m)++[d]):=by simp
   rw [e] at hl ⊢
   have hd:blk d=false:=by
    rcases hall d (by simp) with h | h
    ·subst h;decide
    ·exact (dig_ne h).2.2
   refine right_ends (by decide) (by decide) (by decide) hd ?_ (by omega)
   rw [List.all_eq_true]
   intro c hc
   simp only [List.mem_cons,List.mem_append,List.not_mem_nil,or_false] at hc
   have d1:=itoa_all h0
   have d2:=itoa_all (x:=t-1) (by omega)
   rcases hc with rfl | ((((((rfl | rfl | rfl | rfl | rfl) | hc) | rfl) | hc) | rfl) | hc) | rfl
   all_goals first | decide | skip
   ·exact dig_vis (d1 c hc)
   ·exact dig_vis (d2 c hc)
   ·rcases hall c (by simp [hc]) with h | h
    ·subst h;decide
    ·exact dig_vis h
   ·rcases hall c (by simp) with h | h
    ·subst h;decide
    ·exact dig_vis h
 by_cases hn:n= -1
 ·rw [if_pos hn] at hlen ⊢
  exact key [42] (by simp) (by simp) hlen
 ·rw [if_neg hn] at hlen ⊢
  exact key (Lib.itoa n) (itoa_some (by omega)) (fun c hc=>.inr (itoa_all (by omega) c hc)) hlen
theorem length_right {x:Int} (h0:0≤x) (h1:x≤9223372036854775807):right (lengthN,Lib.itoa x)=true:=by
 have hl:=itoa_len_int h0 h1
 have hd:=itoa_all h0
 rw [right_rest (by decide) (by decide) (by omega) (by rw [trim_all (fun c hc=>(dig_ne (hd c hc)).2.2)];exact beq_self_eq_true _)]
 exact List.all_eq_true.2 fun c hc=>dig_vis (hd c hc)
theorem now_whole (asked:List UInt8) {st sz:Int} {fs:List Fld} {ps:List PartT} {obj:List UInt8} (h:(wholeR st fs ps sz obj).2=0) (hl:(fillL obj ps).length≤100000) (hA:asked=getB) :
  ∃(k z:Nat) (fr:FrT),frameL st (headF st fs sz) asked=(k,(z:Int),0)∧frDone fr.stop=true∧fr.kind=k∧
   ∀H:ClH,heedR asked st (headF st fs sz)=.body H (FrT.new k z) []→(H.tells=2→((if bodB st then fillL obj ps else []).length:Int)≤H.til-H.fro)→nowL asked (wholeR st fs ps sz obj).1=.body H fr (if bodB st then fillL obj ps else []):=by
 subst hA
 have T:=told_of h
 obtain ⟨k,z,n,s,hR⟩:=read45_of h hl []
 have ht:=hR.tell
 have hfr:=hR.frame
 have htk:=hR.take
 rw [List.append_nil] at ht htk
 refine ⟨k,z,s,hfr,hR.stop,hR.kind,fun H hh hroom=>?_⟩
 have hk:=fun more=>back_eq ([],[],st,headF st fs sz) more T.head
 have hc:=fun k hk=>cut_eq ([],[],st,headF st fs sz) k T.head hk
 simp only [if_neg (told_st T)] at hk hc
 have hpos:=putH_pos T.head
 have heq:(wholeR st fs ps sz obj).1=(putH ([],[],st,headF st fs sz)).1++(if bodB st then gBody sz (fillL obj ps)++gEnd sz true else []):=by rw [T.eq]
 rw [heq] at ht htk ⊢
 generalize (putH ([],[],st,headF st fs sz)).1=Hd at *
 have hn:n=Hd.length:=by
  have:=hk (if bodB st then gBody sz (fillL obj ps)++gEnd sz true else [])
  rw [ht] at this
  simp only [Prod.mk.injEq,true_and,and_true] at this
  exact this
 subst hn
 rw [List.drop_left,List.length_append,Nat.add_sub_cancel_left] at htk
 have h0:=hk []
 rw [List.append_nil] at h0
 have h1:nowL getB Hd=.body H (FrT.new k z) []:=by
  rw [now_head getB (fun k hk=>by rw [hc k hk]) (by rw [h0]) (by intro e;rw [e] at hpos;simp at hpos),h0]
  exact hh
 have i1:=inv_now getB Hd
 rw [h1] at i1
 rw [now_app,h1]
 have:=fold_frTk getB _ i1 htk (by simpa using hroom)
 rw [List.nil_append] at this
 exact this
theorem fill_one (b:List UInt8):fillL b [([],0,(b.length:Int))]=b:=by
 unfold fillL objL
 simp
end Go.Proofs.YtflepnkpihfidaaGreatDoor
