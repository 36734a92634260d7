/- Parts. No conditions but those that each theorem names. -/
import Derived.Test.YtflepnkpihfidaaGreatDoorJLawA
import Derived.Test.YtflepnkpihfidaaGreatDoorHeadLaw
import Derived.Test.YtflepnkpihfidaaGreatDoorJConfL
import Derived.Test.YtflepnkpihfidaaGreatDoorRange2
set_option linter.unusedVariables false
set_option linter.unusedSimpArgs false
namespace Go.Proofs.YtflepnkpihfidaaGreatDoor
abbrev TagT:=List UInt8×Bool
def tagC (c:UInt8):Bool:=decide (33≤c.toNat)&&(decide (c.toNat≠34)&&decide (c.toNat≤126))
theorem tagC_yes {c:UInt8} (h:33≤c.toNat∧c.toNat≠34∧c.toNat≤126):tagC c=true:=by unfold tagC;simp;omega
theorem tagC_no {c:UInt8} (h:¬(33≤c.toNat∧c.toNat≠34∧c.toNat≤126)):tagC c=false:=by unfold tagC;simp;omega
theorem tagC_iff {c:UInt8}:tagC c=true↔(33≤c.toNat∧c.toNat≠34∧c.toNat≤126):=by unfold tagC;simp
def tagB (t:List UInt8):Bool:=(decide (1≤t.length)&&decide (t.length≤100))&&t.all tagC
theorem tagB_len {t:List UInt8} (h:¬(1≤t.length∧t.length≤100)):tagB t=false:=by
 unfold tagB
 by_cases h1:1≤t.length
 ·rw [decide_eq_false (show ¬t.length≤100 by omega)];simp
 ·rw [decide_eq_false h1];simp
theorem tagB_rest {t:List UInt8} (h1:1≤t.length) (h2:t.length≤100):tagB t=t.all tagC:=by
 unfold tagB;rw [decide_eq_true h1,decide_eq_true h2];simp
theorem tagB_iff {t:List UInt8}:tagB t=true↔(1≤t.length∧t.length≤100∧∀c∈t,tagC c=true):=by
 unfold tagB;simp [and_assoc]
def tagTxt (t:TagT):List UInt8:=if tagB t.1 then (if t.2 then [87,47] else [])++(34::(t.1++[34])) else []
def weakL:List UInt8→Bool
 | a::b::_=>a==87&&b==47
 | _=>false
def bodyT (s:List UInt8):List UInt8:=if weakL s then s.drop 2 else s
def quoB (s:List UInt8):Bool:=if h:2≤s.length then s[0]==34&&s[s.length-1]==34 else false
def innT (s:List UInt8):List UInt8:=(s.drop 1).take (s.length-2)
def tagQ (s:List UInt8):Option TagT:=if quoB (bodyT s)&&tagB (innT (bodyT s)) then some (innT (bodyT s),weakL s) else none
def tagP (s:List UInt8):Option TagT:=tagQ (trim s)
theorem trimL_idem (l:List UInt8):trimL (trimL l)=trimL l:=by
 induction l with
 | nil=>rfl
 | cons c t ih=>
   cases h:blk c with
   | true=>rw [trimL_yes h,ih]
   | false=>rw [trimL_no h,trimL_no h]
theorem trimR_idem (l:List UInt8):trimR (trimR l)=trimR l:=by
 show (trimL ((trimL l.reverse).reverse.reverse)).reverse=(trimL l.reverse).reverse
 rw [List.reverse_reverse,trimL_idem]
theorem trim_idem (l:List UInt8):trim (trim l)=trim l:=by
 have h1:trimR (trim l)=trim l:=by rw [←trim_comm,trimR_idem]
 show trimL (trimR (trim l))=trim l
 rw [h1]
 show trimL (trimL (trimR l))=trimL (trimR l)
 rw [trimL_idem]
theorem tagP_trim (l:List UInt8):tagP (trim l)=tagP l:=by unfold tagP;rw [trim_idem]
def addT (cur:List UInt8) (l:List TagT):Option (List TagT):=if trim cur=[] then some l else (tagP cur).map fun t=>l++[t]
def goL (q:Bool) (cur:List UInt8) (l:List TagT):List UInt8→Option (List TagT)
 | []=>addT cur l
 | c::r=>if (c==44&&!q)=true then (addT cur l).bind fun l'=>goL q [] l' r else goL (if c==34 then !q else q) (cur++[c]) l r
def listP (s:List UInt8):List TagT×Bool×Nat:=
 if trim s=[42] then ([],true,0) else match goL false [] [] s with
  | none=>([],false,2)
  | some l=>if l=[] then ([],false,2) else if 64 < l.length then ([],false,4) else (l,false,0)
def joinT:List TagT→List UInt8
 | []=>[]
 | [t]=>tagTxt t
 | t::u::r=>tagTxt t++(44::32::joinT (u::r))
theorem joinT_snoc:∀(l:List TagT) (t:TagT),joinT (l++[t])=joinT l++((if l=[] then [] else [44,32])++tagTxt t)
 | [],t=>rfl
 | [u],t=>by simp [joinT]
 | u::v::r,t=>by
   have:=joinT_snoc (v::r) t
   simp only [List.cons_append] at this ⊢
   rw [joinT,this,joinT]
   simp
def textsT (l:List TagT) (any:Bool):List UInt8:=if any then [42] else if l.all (fun t=>tagB t.1) then joinT l else []
theorem tagTxt_len (t:TagT):(tagTxt t).length≤104:=by
 unfold tagTxt
 split
 ·rename_i h
  have:=(tagB_iff.1 h).2.1
  split <;> simp <;> omega
 ·simp
theorem joinT_len:∀(l:List TagT),(joinT l).length≤l.length*106
 | []=>by simp [joinT]
 | [t]=>by have:=tagTxt_len t;simp only [joinT,List.length_singleton];omega
 | t::u::r=>by
   have:=joinT_len (u::r)
   have h2:=tagTxt_len t
   simp only [joinT,List.length_append,List.length_cons] at this ⊢
   omega
theorem goL_in:∀(x r cur:List UInt8) (l:List TagT),(∀c∈x,tagC c=true)→goL true cur l (x++r)=goL true (cur++x) l r
 | [],r,cur,l,_=>by simp
 | c::x,r,cur,l,h=>by
   have hc:=tagC_iff.1 (h c (List.mem_cons_self ..))
   have h34:(c==34)=false:=by
    rw [beq_eq_false_iff_ne];rintro rfl;exact hc.2.1 rfl
   rw [List.cons_append,goL,if_neg (by simp),h34]
   simp only [Bool.false_eq_true,if_false]
   rw [goL_in x r (cur++[c]) l (fun d hd=>h d (List.mem_cons_of_mem _ hd))]
   simp
theorem goL_tag (t:TagT) (ht:tagB t.1=true) (r cur:List UInt8) (l:List TagT):goL false cur l (tagTxt t++r)=goL false (cur++tagTxt t) l r:=by
 obtain ⟨x,wk⟩:=t
 have hq:∀cur,goL false cur l ((34::(x++[34]))++r)=goL false (cur++(34::(x++[34]))) l r:=by
  intro cur
  rw [List.cons_append,goL,if_neg (by decide),List.append_assoc]
  simp only [beq_self_eq_true,if_true,Bool.not_false]
  rw [goL_in x _ _ l (tagB_iff.1 ht).2.2,List.singleton_append,goL,if_neg (by simp)]
  simp
 unfold tagTxt
 rw [if_pos ht]
 cases wk with
 | false=>simpa using hq cur
 | true=>
   simp only [if_true,List.append_assoc]
   have e:([87,47]:List UInt8)++((34::(x++[34]))++r)=87::47::((34::(x++[34]))++r):=rfl
   rw [e,goL,if_neg (by decide),goL,if_neg (by decide),if_neg (by decide),if_neg (by decide),hq]
   simp
theorem trim_no {c d:UInt8} {m:List UInt8} (hc:blk c=false) (hd:blk d=false):trim (c::(m++[d]))=c::(m++[d]):=by
 show trimL (trimR (c::(m++[d])))=_
 rw [←List.cons_append,trimR_no hd,List.cons_append,trimL_no hc]
theorem trim_tag (t:TagT) (ht:tagB t.1=true):trim (tagTxt t)=tagTxt t:=by
 unfold tagTxt
 rw [if_pos ht]
 cases t.2 with
 | false=>simp only [Bool.false_eq_true,if_false,List.nil_append];exact trim_no (by decide) (by decide)
 | true=>
   simp only [if_true]
   have e:([87,47]:List UInt8)++(34::(t.1++[34]))=87::((47::34::t.1)++[34]):=by simp
   rw [e];exact trim_no (by decide) (by decide)
theorem trim_sp (l:List UInt8):trim (32::l)=trim l:=by
 rw [←trim_comm,←trim_comm,trimL_yes (by decide)]
theorem tagTxt_ne {t:TagT} (ht:tagB t.1=true):tagTxt t≠[]:=by unfold tagTxt;rw [if_pos ht];simp
theorem innT_in (x:List UInt8):innT (34::(x++[34]))=x:=by unfold innT;simp
theorem quoB_in (x:List UInt8):quoB (34::(x++[34]))=true:=by
 unfold quoB
 rw [dif_pos (by simp)]
 simp
theorem tagQ_back (t:TagT) (ht:tagB t.1=true):tagQ (tagTxt t)=some t:=by
 obtain ⟨x,wk⟩:=t
 unfold tagTxt
 rw [if_pos ht]
 cases wk with
 | false=>
   simp only [Bool.false_eq_true,if_false,List.nil_append]
   have hw:weakL (34::(x++[34]))=false:=by cases x <;> rfl
   unfold tagQ bodyT
   rw [hw]
   simp only [Bool.false_eq_true,if_false]
   rw [quoB_in,innT_in,ht];rfl
 | true=>
   simp only [if_true]
   have hw:weakL ([87,47]++(34::(x++[34])))=true:=rfl
   unfold tagQ bodyT
   rw [hw]
   simp only [if_true]
   have e:(([87,47]:List UInt8)++(34::(x++[34]))).drop 2=34::(x++[34]):=rfl
   rw [e,quoB_in,innT_in,ht];rfl
theorem tagP_back (t:TagT) (ht:tagB t.1=true):tagP (tagTxt t)=some t:=by unfold tagP;rw [trim_tag t ht,tagQ_back t ht]
theorem addT_tag (t:TagT) (ht:tagB t.1=true) (l:List TagT):addT (tagTxt t) l=some (l++[t]):=by
 unfold addT
 rw [trim_tag t ht,if_neg (tagTxt_ne ht),tagP_back t ht];rfl
theorem addT_sp (x:List UInt8) (l:List TagT):addT (32::x) l=addT x l:=by
 unfold addT tagP;rw [trim_sp]
theorem goL_join:∀(ts:List TagT) (sp:List UInt8) (l:List TagT),(sp=[]∨sp=[32])→ts≠[]→(∀t∈ts,tagB t.1=true)→goL false sp l (joinT ts)=some (l++ts)
 | [],_,_,_,h,_=>absurd rfl h
 | [t],sp,l,hs,_,ht=>by
   have h1:=ht t (List.mem_singleton.2 rfl)
   have:=goL_tag t h1 [] sp l
   rw [List.append_nil] at this
   rw [joinT,this,goL]
   rcases hs with rfl | rfl
   ·rw [List.nil_append,addT_tag t h1]
   ·rw [List.singleton_append,addT_sp,addT_tag t h1]
 | t::u::r,sp,l,hs,_,ht=>by
   have h1:=ht t (List.mem_cons_self ..)
   have ha:addT (sp++tagTxt t) l=some (l++[t]):=by
    rcases hs with rfl | rfl
    ·rw [List.nil_append,addT_tag t h1]
    ·rw [List.singleton_append,addT_sp,addT_tag t h1]
   rw [joinT,goL_tag t h1,goL,if_pos (by decide),ha]
   simp only [Option.bind_some]
   rw [goL,if_neg (by decide)]
   have ih:=goL_join (u::r) [32] (l++[t]) (.inr rfl) (by simp) (fun x hx=>ht x (List.mem_cons_of_mem _ hx))
   simp only [List.nil_append]
   rw [show (if ((32:UInt8)==34)=true then !false else false)=false from rfl,ih]
   simp
theorem joinT_star {ts:List TagT} (hn:ts≠[]) (h:∀t∈ts,tagB t.1=true):trim (joinT ts)≠[42]:=by
 intro he
 have hne:∀(x:List UInt8),(∃c m d,x=c::(m++[d])∧blk c=false∧blk d=false)→trim x≠[42]:=by
  rintro x ⟨c,m,d,rfl,hc,hd⟩ h
  rw [trim_no hc hd] at h
  simp at h
 refine hne (joinT ts) ?_ he
 clear he
 have form:∀t:TagT,tagB t.1=true→∃c m,tagTxt t=c::(m++[34])∧blk c=false:=by
  intro t ht
  unfold tagTxt
  rw [if_pos ht]
  cases t.2 with
  | false=>exact ⟨34,t.1,rfl,by decide⟩
  | true=>exact ⟨87,47::34::t.1,by simp,by decide⟩
 have:∀(ts:List TagT),ts≠[]→(∀t∈ts,tagB t.1=true)→∃c m,joinT ts=c::(m++[34])∧blk c=false:=by
  intro ts
  induction ts with
  | nil=>intro h;exact absurd rfl h
  | cons t r ih=>
    intro _ ht
    obtain ⟨c,m,e,hc⟩:=form t (ht t (List.mem_cons_self ..))
    cases r with
    | nil=>exact ⟨c,m,e,hc⟩
    | cons u r=>
      obtain ⟨c',m',e',_⟩:=ih (by simp) (fun x hx=>ht x (List.mem_cons_of_mem _ hx))
      refine ⟨c,m++[34]++(44::32::c'::m'),?_,hc⟩
      rw [joinT,e,e']
      simp
 obtain ⟨c,m,e,hc⟩:=this ts hn h
 exact ⟨c,m,34,e,hc,by decide⟩
theorem listP_back {ts:List TagT} (hn:ts≠[]) (h:∀t∈ts,tagB t.1=true) (hl:ts.length≤64):listP (joinT ts)=(ts,false,0):=by
 unfold listP
 rw [if_neg (joinT_star hn h),goL_join ts [] [] (.inl rfl) hn h]
 simp only [List.nil_append]
 rw [if_neg hn,if_neg (by omega)]
theorem listP_star:listP [42]=([],true,0):=by unfold listP;rw [if_pos (by decide)]
end Go.Proofs.YtflepnkpihfidaaGreatDoor
namespace Go.Proofs.YtflepnkpihfidaaGreatDoor
def leapN (y:Nat):Bool:=(y % 4==0&&y % 100 != 0)||y % 400==0
def longN (y m:Nat):Nat:=if m=4∨m=6∨m=9∨m=11 then 30 else if m=2 then (if leapN y then 29 else 28) else 31
def aheadN (y:Nat):Nat:=365*(y-1970)+((y-1) / 4-(y-1) / 100+(y-1) / 400)-477
theorem div_pred (y k:Nat) (hk:0 < k) (h:0 < y):y / k=(y-1) / k+(if y % k=0 then 1 else 0):=by
 obtain ⟨z,rfl⟩:∃z,y=z+1:=⟨y-1,by omega⟩
 rw [Nat.add_sub_cancel,Nat.succ_div]
 simp only [Nat.dvd_iff_mod_eq_zero]
theorem aheadN_eq (y:Nat):aheadN y=365*(y-1970)+((y-1) / 4-(y-1) / 100+(y-1) / 400)-477:=rfl
theorem ahead_100:aheadN 10000=2932897:=by rw [aheadN_eq]
theorem ahead_70:aheadN 1970=0:=by rw [aheadN_eq]
attribute [irreducible] aheadN
theorem aheadN_succ (y:Nat) (h:1970≤y):aheadN (y+1)=aheadN y+365+(if leapN y then 1 else 0):=by
 rw [aheadN_eq,aheadN_eq,Nat.add_sub_cancel]
 have a:=div_pred y 4 (by omega) (by omega)
 have b:=div_pred y 100 (by omega) (by omega)
 have c:=div_pred y 400 (by omega) (by omega)
 have g1:492≤(y-1) / 4:=by rw [Nat.le_div_iff_mul_le (by omega)];omega
 have g2:(y-1) / 100*25≤(y-1) / 4:=by rw [Nat.le_div_iff_mul_le (by omega)];omega
 have g3:4≤(y-1) / 400:=by rw [Nat.le_div_iff_mul_le (by omega)];omega
 have m1:y % 400=0→y % 100=0:=by omega
 have m2:y % 100=0→y % 4=0:=by omega
 rw [a,b,c]
 generalize (y-1) / 4=p at *
 generalize (y-1) / 100=q at *
 generalize (y-1) / 400=r at *
 have hl:leapN y=true↔(y % 4=0∧y % 100≠0)∨y % 400=0:=by unfold leapN;simp
 by_cases h5:y % 400=0
 ·have h1:=m1 h5
  have h4:=m2 h1
  rw [if_pos h4,if_pos h1,if_pos h5,if_pos (hl.2 (.inr h5))];omega
 ·by_cases h1:y % 100=0
  ·have h4:=m2 h1
   rw [if_pos h4,if_pos h1,if_neg h5,if_neg (fun e=>by have:=hl.1 e;omega)];omega
  ·by_cases h4:y % 4=0
   ·rw [if_pos h4,if_neg h1,if_neg h5,if_pos (hl.2 (.inl ⟨h4,h1⟩))];omega
   ·rw [if_neg h4,if_neg h1,if_neg h5,if_neg (fun e=>by have:=hl.1 e;omega)];omega
theorem aheadN_lo (y:Nat) (h:1970≤y):aheadN y+365≤aheadN (y+1):=by rw [aheadN_succ y h];omega
theorem aheadN_mono:∀(k y:Nat),1970≤y→aheadN y+365*k≤aheadN (y+k)
 | 0,y,_=>by simp
 | k+1,y,h=>by
   have:=aheadN_mono k y h
   have h2:=aheadN_lo (y+k) (by omega)
   have e:y+k+1=y+(k+1):=by omega
   rw [e] at h2
   rw [Nat.mul_succ,←Nat.add_assoc]
   exact Nat.le_trans (Nat.add_le_add_right this 365) h2
theorem aheadN_lt {a b:Nat} (ha:1970≤a) (h:a < b):aheadN (a+1)≤aheadN b:=by
 have:=aheadN_mono (b-(a+1)) (a+1) (by omega)
 rw [show a+1+(b-(a+1))=b by omega] at this;omega
theorem ahead_guess (n:Nat) (h:n≤2932896):aheadN (1970+n / 366)≤n:=by
 rw [aheadN_eq]
 generalize hq:n / 366=q
 have:366*q≤n:=by omega
 have:q≤8013:=by omega
 omega
def cumN (y:Nat):Nat→Nat
 | 0=>0
 | m+1=>if m=0 then 0 else cumN y m+longN y m
theorem cumN_1 (y:Nat):cumN y 1=0:=rfl
theorem cumN_succ (y m:Nat) (h:1≤m):cumN y (m+1)=cumN y m+longN y m:=by rw [cumN,if_neg (by omega)]
theorem longN_lo (y m:Nat):28≤longN y m:=by unfold longN;repeat (first | split | omega)
theorem longN_hi (y m:Nat):longN y m≤31:=by unfold longN;repeat (first | split | omega)
theorem cumN_13 (y:Nat):cumN y 13=365+(if leapN y then 1 else 0):=by
 cases h:leapN y <;> simp [cumN,longN,h]
theorem cumN_mono (y:Nat):∀(k m:Nat),1≤m→cumN y m≤cumN y (m+k)
 | 0,m,_=>Nat.le_refl _
 | k+1,m,h=>by
   have:=cumN_mono y k m h
   rw [←Nat.add_assoc,cumN_succ y (m+k) (by omega)];omega
structure DayOf (n y m d:Nat):Prop where
 y0:1970≤y
 m1:1≤m
 m12:m≤12
 d1:1≤d
 dl:d≤longN y m
 sum:aheadN y+cumN y m+d=n+1
theorem DayOf.yr {n y m d:Nat} (h:DayOf n y m d):aheadN y≤n∧n < aheadN (y+1):=by
 have h1:=h.sum;have h2:=h.dl;have h3:=h.d1
 have h4:=cumN_succ y m h.m1
 have h5:=cumN_mono y (13-(m+1)) (m+1) (by omega)
 rw [show m+1+(13-(m+1))=13 by have:=h.m12;omega,cumN_13] at h5
 rw [aheadN_succ y h.y0]
 omega
theorem DayOf.eq {n y m d y' m' d':Nat} (h:DayOf n y m d) (k:DayOf n y' m' d'):y=y'∧m=m'∧d=d':=by
 have a:=h.yr;have b:=k.yr
 have hy:y=y':=by
  rcases Nat.lt_trichotomy y y' with l | l | l
  ·have:=aheadN_lt h.y0 l;omega
  ·exact l
  ·have:=aheadN_lt k.y0 l;omega
 subst hy
 have s1:=h.sum;have s2:=k.sum
 have c1:=cumN_succ y m h.m1;have c2:=cumN_succ y m' k.m1
 have l1:=h.dl;have l2:=k.dl;have e1:=h.d1;have e2:=k.d1
 have hm:m=m':=by
  rcases Nat.lt_trichotomy m m' with l | l | l
  ·have:=cumN_mono y (m'-(m+1)) (m+1) (by omega)
   rw [show m+1+(m'-(m+1))=m' by omega] at this;omega
  ·exact l
  ·have:=cumN_mono y (m-(m'+1)) (m'+1) (by omega)
   rw [show m'+1+(m-(m'+1))=m by omega] at this;omega
 subst hm
 exact ⟨rfl,rfl,by omega⟩
def yearGo (n:Nat):Nat→Nat→Nat
 | 0,y=>y
 | f+1,y=>if aheadN (y+1)≤n then yearGo n f (y+1) else y
theorem yearGo_ok (n:Nat):∀(f y:Nat),1970≤y→aheadN y≤n→1970≤yearGo n f y∧aheadN (yearGo n f y)≤n∧(n < aheadN (yearGo n f y+1)∨yearGo n f y=y+f)
 | 0,y,h,k=>⟨h,k,.inr rfl⟩
 | f+1,y,h,k=>by
   rw [yearGo]
   split
   ·rename_i hc
    obtain ⟨h1,h2,h3⟩:=yearGo_ok n f (y+1) (by omega) hc
    exact ⟨h1,h2,h3.imp_right fun e=>by omega⟩
   ·exact ⟨h,k,.inl (by omega)⟩
def monGo (y r:Nat):Nat→Nat→Nat
 | 0,m=>m
 | f+1,m=>if cumN y (m+1)≤r then monGo y r f (m+1) else m
theorem monGo_ok (y r:Nat):∀(f m:Nat),1≤m→cumN y m≤r→1≤monGo y r f m∧monGo y r f m≤m+f∧cumN y (monGo y r f m)≤r∧(r < cumN y (monGo y r f m+1)∨monGo y r f m=m+f)
 | 0,m,h,k=>⟨h,Nat.le_refl _,k,.inr rfl⟩
 | f+1,m,h,k=>by
   rw [monGo]
   split
   ·rename_i hc
    obtain ⟨h1,h2,h3,h4⟩:=monGo_ok y r f (m+1) (by omega) hc
    exact ⟨h1,by omega,h3,h4.imp_right fun e=>by omega⟩
   ·exact ⟨h,by omega,k,.inl (by omega)⟩
def yrN (n:Nat):Nat:=yearGo n (n+1) 1970
def mnN (n:Nat):Nat:=monGo (yrN n) (n-aheadN (yrN n)) 11 1
def dyN (n:Nat):Nat:=n+1-aheadN (yrN n)-cumN (yrN n) (mnN n)
theorem day_is (n:Nat):DayOf n (yrN n) (mnN n) (dyN n):=by
 obtain ⟨h1,h2,h3⟩:=yearGo_ok n (n+1) 1970 (Nat.le_refl _) (by rw [ahead_70];omega)
 have h3:n < aheadN (yrN n+1):=by
  rcases h3 with h3 | h3
  ·exact h3
  ·have:=aheadN_mono (n+1) 1970 (Nat.le_refl _)
   rw [ahead_70,←h3] at this;omega
 obtain ⟨g1,g2,g3,g4⟩:=monGo_ok (yrN n) (n-aheadN (yrN n)) 11 1 (Nat.le_refl _) (by rw [cumN_1];omega)
 have e1:monGo (yrN n) (n-aheadN (yrN n)) 11 1=mnN n:=rfl
 have e2:yearGo n (n+1) 1970=yrN n:=rfl
 rw [e1] at g1 g2 g3 g4
 rw [e2] at h1 h2
 have g4:n-aheadN (yrN n) < cumN (yrN n) (mnN n+1):=by
  rcases g4 with g4 | g4
  ·exact g4
  ·rw [g4]
   show _ < cumN (yrN n) 13
   rw [cumN_13]
   rw [aheadN_succ _ h1] at h3;omega
 rw [cumN_succ _ _ g1] at g4
 unfold dyN
 exact ⟨h1,g1,by omega,by omega,by omega,by omega⟩
theorem day_year {n y m d:Nat} (h:DayOf n y m d) (hn:n≤2932896):y≤9999:=by
 rcases Nat.lt_or_ge 9999 y with l | l
 ·have:=aheadN_mono (y-10000) 10000 (by omega)
  rw [show 10000+(y-10000)=y by omega,ahead_100] at this
  have:=h.yr.1;omega
 ·exact l
def weekN:List UInt8:=[83,117,110,77,111,110,84,117,101,87,101,100,84,104,117,70,114,105,83,97,116]
def yearN:List UInt8:=[74,97,110,70,101,98,77,97,114,65,112,114,77,97,121,74,117,110,74,117,108,65,117,103,83,101,112,79,99,116,78,111,118,68,101,99]
def wkN (i:Nat):List UInt8:=(weekN.drop (3*i)).take 3
def moN (m:Nat):List UInt8:=(yearN.drop (3*m-3)).take 3
def dig1 (n:Nat):UInt8:=UInt8.ofNat (48+n % 10)
theorem dig1_val (n:Nat):(dig1 n).toNat=48+n % 10:=by unfold dig1;rw [UInt8.toNat_ofNat'];omega
def two (n:Nat):List UInt8:=[dig1 (n / 10),dig1 n]
def four (n:Nat):List UInt8:=[dig1 (n / 1000),dig1 (n / 100),dig1 (n / 10),dig1 n]
def dayT (w y m d s:Nat):List UInt8:=wkN w++[44,32]++two d++[32]++moN m++[32]++four y++[32]++two (s / 3600)++[58]++two (s / 60 % 60)++[58]++two (s % 60)++[32,71,77,84]
def dateT (t:Nat):List UInt8:=dayT ((t / 86400+4) % 7) (yrN (t / 86400)) (mnN (t / 86400)) (dyN (t / 86400)) (t % 86400)
theorem dateT_eq (t:Nat):dateT t=dayT ((t / 86400+4) % 7) (yrN (t / 86400)) (mnN (t / 86400)) (dyN (t / 86400)) (t % 86400):=rfl
attribute [irreducible] dateT yrN mnN dyN
theorem wk_form (i:Nat) (h:i < 7):∃a b c,wkN i=[a,b,c]:=by
 have:∀i:Fin 7,∃x,wkN i.1=x∧x.length=3:=fun i=>⟨_,rfl,by revert i;decide⟩
 obtain ⟨x,e,hl⟩:=this ⟨i,h⟩
 match x,hl with
 | [a,b,c],_=>exact ⟨a,b,c,e⟩
theorem mo_form (m:Nat) (h1:1≤m) (h2:m≤12):∃a b c,moN m=[a,b,c]:=by
 have:∀i:Fin 12,∃x,moN (i.1+1)=x∧x.length=3:=fun i=>⟨_,rfl,by revert i;decide⟩
 obtain ⟨x,e,hl⟩:=this ⟨m-1,by omega⟩
 rw [show m-1+1=m by omega] at e
 match x,hl with
 | [a,b,c],_=>exact ⟨a,b,c,e⟩
theorem day_parts {w y m d s:Nat} (hw:w < 7) (h1:1≤m) (h2:m≤12):(dayT w y m d s).length=29∧((dayT w y m d s).drop 12).take 4=four y∧((dayT w y m d s).drop 5).take 2=two d∧((dayT w y m d s).drop 8).take 3=moN m∧
  ((dayT w y m d s).drop 17).take 2=two (s / 3600)∧((dayT w y m d s).drop 20).take 2=two (s / 60 % 60)∧((dayT w y m d s).drop 23).take 2=two (s % 60):=by
 obtain ⟨a,b,c,e⟩:=wk_form w hw
 obtain ⟨a',b',c',e'⟩:=mo_form m h1 h2
 unfold dayT two four
 rw [e,e']
 generalize s / 3600=s1
 generalize s / 60 % 60=s2
 generalize s % 60=s3
 refine ⟨?_,?_,?_,?_,?_,?_,?_⟩ <;> rfl
theorem dateT_len (t:Nat):(dateT t).length=29:=by
 have h:=day_is (t / 86400)
 have:=(day_parts (w:=(t / 86400+4) % 7) (y:=yrN (t / 86400)) (d:=dyN (t / 86400)) (s:=t % 86400) (Nat.mod_lt _ (by omega)) h.m1 h.m12).1
 rw [dateT_eq]
 exact this
def numI (s:List UInt8):Int:=s.foldl (fun n c=>n*10+(c.toNat:Int)-48) 0
theorem numI_snoc (s:List UInt8) (c:UInt8):numI (s++[c])=numI s*10+(c.toNat:Int)-48:=by unfold numI;rw [List.foldl_append];rfl
theorem numI_two (n:Nat) (h:n < 100):numI (two n)=n:=by
 simp only [numI,two,List.foldl_cons,List.foldl_nil,dig1_val];omega
theorem numI_four (n:Nat) (h:n < 10000):numI (four n)=n:=by
 simp only [numI,four,List.foldl_cons,List.foldl_nil,dig1_val];omega
def monIx (x:List UInt8):Nat→Nat
 | 0=>0
 | k+1=>if x==moN (k+1) then k+1 else monIx x k
theorem monIx_le (x:List UInt8):∀k,monIx x k≤k
 | 0=>Nat.le_refl _
 | k+1=>by
   rw [monIx];split
   ·exact Nat.le_refl _
   ·have:=monIx_le x k;omega
theorem monIx_mo (m:Nat) (h1:1≤m) (h2:m≤12):monIx (moN m) 12=m:=by
 have:∀i:Fin 12,monIx (moN (i.1+1)) 12=i.1+1:=by decide
 have:=this ⟨m-1,by omega⟩
 simpa [show m-1+1=m by omega] using this
def tickN (y m d s:Int):Option Nat:=
 if 1970≤y∧y≤9999∧1≤m∧m≤12∧1≤d∧d≤longN y.toNat m.toNat∧0≤s∧s < 86400 then some ((aheadN y.toNat+cumN y.toNat m.toNat+d.toNat-1)*86400+s.toNat) else none
theorem tickN_day {y m d s:Int} {t:Nat} (h:tickN y m d s=some t):DayOf (t / 86400) y.toNat m.toNat d.toNat∧t % 86400=s.toNat∧t≤253402300799:=by
 unfold tickN at h
 split at h
 ·rename_i hc
  obtain ⟨h1,h2,h3,h4,h5,h6,h7,h8⟩:=hc
  injection h with h
  have hq:t / 86400=aheadN y.toNat+cumN y.toNat m.toNat+d.toNat-1:=by omega
  have hday:DayOf (t / 86400) y.toNat m.toNat d.toNat:=⟨by omega,by omega,by omega,by omega,by omega,by omega⟩
  refine ⟨hday,by omega,?_⟩
  have h9:=hday.yr.2
  have h10:=aheadN_mono (10000-(y.toNat+1)) (y.toNat+1) (by omega)
  rw [show y.toNat+1+(10000-(y.toNat+1))=10000 by omega,ahead_100] at h10
  omega
 ·cases h
theorem tickN_of {t y m d:Nat} (h:DayOf (t / 86400) y m d) (ht:t≤253402300799):tickN y m d ((t % 86400:Nat):Int)=some t:=by
 have hy:=day_year h (by omega)
 have h1:=h.y0;have h2:=h.m1;have h3:=h.m12;have h4:=h.d1;have h5:=h.dl;have h6:=h.sum
 unfold tickN
 rw [if_pos (by simp only [Int.toNat_natCast];omega)]
 simp only [Int.toNat_natCast]
 congr 1;omega
def readP (s:List UInt8) (num:List UInt8→Int):Option Nat:=if s.length=29 then
  (tickN (num ((s.drop 12).take 4)) (monIx ((s.drop 8).take 3) 12) (num ((s.drop 5).take 2)) (num ((s.drop 17).take 2)*3600+num ((s.drop 20).take 2)*60+num ((s.drop 23).take 2))).bind fun t=>if dateT t=s then some t else none else none
theorem readP_back {num:List UInt8→Int} (h2:∀n,n < 100→num (two n)=n) (h4:∀n,n < 10000→num (four n)=n) {t:Nat} (ht:t≤253402300799):readP (dateT t) num=some t:=by
 have h:=day_is (t / 86400)
 have e:dateT t=dayT ((t / 86400+4) % 7) (yrN (t / 86400)) (mnN (t / 86400)) (dyN (t / 86400)) (t % 86400):=dateT_eq t
 generalize yrN (t / 86400)=y at *
 generalize mnN (t / 86400)=m at *
 generalize dyN (t / 86400)=d at *
 have hy:=day_year h (by omega)
 have hl:=longN_hi y m
 have hd:=h.dl
 obtain ⟨p1,p2,p3,p4,p5,p6,p7⟩:=day_parts (w:=(t / 86400+4) % 7) (y:=y) (d:=d) (s:=t % 86400) (Nat.mod_lt _ (by omega)) h.m1 h.m12
 unfold readP
 rw [e,if_pos p1,p2,p3,p4,p5,p6,p7,h4 y (by omega),h2 d (by omega),h2 _ (by omega),h2 _ (by omega),h2 _ (by omega),monIx_mo m h.m1 h.m12]
 have hs:((t % 86400 / 3600:Nat):Int)*3600+((t % 86400 / 60 % 60:Nat):Int)*60+((t % 86400 % 60:Nat):Int)=((t % 86400:Nat):Int):=by omega
 rw [hs,tickN_of h ht,←e]
 simp
def dateP (s:List UInt8):Option Nat:=readP s numI
theorem dateP_back {t:Nat} (ht:t≤253402300799):dateP (dateT t)=some t:=readP_back numI_two numI_four ht
end Go.Proofs.YtflepnkpihfidaaGreatDoor
namespace Go.Proofs.YtflepnkpihfidaaGreatDoor
open Go.RowKit
abbrev SpecT:=Int×Int
def specB (s:SpecT):Bool:=(decide (s.1≤999999999999999999)&&decide (s.2≤999999999999999999))&&(if s.1= -1 then decide (0≤s.2) else decide (0≤s.1)&&(decide (s.2= -1)||decide (s.1≤s.2)))
theorem specB_iff {s:SpecT}:specB s=true↔s.1≤999999999999999999∧s.2≤999999999999999999∧((s.1= -1∧0≤s.2)∨(0≤s.1∧(s.2= -1∨s.1≤s.2))):=by
 unfold specB
 by_cases h:s.1= -1
 ·rw [if_pos h];simp [h,and_assoc]
 ·rw [if_neg h];simp [h,and_assoc]
def cutG (d:UInt8):List UInt8→Option (List UInt8×List UInt8)
 | []=>none
 | c::t=>if c==d then some ([],t) else (cutG d t).map fun p=>(c::p.1,p.2)
theorem cutG_lib (d:UInt8) (l:List UInt8):Lib.cut l [d]=match cutG d l with | none=>(l,[],false) | some p=>(p.1,p.2,true):=by
 have key:∀l:List UInt8,match cutG d l with | none=>Lib.index l [d]= -1 | some p=>Lib.index l [d]=(p.1.length:Int)∧l=p.1++d::p.2:=by
  intro l
  induction l with
  | nil=>rfl
  | cons c t ih=>
    unfold cutG Lib.index
    have e:([d]:List UInt8).isPrefixOf (c::t)=(c==d):=by
     simp only [List.isPrefixOf,Bool.and_true];rw [BEq.comm]
    rw [e]
    cases hc:(c==d) with
    | true=>simp only [beq_iff_eq] at hc;subst hc;simp
    | false=>
      cases h:cutG d t with
      | none=>rw [h] at ih;simp [ih]
      | some p=>
        rw [h] at ih
        obtain ⟨h1,h2⟩:=ih
        have:((p.1.length:Int)==-1)=false:=by rw [beq_eq_false_iff_ne];omega
        simp only [Option.map_some,Bool.false_eq_true,if_false,h1,this,List.length_cons,List.cons_append]
        exact ⟨by omega,by rw [←h2]⟩
 have:=key l
 unfold Lib.cut
 cases h:cutG d l with
 | none=>rw [h] at this;simp only at this;rw [this];rfl
 | some p=>
   rw [h] at this
   obtain ⟨h1,h2⟩:=this
   rw [h1]
   have h3:(0:Int)≤(p.1.length:Int):=by omega
   rw [if_pos h3]
   simp only [Int.toNat_natCast,List.length_singleton]
   conv=>lhs;rw [h2]
   simp
theorem cutG_app (d:UInt8):∀(a t:List UInt8),(∀c∈a,c≠d)→cutG d (a++d::t)=some (a,t)
 | [],t,_=>by simp [cutG]
 | c::a,t,h=>by
   have hc:(c==d)=false:=by rw [beq_eq_false_iff_ne];exact h c (List.mem_cons_self ..)
   rw [List.cons_append,cutG,hc,cutG_app d a t (fun x hx=>h x (List.mem_cons_of_mem _ hx))];rfl
theorem cutG_len {d:UInt8}:∀{l:List UInt8} {p:List UInt8×List UInt8},cutG d l=some p→p.1.length+p.2.length+1=l.length
 | [],p,h=>by cases h
 | c::t,p,h=>by
   rw [cutG] at h
   split at h
   ·cases h;simp
   ·cases hk:cutG d t with
    | none=>rw [hk] at h;cases h
    | some q=>rw [hk] at h;cases h;have:=cutG_len hk;simp only [List.length_cons];omega
def numM (s:List UInt8):Int:=match numberL s with | none=>-1 | some n=>(n:Int)
theorem numM_nil:numM []= -1:=rfl
def itemL (s:List UInt8):Option SpecT:=match cutG 45 s with
 | none=>none
 | some (a,b)=>if a=[]∧b=[] then none else if (a≠[]∧numberL a=none)∨(b≠[]∧numberL b=none) then none else if specB (numM a,numM b) then some (numM a,numM b) else none
def addS (x:List UInt8) (l:List SpecT):Option (List SpecT):=if trim x=[] then some l else (itemL (trim x)).map fun t=>l++[t]
def specsP (l:List SpecT):List (List UInt8)→Option (List SpecT)
 | []=>some l
 | p::ps=>(addS p l).bind fun l'=>specsP l' ps
def bytesEq:List UInt8:=[98,121,116,101,115,61]
def specP (s:List UInt8):List SpecT×Nat:=
 if s.length < 6∨low (s.take 6)≠bytesEq then ([],2) else match specsP [] (splitC 44 (s.drop 6)) with
  | none=>([],2)
  | some l=>if l=[] then ([],2) else if 64 < l.length then ([],4) else (l,0)
theorem specsP_snoc:∀(a:List (List UInt8)) (l:List SpecT) (x:List UInt8) (b:List (List UInt8)),specsP l (a++x::b)=(specsP l a).bind fun l'=>(addS x l').bind fun l2=>specsP l2 b
 | [],l,x,b=>rfl
 | y::a,l,x,b=>by
   rw [List.cons_append,specsP,specsP]
   cases addS y l with
   | none=>rfl
   | some l1=>simp only [Option.bind_some];exact specsP_snoc a l1 x b
def goS (cur:List UInt8) (l:List SpecT):List UInt8→Option (List SpecT)
 | []=>addS cur l
 | c::r=>if c==44 then (addS cur l).bind fun l'=>goS [] l' r else goS (cur++[c]) l r
theorem goS_split:∀(s cur:List UInt8) (l:List SpecT),goS cur l s=match splitC 44 s with | []=>none | x::xs=>specsP l ((cur++x)::xs)
 | [],cur,l=>by
   simp only [goS,splitC,List.append_nil,specsP]
   cases addS cur l <;> rfl
 | c::r,cur,l=>by
   rw [goS]
   by_cases hc:(c==44)=true
   ·rw [if_pos hc,splitC_hit 44 c r hc]
    simp only [List.append_nil,specsP]
    congr 1
    funext l'
    rw [goS_split r [] l']
    cases h:splitC 44 r with
    | nil=>exact absurd h (splitC_ne 44 r)
    | cons x xs=>rfl
   ·rw [if_neg hc,goS_split r (cur++[c]) l]
    cases h:splitC 44 r with
    | nil=>exact absurd h (splitC_ne 44 r)
    | cons x xs=>
      rw [splitC_miss 44 c r x xs hc h]
      simp
theorem goS_all (s:List UInt8):goS [] [] s=specsP [] (splitC 44 s):=by
 rw [goS_split]
 cases h:splitC 44 s with
 | nil=>exact absurd h (splitC_ne 44 s)
 | cons x xs=>rfl
def endTx (n:Int):List UInt8:=if 0≤n then Lib.itoa n else []
def oneS (s:SpecT):List UInt8:=endTx s.1++45::endTx s.2
def joinS:List SpecT→List UInt8
 | []=>[]
 | [t]=>oneS t
 | t::u::r=>oneS t++(44::joinS (u::r))
theorem joinS_snoc:∀(l:List SpecT) (t:SpecT),joinS (l++[t])=joinS l++((if l=[] then [] else [44])++oneS t)
 | [],t=>rfl
 | [u],t=>by simp [joinS]
 | u::v::r,t=>by
   have:=joinS_snoc (v::r) t
   simp only [List.cons_append] at this ⊢
   rw [joinS,this,joinS]
   simp
def specTx (l:List SpecT):List UInt8:=bytesEq++joinS l
def specTxt (l:List SpecT):List UInt8×Nat:=if l=[] then ([],1) else if l.all specB then (if 64 < l.length then ([],4) else (specTx l,0)) else ([],1)
theorem endTx_form (n:Int) (h:n≤999999999999999999) (h1:-1≤n):(∀c∈endTx n,digC c=true)∧(endTx n).length≤18∧(endTx n=[]↔n= -1)∧numM (endTx n)=n∧(n≠-1→numberL (endTx n)≠none):=by
 unfold endTx
 by_cases h0:0≤n
 ·rw [if_pos h0]
  obtain ⟨k,rfl⟩:∃k:Nat,n=k:=⟨n.toNat,by omega⟩
  rw [itoa_nat]
  have hk:k < 10 ^ 18:=by omega
  have hd:=dec_all k
  have hl:=dec_len k 18 (by omega) hk
  have hn:numberL (Lib.decDigits k)=some k:=by rw [number_dec,if_pos hk]
  refine ⟨fun c hc=>(List.all_eq_true.1 hd.1) c hc,hl.2,⟨fun e=>by rw [e] at hl;simp at hl,fun e=>by omega⟩,by unfold numM;rw [hn],fun _=>by rw [hn];simp⟩
 ·rw [if_neg h0]
  have:n= -1:=by omega
  subst this
  exact ⟨fun c hc=>by simp at hc,by simp,by simp,rfl,fun h=>absurd rfl h⟩
theorem dig_ne {c:UInt8} (h:digC c=true):c≠44∧c≠45∧blk c=false:=by
 unfold digC at h
 simp only [Bool.and_eq_true,decide_eq_true_eq] at h
 refine ⟨?_,?_,?_⟩
 ·rintro rfl;simp at h
 ·rintro rfl;simp at h
 ·cases hb:blk c with
  | false=>rfl
  | true=>have:=(blk_iff c).1 hb;omega
theorem specB_lo {s:SpecT} (h:specB s=true):(-1≤s.1∧s.1≤999999999999999999)∧-1≤s.2∧s.2≤999999999999999999:=by
 have:=specB_iff.1 h;omega
theorem itemL_back {s:SpecT} (h:specB s=true):itemL (oneS s)=some s:=by
 have hl:=specB_lo h
 obtain ⟨a1,a2,a3,a4,a5⟩:=endTx_form s.1 hl.1.2 hl.1.1
 obtain ⟨b1,b2,b3,b4,b5⟩:=endTx_form s.2 hl.2.2 hl.2.1
 unfold itemL oneS
 rw [cutG_app 45 _ _ (fun c hc=>(dig_ne (a1 c hc)).2.1)]
 simp only
 have hs:=specB_iff.1 h
 rw [if_neg (by rw [a3,b3];omega),if_neg (by
  rintro (⟨h1,h2⟩ | ⟨h1,h2⟩)
  ·exact a5 (fun e=>h1 (a3.2 e)) h2
  ·exact b5 (fun e=>h1 (b3.2 e)) h2),a4,b4,if_pos h]
theorem oneS_com {s:SpecT} (h:specB s=true):∀c∈oneS s,c≠44∧blk c=false:=by
 have hl:=specB_lo h
 obtain ⟨a1,_⟩:=endTx_form s.1 hl.1.2 hl.1.1
 obtain ⟨b1,_⟩:=endTx_form s.2 hl.2.2 hl.2.1
 intro c hc
 unfold oneS at hc
 rcases List.mem_append.1 hc with hc | hc
 ·exact ⟨(dig_ne (a1 c hc)).1,(dig_ne (a1 c hc)).2.2⟩
 ·rcases List.mem_cons.1 hc with rfl | hc
  ·exact ⟨by decide,by decide⟩
  ·exact ⟨(dig_ne (b1 c hc)).1,(dig_ne (b1 c hc)).2.2⟩
theorem trimL_all {l:List UInt8} (h:∀c∈l,blk c=false):trimL l=l:=by
 cases l with
 | nil=>rfl
 | cons c t=>exact trimL_no (h c (List.mem_cons_self ..))
theorem trim_all {l:List UInt8} (h:∀c∈l,blk c=false):trim l=l:=by
 have hr:trimR l=l:=by
  show (trimL l.reverse).reverse=l
  rw [trimL_all (fun c hc=>h c (List.mem_reverse.1 hc)),List.reverse_reverse]
 show trimL (trimR l)=l
 rw [hr,trimL_all h]
theorem addS_one {s:SpecT} (h:specB s=true) (l:List SpecT):addS (oneS s) l=some (l++[s]):=by
 unfold addS
 rw [trim_all (fun c hc=>(oneS_com h c hc).2),if_neg (by unfold oneS;simp),itemL_back h];rfl
theorem goS_in:∀(x r cur:List UInt8) (l:List SpecT),(∀c∈x,c≠44)→goS cur l (x++r)=goS (cur++x) l r
 | [],r,cur,l,_=>by simp
 | c::x,r,cur,l,h=>by
   have hc:¬(c==44)=true:=by simpa using h c (List.mem_cons_self ..)
   rw [List.cons_append,goS,if_neg hc,goS_in x r _ l (fun d hd=>h d (List.mem_cons_of_mem _ hd))]
   simp
theorem goS_join:∀(ts:List SpecT) (l:List SpecT),ts≠[]→(∀t∈ts,specB t=true)→goS [] l (joinS ts)=some (l++ts)
 | [],_,h,_=>absurd rfl h
 | [t],l,_,h=>by
   have h1:=h t (List.mem_singleton.2 rfl)
   have:=goS_in (oneS t) [] [] l (fun c hc=>(oneS_com h1 c hc).1)
   rw [List.append_nil] at this
   rw [joinS,this,goS,List.nil_append,addS_one h1]
 | t::u::r,l,_,h=>by
   have h1:=h t (List.mem_cons_self ..)
   rw [joinS,goS_in _ _ _ _ (fun c hc=>(oneS_com h1 c hc).1),goS,if_pos (by decide),List.nil_append,addS_one h1]
   simp only [Option.bind_some]
   rw [goS_join (u::r) _ (by simp) (fun x hx=>h x (List.mem_cons_of_mem _ hx))]
   simp
theorem specP_back {l:List SpecT} (hn:l≠[]) (h:∀t∈l,specB t=true) (hl:l.length≤64):specP (specTx l)=(l,0):=by
 unfold specP specTx
 have h1:(bytesEq++joinS l).take 6=bytesEq:=by rw [List.take_append_of_le_length (by decide)];rfl
 have h2:(bytesEq++joinS l).drop 6=joinS l:=by rw [List.drop_append_of_le_length (by decide)];rfl
 rw [h1,h2,if_neg,←goS_all,goS_join l [] hn h]
 ·simp only [List.nil_append]
  rw [if_neg hn,if_neg (by omega)]
 ·rintro (h | h)
  ·rw [List.length_append] at h;simp [bytesEq] at h;omega
  ·exact h (by decide)
theorem joinS_len:∀(l:List SpecT),(∀t∈l,specB t=true)→(joinS l).length≤l.length*38
 | [],_=>by simp [joinS]
 | [t],h=>by
   have hl:=specB_lo (h t (List.mem_singleton.2 rfl))
   have:=(endTx_form t.1 hl.1.2 hl.1.1).2.1
   have:=(endTx_form t.2 hl.2.2 hl.2.1).2.1
   simp only [joinS,oneS,List.length_append,List.length_cons,List.length_nil];omega
 | t::u::r,h=>by
   have hl:=specB_lo (h t (List.mem_cons_self ..))
   have:=(endTx_form t.1 hl.1.2 hl.1.1).2.1
   have:=(endTx_form t.2 hl.2.2 hl.2.1).2.1
   have ih:=joinS_len (u::r) (fun x hx=>h x (List.mem_cons_of_mem _ hx))
   simp only [joinS,oneS,List.length_append,List.length_cons] at ih ⊢;omega
end Go.Proofs.YtflepnkpihfidaaGreatDoor
namespace Go.Proofs.YtflepnkpihfidaaGreatDoor
structure CondT where
 mt:List TagT
 no:List TagT
 am:Bool
 an:Bool
 si:Int
 un:Int
 rg:TagT
def CondT.zero:CondT:=⟨[],[],false,false,0,0,([],false)⟩
def nMatch:List UInt8:=[73,102,45,77,97,116,99,104]
def nNone:List UInt8:=[73,102,45,78,111,110,101,45,77,97,116,99,104]
def nUnmod:List UInt8:=[73,102,45,85,110,109,111,100,105,102,105,101,100,45,83,105,110,99,101]
def nMod:List UInt8:=[73,102,45,77,111,100,105,102,105,101,100,45,83,105,110,99,101]
def nIfR:List UInt8:=[73,102,45,82,97,110,103,101]
def joinV:List (List UInt8)→List UInt8
 | []=>[]
 | [t]=>t
 | t::u::r=>t++(44::32::joinV (u::r))
theorem joinV_snoc:∀(l:List (List UInt8)) (t:List UInt8),joinV (l++[t])=joinV l++((if l=[] then [] else [44,32])++t)
 | [],t=>rfl
 | [u],t=>by simp [joinV]
 | u::v::r,t=>by
   have:=joinV_snoc (v::r) t
   simp only [List.cons_append] at this ⊢
   rw [joinV,this,joinV]
   simp
theorem joinV_len:∀(l:List (List UInt8)),(joinV l).length≤bulk1 l+2*l.length
 | []=>by simp [joinV]
 | [t]=>by simp [joinV,bulk1]
 | t::u::r=>by
   have:=joinV_len (u::r)
   simp only [joinV,bulk1,List.length_append,List.length_cons,List.map_cons,List.sum_cons] at this ⊢
   omega
def tagsV (vs:List (List UInt8)):List TagT×Bool×Nat:=if vs=[] then ([],false,0) else if (listP (joinV vs)).2.2=0∧32 < (listP (joinV vs)).1.length then ([],false,4) else listP (joinV vs)
def tickV:List (List UInt8)→Int
 | []=>-1
 | v::_=>match dateP v with | none=>-1 | some t=>(t:Int)
def rangV:List (List UInt8)→TagT
 | []=>([],false)
 | v::_=>match tagP v with | none=>([],true) | some t=>t
def condP (l:List Fld):CondT×Nat:=
 if (tagsV (ofN l nMatch)).2.2=2∨(tagsV (ofN l nNone)).2.2=2 then (CondT.zero,2)
 else if (tagsV (ofN l nMatch)).2.2≠0∨(tagsV (ofN l nNone)).2.2≠0 then (CondT.zero,4)
 else (⟨(tagsV (ofN l nMatch)).1,(tagsV (ofN l nNone)).1,(tagsV (ofN l nMatch)).2.1,(tagsV (ofN l nNone)).2.1,tickV (ofN l nMod),tickV (ofN l nUnmod),rangV (ofN l nIfR)⟩,0)
def listB (l:List TagT) (any:Bool):Bool:=(decide (l.length≤32)&&!(any&&!l.isEmpty))&&l.all (fun t=>tagB t.1)
def sinceB (t:Int):Bool:=decide (t= -1)||(decide (0≤t)&&decide (t≤253402300799))
def rangB (t:TagT):Bool:=t.1.isEmpty||tagB t.1
def condB (c:CondT):Bool:=listB c.mt c.am&&(listB c.no c.an&&(sinceB c.si&&(sinceB c.un&&rangB c.rg)))
def fldsT (name:List UInt8) (l:List TagT) (any:Bool):List Fld:=if any=true∨l≠[] then [(name,textsT l any)] else []
def fldsD (name:List UInt8) (t:Int):List Fld:=if 0≤t then [(name,dateT t.toNat)] else []
def fldsR (t:TagT):List Fld:=if t.1=[]∧t.2=false then [] else [(nIfR,tagTxt t)]
def condF (c:CondT):List Fld:=fldsT nMatch c.mt c.am++(fldsD nUnmod c.un++(fldsT nNone c.no c.an++(fldsD nMod c.si++fldsR c.rg)))
theorem ofN_app (a b:List Fld) (n:List UInt8):ofN (a++b) n=ofN a n++ofN b n:=by unfold ofN;simp
theorem ofN_one (m v n:List UInt8):ofN [(m,v)] n=if alike m n then [v] else []:=by
 unfold ofN;cases h:alike m n <;> simp [h]
theorem ofN_fldsT (m n:List UInt8) (l:List TagT) (any:Bool):ofN (fldsT m l any) n=if alike m n=true∧(any=true∨l≠[]) then [textsT l any] else []:=by
 unfold fldsT
 split
 ·rename_i h;rw [ofN_one];cases alike m n <;> simp [h]
 ·rename_i h;simp [ofN,h]
theorem ofN_fldsD (m n:List UInt8) (t:Int):ofN (fldsD m t) n=if alike m n=true∧0≤t then [dateT t.toNat] else []:=by
 unfold fldsD
 split
 ·rename_i h;rw [ofN_one];cases alike m n <;> simp [h]
 ·rename_i h;simp [ofN,h]
theorem ofN_fldsR (n:List UInt8) (t:TagT):ofN (fldsR t) n=if alike nIfR n=true∧¬(t.1=[]∧t.2=false) then [tagTxt t] else []:=by
 unfold fldsR
 split
 ·rename_i h;simp [ofN,h]
 ·rename_i h;rw [ofN_one];cases alike nIfR n <;> simp [h]
theorem condF_other (c:CondT) (n:List UInt8) (h1:alike nMatch n=false) (h2:alike nNone n=false) (h3:alike nUnmod n=false) (h4:alike nMod n=false) (h5:alike nIfR n=false):ofN (condF c) n=[]:=by
 unfold condF
 simp only [ofN_app,ofN_fldsT,ofN_fldsD,ofN_fldsR,h1,h2,h3,h4,h5]
 simp
theorem condF_match (c:CondT):ofN (condF c) nMatch=if c.am=true∨c.mt≠[] then [textsT c.mt c.am] else []:=by
 unfold condF
 simp only [ofN_app,ofN_fldsT,ofN_fldsD,ofN_fldsR,show alike nMatch nMatch=true by decide,show alike nNone nMatch=false by decide,show alike nUnmod nMatch=false by decide,show alike nMod nMatch=false by decide,show alike nIfR nMatch=false by decide]
 simp
theorem condF_none (c:CondT):ofN (condF c) nNone=if c.an=true∨c.no≠[] then [textsT c.no c.an] else []:=by
 unfold condF
 simp only [ofN_app,ofN_fldsT,ofN_fldsD,ofN_fldsR,show alike nMatch nNone=false by decide,show alike nNone nNone=true by decide,show alike nUnmod nNone=false by decide,show alike nMod nNone=false by decide,show alike nIfR nNone=false by decide]
 simp
theorem condF_unmod (c:CondT):ofN (condF c) nUnmod=if 0≤c.un then [dateT c.un.toNat] else []:=by
 unfold condF
 simp only [ofN_app,ofN_fldsT,ofN_fldsD,ofN_fldsR,show alike nMatch nUnmod=false by decide,show alike nNone nUnmod=false by decide,show alike nUnmod nUnmod=true by decide,show alike nMod nUnmod=false by decide,show alike nIfR nUnmod=false by decide]
 simp
theorem condF_mod (c:CondT):ofN (condF c) nMod=if 0≤c.si then [dateT c.si.toNat] else []:=by
 unfold condF
 simp only [ofN_app,ofN_fldsT,ofN_fldsD,ofN_fldsR,show alike nMatch nMod=false by decide,show alike nNone nMod=false by decide,show alike nUnmod nMod=false by decide,show alike nMod nMod=true by decide,show alike nIfR nMod=false by decide]
 simp
theorem condF_ifr (c:CondT):ofN (condF c) nIfR=if c.rg.1=[]∧c.rg.2=false then [] else [tagTxt c.rg]:=by
 unfold condF
 simp only [ofN_app,ofN_fldsT,ofN_fldsD,ofN_fldsR,show alike nMatch nIfR=false by decide,show alike nNone nIfR=false by decide,show alike nUnmod nIfR=false by decide,show alike nMod nIfR=false by decide,show alike nIfR nIfR=true by decide]
 by_cases h:c.rg.1=[]∧c.rg.2=false
 ·simp [h]
 ·simp [h]
theorem tagsV_back {l:List TagT} {any:Bool} (h:listB l any=true):tagsV (if any=true∨l≠[] then [textsT l any] else [])=(l,any,0):=by
 unfold listB at h
 simp only [Bool.and_eq_true,decide_eq_true_eq,Bool.not_eq_true',Bool.and_eq_false_iff,Bool.not_eq_false',List.all_eq_true,List.isEmpty_iff] at h
 obtain ⟨⟨h1,h2⟩,h3⟩:=h
 cases any with
 | true=>
   have hl:l=[]:=by
    rcases h2 with h2 | h2
    ·cases h2
    ·exact h2
   subst hl
   rw [if_pos (.inl rfl)]
   unfold tagsV textsT
   rw [if_neg (by simp)]
   simp only [if_true,joinV,listP_star]
   rfl
 | false=>
   by_cases hl:l=[]
   ·subst hl;simp [tagsV]
   ·rw [if_pos (.inr hl)]
    unfold tagsV textsT
    rw [if_neg (by simp)]
    have ha:l.all (fun t=>tagB t.1)=true:=List.all_eq_true.2 h3
    simp only [Bool.false_eq_true,if_false,ha,if_true,joinV,listP_back hl h3 (by omega)]
    rw [if_neg (by omega)]
theorem tickV_back {t:Int} (h:sinceB t=true):tickV (if 0≤t then [dateT t.toNat] else [])=t:=by
 unfold sinceB at h
 simp only [Bool.or_eq_true,Bool.and_eq_true,decide_eq_true_eq] at h
 by_cases h0:0≤t
 ·rw [if_pos h0]
  show (match dateP (dateT t.toNat) with | none=>(-1:Int) | some t=>(t:Int))=t
  rw [dateP_back (show t.toNat≤253402300799 by omega)]
  simp only;omega
 ·rw [if_neg h0]
  show (-1:Int)=t
  omega
theorem rangV_back {t:TagT} (h:rangB t=true):rangV (if t.1=[]∧t.2=false then [] else [tagTxt t])=t:=by
 obtain ⟨x,wk⟩:=t
 unfold rangB at h
 simp only [Bool.or_eq_true,List.isEmpty_iff] at h
 by_cases h0:x=[]
 ·subst h0
  cases wk with
  | false=>simp [rangV]
  | true=>
    rw [if_neg (by simp)]
    have:tagTxt ([],true)=[]:=by unfold tagTxt;rw [if_neg (by decide)]
    rw [this]
    have h2:tagP []=none:=by decide
    show (match tagP [] with | none=>(([],true):TagT) | some t=>t)=_
    rw [h2]
 ·rw [if_neg (by simp [h0])]
  have hb:tagB x=true:=by rcases h with h | h;exact absurd h h0;exact h
  show (match tagP (tagTxt (x,wk)) with | none=>(([],true):TagT) | some t=>t)=_
  rw [tagP_back (x,wk) hb]
theorem condP_of {l:List Fld} {c:CondT} (h:condB c=true) (h1:ofN l nMatch=ofN (condF c) nMatch) (h2:ofN l nNone=ofN (condF c) nNone) (h3:ofN l nUnmod=ofN (condF c) nUnmod) (h4:ofN l nMod=ofN (condF c) nMod) (h5:ofN l nIfR=ofN (condF c) nIfR):condP l=(c,0):=by
 unfold condB at h
 simp only [Bool.and_eq_true] at h
 obtain ⟨b1,b2,b3,b4,b5⟩:=h
 unfold condP
 rw [h1,h2,h3,h4,h5,condF_match,condF_none,condF_unmod,condF_mod,condF_ifr,tagsV_back b1,tagsV_back b2,tickV_back b3,tickV_back b4,rangV_back b5]
 rw [if_neg (by simp),if_neg (by simp)]
end Go.Proofs.YtflepnkpihfidaaGreatDoor
