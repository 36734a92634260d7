/- Several texts in one (their own heads say what each is). No conditions but those that each theorem names. -/
import Derived.Test.YtgfckbhkgggkeaaGreatDoorDig
import Derived.Lib.ParseIntB
import Derived.Lib.IndexMore
import Derived.Lib.Strings
import Derived.Test.YtgfckbhkgggkeaaGreatDoorJLawA
import Derived.Test.YtgfckbhkgggkeaaGreatDoorJWords
import Derived.Test.YtgfckbhkgggkeaaGreatDoorJField2
import Derived.Lib.ParseIntBTie
import Derived.Lib.AtoiErrMem
import Derived.Test.YtgfckbhkgggkeaaGreatDoorJBytes
import Derived.Laws.BitsAllLaws
import Derived.Test.YtgfckbhkgggkeaaGreatDoorJDate
import Derived.Deep.LoopGhost
set_option linter.unusedVariables false
set_option linter.unusedSimpArgs false
/- XMultiLaw1 -/
namespace Go.Proofs.YtgfckbhkgggkeaaGreatDoor
open Lib (hid)
def spanB (f t:Int):Bool:=decide (0≤f)&&(decide (f≤t)&&decide (t≤4611686018427387904))
def headC (f t:Int):List UInt8:=[98,121,116,101,115,32]++Lib.itoa f++[45]++Lib.itoa (t-1)++[47]
def contB (f t n:Int):Bool:=spanB f t&&decide (f≠t)&&decide (t≠4611686018427387904)&&decide (-1≤n)&&decide (n≤4611686018427387903)&&(decide (n= -1)||decide (t≤n))
def contentL (f t n:Int):List UInt8:=if contB f t n=true then headC f t++(if n= -1 then [42] else Lib.itoa n) else []
theorem cont_span {f t n:Int} (h:spanB f t=false):contentL f t n=[]:=by unfold contentL contB;rw [h];simp
theorem cont_same {f t n:Int} (h:f=t):contentL f t n=[]:=by unfold contentL contB;rw [decide_eq_false (show ¬f≠t by simpa using h)];simp
theorem cont_open {f t n:Int} (h:t=4611686018427387904):contentL f t n=[]:=by unfold contentL contB;rw [decide_eq_false (show ¬t≠4611686018427387904 by simpa using h)];simp
theorem cont_low {f t n:Int} (h:n < -1):contentL f t n=[]:=by unfold contentL contB;rw [decide_eq_false (show ¬-1≤n by omega)];simp
theorem cont_high {f t n:Int} (h:4611686018427387903 < n):contentL f t n=[]:=by unfold contentL contB;rw [decide_eq_false (show ¬n≤4611686018427387903 by omega)];simp
theorem cont_behind {f t n:Int} (h:n≠-1) (h2:n < t):contentL f t n=[]:=by unfold contentL contB;rw [decide_eq_false h,decide_eq_false (show ¬t≤n by omega)];simp
theorem cont_any {f t n:Int} (h1:spanB f t=true) (h2:¬f=t) (h3:¬t=4611686018427387904) (h4:¬n < -1) (h5:¬4611686018427387903 < n) (h6:n= -1∨t≤n):contentL f t n=headC f t++(if n= -1 then [42] else Lib.itoa n):=by
 have:contB f t n=true:=by
  unfold contB
  rw [h1,decide_eq_true h2,decide_eq_true h3,decide_eq_true (show -1≤n by omega),decide_eq_true (show n≤4611686018427387903 by omega)]
  rcases h6 with h | h
  ·rw [decide_eq_true h];rfl
  ·rw [decide_eq_true h];simp
 unfold contentL;rw [if_pos this]
theorem span_bounds {f t:Int} (h:spanB f t=true):0≤f∧f≤t∧t≤4611686018427387904:=by
 unfold spanB at h;simp only [Bool.and_eq_true,decide_eq_true_eq] at h;exact ⟨h.1,h.2.1,h.2.2⟩
theorem itoa_len_int {x:Int} (h0:0≤x) (h1:x≤9223372036854775807):(Lib.itoa x).length≤19:=by
 obtain ⟨m,rfl⟩:∃m:Nat,x=m:=⟨x.toNat,by omega⟩
 exact itoa_len (by omega)
theorem cont_len (f t n:Int):(contentL f t n).length≤70:=by
 unfold contentL
 split
 ·rename_i h
  unfold contB at h
  simp only [Bool.and_eq_true,Bool.or_eq_true,decide_eq_true_eq] at h
  obtain ⟨⟨⟨⟨⟨h1,h2⟩,h3⟩,h4⟩,h5⟩,h6⟩:=h
  have hb:=span_bounds h1
  have a:=itoa_len_int (x:=f) hb.1 (by omega)
  have b:=itoa_len_int (x:=t-1) (by omega) (by omega)
  unfold headC
  split
  ·simp;omega
  ·have c:=itoa_len_int (x:=n) (by omega) (by omega)
   simp;omega
 ·simp
end Go.Proofs.YtgfckbhkgggkeaaGreatDoor
/- XMultiLaw2 -/
namespace Go.Proofs.YtgfckbhkgggkeaaGreatDoor
open Lib (hid)
def digF (n:Nat) (c:UInt8):Nat:=n*10+(c.toNat-48)
def numGo:List UInt8→Nat→Nat→Nat×Nat
 | [],i,n=>(n,i)
 | c::r,i,n=>if i < 19∧digC c=true then (if 461168601842738790 < n then (0,0) else if 4611686018427387904≤digF n c then (0,0) else numGo r (i+1) (digF n c)) else (n,i)
def numRM (s:List UInt8):Nat×Nat:=numGo s 0 0
theorem foldF_ge (l:List UInt8) (n:Nat):n≤l.foldl digF n:=by
 induction l generalizing n with
 | nil=>exact Nat.le_refl _
 | cons c l ih=>have:=ih (digF n c);simp only [List.foldl_cons];unfold digF at *;omega
theorem numGo_app (l r:List UInt8) (hl:l.all digC=true) (hr:∀c,r.head?=some c→digC c=false):∀(i n:Nat),i+l.length≤19→l.foldl digF n < 4611686018427387904→numGo (l++r) i n=(l.foldl digF n,i+l.length):=by
 induction l with
 | nil=>
   intro i n _ _
   cases r with
   | nil=>rfl
   | cons c r=>
     have:=hr c rfl
     simp only [List.nil_append,numGo]
     rw [if_neg (by rintro ⟨_,h⟩;rw [this] at h;cases h)];rfl
 | cons c l ih=>
   intro i n hi hv
   rw [List.all_cons,Bool.and_eq_true] at hl
   simp only [List.foldl_cons] at hv ⊢
   have hg:=foldF_ge l (digF n c)
   have hn:n*10≤digF n c:=by unfold digF;omega
   simp only [List.length_cons] at hi
   rw [List.cons_append]
   unfold numGo
   rw [if_pos ⟨by omega,hl.1⟩,if_neg (by omega),if_neg (by omega),ih hl.2 (i+1) _ (by omega) hv]
   simp;omega
theorem numR_dec (m:Nat) (r:List UInt8) (hm:m < 4611686018427387904) (hr:∀c,r.head?=some c→digC c=false):numRM (Lib.decDigits m++r)=(m,(Lib.decDigits m).length):=by
 have h1:=dec_all m
 have h2:=dec_len19 (m:=m) (by omega)
 have h3:(Lib.decDigits m).foldl digF 0=m:=h1.2
 unfold numRM
 rw [numGo_app _ r h1.1 hr 0 0 (by omega) (by rw [h3];exact hm),h3,Nat.zero_add]
def totR (c:Nat×Nat):Int:=if c.2=0 then -1 else c.1
def rangeR (s:List UInt8):Option (Int×Int×Int):=
 if s.take 6≠[98,121,116,101,115,32] then none else
 if s.length≤6+(numRM (s.drop 6)).2 then none else
 if s.length≤6+(numRM (s.drop 6)).2+1+(numRM (s.drop (6+(numRM (s.drop 6)).2+1))).2 then none else
 if contentL (numRM (s.drop 6)).1 ((numRM (s.drop (6+(numRM (s.drop 6)).2+1))).1+1) (totR (numRM (s.drop (6+(numRM (s.drop 6)).2+1+(numRM (s.drop (6+(numRM (s.drop 6)).2+1))).2+1))))=s then some ((numRM (s.drop 6)).1,(numRM (s.drop (6+(numRM (s.drop 6)).2+1))).1+1,totR (numRM (s.drop (6+(numRM (s.drop 6)).2+1+(numRM (s.drop (6+(numRM (s.drop 6)).2+1))).2+1)))) else none
theorem rangeR_of {s:List UInt8} {a1 a2 b1 b2 c1 c2:Nat} (h0:s.take 6=[98,121,116,101,115,32]) (ha:numRM (s.drop 6)=(a1,a2)) (hl1:6+a2 < s.length) (hb:numRM (s.drop (6+a2+1))=(b1,b2)) (hl2:6+a2+1+b2 < s.length) (hc:numRM (s.drop (6+a2+1+b2+1))=(c1,c2)) :
  rangeR s=if contentL a1 (b1+1) (totR (c1,c2))=s then some ((a1:Int),(b1:Int)+1,totR (c1,c2)) else none:=by
 unfold rangeR
 rw [if_neg (by simpa using h0)]
 simp only [ha]
 rw [if_neg (by omega)]
 simp only [hb]
 rw [if_neg (by omega)]
 simp only [hc]
theorem dig_colon:digC 45=false∧digC 47=false∧digC 42=false:=by decide
theorem rangeR_some {s:List UInt8} {x:Int×Int×Int} (h:rangeR s=some x):contentL x.1 x.2.1 x.2.2=s∧s≠[]:=by
 unfold rangeR at h
 split at h
 ·cases h
 ·rename_i h0
  split at h
  ·cases h
  ·split at h
   ·cases h
   ·split at h
    ·rename_i hc
     injection h with h
     subst h
     refine ⟨hc,?_⟩
     rintro rfl
     simp at h0
    ·cases h
theorem cont_yes {f t n:Int} (h:contentL f t n≠[]):contB f t n=true:=by
 unfold contentL at h
 split at h
 ·assumption
 ·exact absurd rfl h
theorem cont_parts {f t n:Int} (h:contB f t n=true):0≤f∧f < t∧t < 4611686018427387904∧-1≤n∧n < 4611686018427387904∧(n= -1∨t≤n):=by
 unfold contB at h
 simp only [Bool.and_eq_true,Bool.or_eq_true,decide_eq_true_eq] at h
 obtain ⟨⟨⟨⟨⟨h1,h2⟩,h3⟩,h4⟩,h5⟩,h6⟩:=h
 have hb:=span_bounds h1
 omega
theorem rangeR_content {f t n:Int} (h:contB f t n=true):rangeR (contentL f t n)=some (f,t,n):=by
 obtain ⟨h0,h1,h2,h3,h4,h5⟩:=cont_parts h
 obtain ⟨a,rfl⟩:∃a:Nat,f=a:=⟨f.toNat,by omega⟩
 obtain ⟨b,hb⟩:∃b:Nat,t=(b:Int)+1:=⟨(t-1).toNat,by omega⟩
 subst hb
 have hX:∃X:List UInt8,(if n= -1 then [42] else Lib.itoa n)=X∧X≠[]∧numRM X=(if n= -1 then (0,0) else (n.toNat,(Lib.decDigits n.toNat).length)):=by
  refine ⟨_,rfl,?_,?_⟩
  ·split
   ·simp
   ·obtain ⟨m,rfl⟩:∃m:Nat,n=m:=⟨n.toNat,by omega⟩
    rw [itoa_nat];exact dec_ne m
  ·split
   ·rfl
   ·obtain ⟨m,rfl⟩:∃m:Nat,n=m:=⟨n.toNat,by omega⟩
    have:=numR_dec m [] (by omega) (by simp)
    rw [List.append_nil] at this
    rw [itoa_nat,this,Int.toNat_natCast]
 obtain ⟨X,hX,hXn,hXr⟩:=hX
 have hs:contentL (a:Int) ((b:Int)+1) n=[98,121,116,101,115,32]++(Lib.decDigits a++(45::(Lib.decDigits b++(47::X)))):=by
  unfold contentL headC
  rw [if_pos h,hX,itoa_nat,show (b:Int)+1-1=(b:Int) from by omega,itoa_nat]
  simp
 have hXl:0 < X.length:=List.length_pos_iff.2 hXn
 have e1:numRM ((contentL (a:Int) ((b:Int)+1) n).drop 6)=(a,(Lib.decDigits a).length):=by
  rw [hs]
  have:=numR_dec a (45::(Lib.decDigits b++(47::X))) (by omega) (by intro c hc;cases hc;exact dig_colon.1)
  exact this
 have d1:(contentL (a:Int) ((b:Int)+1) n).drop (6+(Lib.decDigits a).length+1)=Lib.decDigits b++(47::X):=by
  rw [hs,show [98,121,116,101,115,32]++(Lib.decDigits a++(45::(Lib.decDigits b++(47::X))))=([98,121,116,101,115,32]++Lib.decDigits a++[45])++(Lib.decDigits b++(47::X)) from by simp]
  rw [List.drop_append_of_le_length (by simp;omega),List.drop_eq_nil_of_le (by simp;omega),List.nil_append]
 have d2:(contentL (a:Int) ((b:Int)+1) n).drop (6+(Lib.decDigits a).length+1+(Lib.decDigits b).length+1)=X:=by
  rw [hs,show [98,121,116,101,115,32]++(Lib.decDigits a++(45::(Lib.decDigits b++(47::X))))=([98,121,116,101,115,32]++Lib.decDigits a++[45]++Lib.decDigits b++[47])++X from by simp]
  rw [List.drop_append_of_le_length (by simp;omega),List.drop_eq_nil_of_le (by simp;omega),List.nil_append]
 have e2:numRM ((contentL (a:Int) ((b:Int)+1) n).drop (6+(Lib.decDigits a).length+1))=(b,(Lib.decDigits b).length):=by
  rw [d1]
  exact numR_dec b (47::X) (by omega) (by intro c hc;cases hc;exact dig_colon.2.1)
 have hlen:(contentL (a:Int) ((b:Int)+1) n).length=6+(Lib.decDigits a).length+1+(Lib.decDigits b).length+1+X.length:=by
  rw [hs];simp;omega
 have e3:∃c1 c2,numRM X=(c1,c2)∧totR (c1,c2)=n:=by
  by_cases hn:n= -1
  ·rw [if_pos hn] at hXr
   exact ⟨0,0,hXr,by unfold totR;rw [if_pos rfl];exact hn.symm⟩
  ·rw [if_neg hn] at hXr
   refine ⟨_,_,hXr,?_⟩
   have:0 < (Lib.decDigits n.toNat).length:=List.length_pos_iff.2 (dec_ne _)
   unfold totR
   rw [if_neg (show ¬(Lib.decDigits n.toNat).length=0 by omega)];show (n.toNat:Int)=n;omega
 obtain ⟨c1,c2,e3,e4⟩:=e3
 rw [rangeR_of (c1:=c1) (c2:=c2) (by rw [hs];rfl) e1 (by omega) e2 (by omega) (by rw [d2];exact e3),e4,if_pos rfl]
end Go.Proofs.YtgfckbhkgggkeaaGreatDoor
/- XMultiLaw3 -/
namespace Go.Proofs.YtgfckbhkgggkeaaGreatDoor
open Lib (hid)
theorem index1 (a b:List UInt8) (c:UInt8) (h:∀x∈a,x≠c):Lib.index (a++c::b) [c]=a.length:=by
 induction a with
 | nil=>
   show Lib.index (c::b) [c]=_
   unfold Lib.index
   rw [if_pos (by simp [List.isPrefixOf])];rfl
 | cons x a ih=>
   have hx:=h x (by simp)
   have ih':=ih (fun y hy=>h y (by simp [hy]))
   rw [List.cons_append]
   unfold Lib.index
   rw [if_neg (by simp [List.isPrefixOf];exact fun e=>hx e.symm),ih',if_neg (by simp)]
   simp
theorem cut1 (a b:List UInt8) (c:UInt8) (h:∀x∈a,x≠c):Lib.cut (a++c::b) [c]=(a,b,true):=by
 unfold Lib.cut
 rw [index1 a b c h,if_pos (by omega)]
 simp
theorem parseU_fold (M:Nat) (hM:M < 18446744073709551616) (l:List UInt8) (hl:l.all digC=true):∀acc,l.foldl digF acc≤M→Lib.parseUintM M acc l=.ok (l.foldl digF acc):=by
 induction l with
 | nil=>intro acc _;rfl
 | cons c l ih=>
   intro acc hv
   rw [List.all_cons,Bool.and_eq_true] at hl
   have hd:48≤c.toNat∧c.toNat≤57:=by
    have:=hl.1;unfold digC at this;simp at this;omega
   simp only [List.foldl_cons] at hv ⊢
   have hg:=foldF_ge l (digF acc c)
   have hn:digF acc c=acc*10+(c.toNat-48):=rfl
   unfold Lib.parseUintM
   rw [if_pos hd,if_neg (by omega),if_neg (by omega),←hn,ih hl.2 _ hv]
theorem parse_dec (m:Nat) (h:m≤9223372036854775807):Lib.parseIntB 64 (Lib.decDigits m)=.ok (m:Int):=by
 have h1:=dec_all m
 have h2:(Lib.decDigits m).foldl digF 0=m:=h1.2
 have hne:=dec_ne m
 cases hd:Lib.decDigits m with
 | nil=>exact absurd hd hne
 | cons c r=>
   rw [hd] at h1 h2
   have hc:48≤c.toNat∧c.toNat≤57:=by
    have:=h1.1;rw [List.all_cons,Bool.and_eq_true] at this
    have:=this.1;unfold digC at this;simp at this;omega
   have hu:Lib.parseUintB 64 (c::r)=.ok m:=by
    unfold Lib.parseUintB
    rw [if_neg (by simp),parseU_fold _ (by decide) _ h1.1 0 (by rw [h2];omega),h2]
   unfold Lib.parseIntB
   simp only
   rw [if_neg (by omega),hu]
   simp only
   rw [if_neg (by rintro ⟨_,h⟩;simp at h;omega),if_neg (by rintro ⟨h,_⟩;omega),if_neg (by omega)]
theorem parse_itoa {x:Int} (h0:0≤x) (h:x≤9223372036854775807):Lib.parseIntB 64 (Lib.itoa x)=.ok x:=by
 obtain ⟨m,rfl⟩:∃m:Nat,x=m:=⟨x.toNat,by omega⟩
 rw [itoa_nat];exact parse_dec m (by omega)
def okInt:Lib.NumEnd Int→Option Int
 | .ok v=>some v
 | _=>none
def partsR (s:List UInt8):List UInt8×List UInt8×List UInt8:=
 ((Lib.cut (Lib.cut (Lib.trimPrefix s [98,121,116,101,115,32]) [47]).1 [45]).1,(Lib.cut (Lib.cut (Lib.trimPrefix s [98,121,116,101,115,32]) [47]).1 [45]).2.1,(Lib.cut (Lib.trimPrefix s [98,121,116,101,115,32]) [47]).2.1)
def totP (x:List UInt8):Option Int:=if x=[42] then some (-1) else okInt (Lib.parseIntB 64 x)
def progR (s:List UInt8):Option (Int×Int×Int):=
 match okInt (Lib.parseIntB 64 (partsR s).1) with
 | none=>none
 | some f=>match okInt (Lib.parseIntB 64 (partsR s).2.1) with
   | none=>none
   | some t=>if 4611686018427387903≤t then none else match totP (partsR s).2.2 with
     | none=>none
     | some n=>if contentL f (t+1) n=[] then none else if contentL f (t+1) n=s then some (f,t+1,n) else none
theorem progR_some {s:List UInt8} {x:Int×Int×Int} (h:progR s=some x):contentL x.1 x.2.1 x.2.2=s∧s≠[]:=by
 unfold progR at h
 split at h
 ·cases h
 ·split at h
  ·cases h
  ·split at h
   ·cases h
   ·split at h
    ·cases h
    ·split at h
     ·cases h
     ·rename_i hne
      split at h
      ·rename_i he
       injection h with h
       subst h
       exact ⟨he,by rw [←he];exact hne⟩
      ·cases h
theorem itoa_ne (x:Int) (h0:0≤x):∀c∈Lib.itoa x,c≠45∧c≠47∧c≠42:=by
 obtain ⟨m,rfl⟩:∃m:Nat,x=m:=⟨x.toNat,by omega⟩
 rw [itoa_nat]
 intro c hc
 have:=List.all_eq_true.1 (dec_all m).1 c hc
 refine ⟨?_,?_,?_⟩ <;> (rintro rfl;exact absurd this (by decide))
theorem progR_content {f t n:Int} (h:contB f t n=true):progR (contentL f t n)=some (f,t,n):=by
 obtain ⟨h0,h1,h2,h3,h4,h5⟩:=cont_parts h
 have hs:contentL f t n=[98,121,116,101,115,32]++((Lib.itoa f++(45::Lib.itoa (t-1)))++(47::(if n= -1 then [42] else Lib.itoa n))):=by
  unfold contentL headC;rw [if_pos h];simp
 have hne:contentL f t n≠[]:=by rw [hs];simp
 have hp:Lib.trimPrefix (contentL f t n) [98,121,116,101,115,32]=(Lib.itoa f++(45::Lib.itoa (t-1)))++(47::(if n= -1 then [42] else Lib.itoa n)):=by
  rw [hs];unfold Lib.trimPrefix Lib.hasPrefix
  rw [if_pos (by simp [List.isPrefixOf])];rfl
 have c1:=cut1 (Lib.itoa f++(45::Lib.itoa (t-1))) (if n= -1 then [42] else Lib.itoa n) 47 (by
  intro x hx
  rcases List.mem_append.1 hx with hx | hx
  ·exact (itoa_ne f h0 x hx).2.1
  ·rcases List.mem_cons.1 hx with rfl | hx
   ·decide
   ·exact (itoa_ne (t-1) (by omega) x hx).2.1)
 have c2:=cut1 (Lib.itoa f) (Lib.itoa (t-1)) 45 (fun x hx=>(itoa_ne f h0 x hx).1)
 have hpr:partsR (contentL f t n)=(Lib.itoa f,Lib.itoa (t-1),if n= -1 then [42] else Lib.itoa n):=by
  unfold partsR;rw [hp,c1];simp only;rw [c2]
 have ht:totP (if n= -1 then [42] else Lib.itoa n)=some n:=by
  unfold totP
  by_cases hn:n= -1
  ·rw [if_pos hn,if_pos rfl,hn]
  ·rw [if_neg hn,if_neg,parse_itoa (by omega) (by omega)]
   ·rfl
   ·intro e
    have:=itoa_ne n (by omega) 42 (by rw [e];simp)
    exact this.2.2 rfl
 unfold progR
 rw [hpr]
 simp only
 rw [parse_itoa h0 (by omega),parse_itoa (x:=t-1) (by omega) (by omega)]
 simp only [okInt]
 rw [if_neg (by omega),ht]
 simp only
 rw [show t-1+1=t from by omega,if_neg hne,if_pos rfl]
theorem progR_eq (s:List UInt8):progR s=rangeR s:=by
 cases hp:progR s with
 | some x=>
   obtain ⟨h1,h2⟩:=progR_some hp
   have hc:=cont_yes (f:=x.1) (t:=x.2.1) (n:=x.2.2) (by rw [h1];exact h2)
   have:=rangeR_content hc
   rw [h1] at this
   exact this.symm
 | none=>
   cases hr:rangeR s with
   | none=>rfl
   | some x=>
     obtain ⟨h1,h2⟩:=rangeR_some hr
     have hc:=cont_yes (f:=x.1) (t:=x.2.1) (n:=x.2.2) (by rw [h1];exact h2)
     have:=progR_content hc
     rw [h1,hp] at this
     cases this
end Go.Proofs.YtgfckbhkgggkeaaGreatDoor
/- XMultiLaw4 -/
namespace Go.Proofs.YtgfckbhkgggkeaaGreatDoor
open Lib (hid)
def boundB (s:List UInt8):Bool:=s.all letterC&&(decide (1≤s.length)&&decide (s.length≤70))
def kindB (s:List UInt8):Bool:=decide (1≤s.length)&&(decide (s.length≤100)&&right ([97],s))
def typeN:List UInt8:=[67,111,110,116,101,110,116,45,84,121,112,101,58,32]
def rangeN:List UInt8:=[67,111,110,116,101,110,116,45,82,97,110,103,101,58,32]
def lnL (s:List UInt8):Option (List UInt8×List UInt8):=(crlf s).map fun i=>(s.take i,s.drop (i+2))
def stripL (p s:List UInt8):Option (List UInt8):=if p.isPrefixOf s then some (s.drop p.length) else none
abbrev PieceT:=(Int×Int×Int)×List UInt8
def kindLn (t:List UInt8):Bool:=match stripL typeN t with
 | none=>false
 | some k=>kindB k
def rangeLn (first:Bool) (tot:Int) (t:List UInt8):Option (Int×Int×Int):=match stripL rangeN t with
 | none=>none
 | some v=>match rangeR v with
   | none=>none
   | some x=>if first||(x.2.2==tot) then some x else none
def dataL (x:Int×Int×Int) (s:List UInt8):Nat ⊕ (PieceT×List UInt8):=
 if s.length < (x.2.1-x.1).toNat then .inl 13 else .inr ((x,s.take (x.2.1-x.1).toNat),s.drop (x.2.1-x.1).toNat)
def pieceL (first:Bool) (tot:Int) (s:List UInt8):Nat ⊕ (PieceT×List UInt8):=match lnL s with
 | none=>.inl 13
 | some (t1,s1)=>if kindLn t1=false then .inl 2 else match lnL s1 with
   | none=>.inl 13
   | some (t2,s2)=>match rangeLn first tot t2 with
     | none=>.inl 2
     | some x=>match lnL s2 with
       | none=>.inl 13
       | some (t3,s3)=>if t3≠[] then .inl 2 else dataL x s3
def aheadR (n:Nat) (s:List UInt8):Nat ⊕ List UInt8:=if n=0 then .inr s else if s.length < 2 then .inl 13 else if s.take 2=[13,10] then .inr (s.drop 2) else .inl 2
def totOf (out:List PieceT):Int:=match out with
 | []=>0
 | p::_=>p.1.2.2
def stepR (bnd:List UInt8) (out:List PieceT) (s:List UInt8):(Nat ⊕ List PieceT) ⊕ (List PieceT×List UInt8):=match aheadR out.length s with
 | .inl e=>.inl (.inl e)
 | .inr s=>match lnL s with
   | none=>.inl (.inl 13)
   | some (t,r)=>if out≠[]∧t=[45,45]++bnd++[45,45] then (if r=[] then .inl (.inr out) else .inl (.inl 2))
     else if t=[45,45]++bnd then (match pieceL out.isEmpty (totOf out) r with
      | .inl e=>.inl (.inl e)
      | .inr (p,r)=>.inr (out++[p],r))
     else .inl (.inl 2)
def readF (bnd:List UInt8):Nat→List PieceT→List UInt8→Nat ⊕ List PieceT
 | 0,_,_=>.inl 99
 | n+1,out,s=>match stepR bnd out s with
   | .inl r=>r
   | .inr (out,s)=>readF bnd n out s
def multiL (bnd s:List UInt8):Nat ⊕ List PieceT:=if boundB bnd then readF bnd (s.length+1) [] s else .inl 2
theorem lnL_some {s t r:List UInt8} (h:lnL s=some (t,r)):∃i,crlf s=some i∧t=s.take i∧r=s.drop (i+2)∧r.length+2≤s.length∧t.length=i:=by
 unfold lnL at h
 cases hc:crlf s with
 | none=>rw [hc] at h;cases h
 | some i=>
   rw [hc] at h
   simp only [Option.map_some,Option.some.injEq,Prod.mk.injEq] at h
   have:=crlf_lt hc
   exact ⟨i,rfl,h.1.symm,h.2.symm,by rw [←h.2,List.length_drop];omega,by rw [←h.1,List.length_take];omega⟩
theorem lnL_none {s:List UInt8} (h:crlf s=none):lnL s=none:=by unfold lnL;rw [h];rfl
theorem lnL_of {s:List UInt8} {i:Nat} (h:crlf s=some i):lnL s=some (s.take i,s.drop (i+2)):=by unfold lnL;rw [h];rfl
theorem dataL_less {x:Int×Int×Int} {s r:List UInt8} {p:PieceT} (h:dataL x s=.inr (p,r)):r.length≤s.length:=by
 unfold dataL at h
 split at h
 ·cases h
 ·simp only [Sum.inr.injEq,Prod.mk.injEq] at h
  rw [←h.2,List.length_drop];omega
theorem pieceL_less {first:Bool} {tot:Int} {s r:List UInt8} {p:PieceT} (h:pieceL first tot s=.inr (p,r)):r.length≤s.length:=by
 unfold pieceL at h
 split at h
 ·cases h
 ·rename_i t1 s1 h1
  obtain ⟨_,_,_,_,l1,_⟩:=lnL_some h1
  split at h
  ·cases h
  ·split at h
   ·cases h
   ·rename_i t2 s2 h2
    obtain ⟨_,_,_,_,l2,_⟩:=lnL_some h2
    split at h
    ·cases h
    ·split at h
     ·cases h
     ·rename_i t3 s3 h3
      obtain ⟨_,_,_,_,l3,_⟩:=lnL_some h3
      split at h
      ·cases h
      ·have:=dataL_less h;omega
theorem aheadR_less {n:Nat} {s r:List UInt8} (h:aheadR n s=.inr r):r.length≤s.length:=by
 unfold aheadR at h
 split at h
 ·cases h;exact Nat.le_refl _
 ·split at h
  ·cases h
  ·split at h
   ·cases h;rw [List.length_drop];omega
   ·cases h
theorem stepR_less {bnd:List UInt8} {out out':List PieceT} {s r:List UInt8} (h:stepR bnd out s=.inr (out',r)):r.length < s.length∧out'.length=out.length+1:=by
 unfold stepR at h
 split at h
 ·cases h
 ·rename_i s1 ha
  have l0:=aheadR_less ha
  split at h
  ·cases h
  ·rename_i t1 r1 h1
   obtain ⟨_,_,_,_,l1,_⟩:=lnL_some h1
   split at h
   ·split at h <;> cases h
   ·split at h
    ·split at h
     ·cases h
     ·rename_i p r2 hp
      have:=pieceL_less hp
      simp only [Sum.inr.injEq,Prod.mk.injEq] at h
      obtain ⟨rfl,rfl⟩:=h
      exact ⟨by omega,by simp⟩
    ·cases h
theorem readF_fuel (bnd:List UInt8):∀(n m:Nat) (out:List PieceT) (s:List UInt8),s.length < n→s.length < m→readF bnd n out s=readF bnd m out s
 | 0,_,_,_,h,_=>by omega
 | _,0,_,_,_,h=>by omega
 | n+1,m+1,out,s,hn,hm=>by
   unfold readF
   cases hs:stepR bnd out s with
   | inl r=>rfl
   | inr x=>
     obtain ⟨o,r⟩:=x
     have:=(stepR_less hs).1
     exact readF_fuel bnd n m o r (by omega) (by omega)
def readG (bnd:List UInt8) (out:List PieceT) (s:List UInt8):Nat ⊕ List PieceT:=readF bnd (s.length+1) out s
theorem readG_end {bnd:List UInt8} {out:List PieceT} {s:List UInt8} {r:Nat ⊕ List PieceT} (h:stepR bnd out s=.inl r):readG bnd out s=r:=by
 unfold readG readF;rw [h]
theorem readG_step {bnd:List UInt8} {out o:List PieceT} {s r:List UInt8} (h:stepR bnd out s=.inr (o,r)):readG bnd out s=readG bnd o r:=by
 have:=(stepR_less h).1
 unfold readG
 conv=>lhs;unfold readF
 rw [h]
 exact readF_fuel bnd _ _ o r (by omega) (by omega)
theorem multiL_eq {bnd s:List UInt8} (h:boundB bnd=true):multiL bnd s=readG bnd [] s:=by unfold multiL readG;rw [if_pos h]
theorem multiL_no {bnd s:List UInt8} (h:boundB bnd=false):multiL bnd s=.inl 2:=by unfold multiL;rw [h];rfl
section
variable (tot : Int) (kind bnd : List UInt8)
end
theorem ne_dash (b:List UInt8):[45,45]++b≠[45,45]++b++[45,45]:=fun h=>by
 have:=congrArg List.length h;simp at this
end Go.Proofs.YtgfckbhkgggkeaaGreatDoor
/- XMulti1 -/
namespace Go.Proofs.YtgfckbhkgggkeaaGreatDoor
open Lib (hid)
open Go.RowKit
set_option maxHeartbeats 2000000 in
theorem refDigits11_any (m:Nat):∀(w:World),m≤9223372036854775807→Calls Tryz.prog 107 #[.int .i64 m] w fun e w'=>e=.returned (str (Lib.decDigits m))∧Gr w w':=by
 induction m using Nat.strongRecOn with
 | _ m ih=>
   intro w hm
   by_cases h:m < 10
   ·have k1:decide ((m:Int) < 10)=true:=decide_eq_true (by omega)
    have HD:=hid (dec_small h)
    have HS:=hid (dig_slice m h)
    go_enter Tryz.func107,Tryz.ntmps107
    go_wp2_with fail
    go_ret
    refine ⟨?_,Gr.refl _⟩
    rw [HD.out,←HS.out];rfl
   ·have k1:decide ((m:Int) < 10)=false:=decide_eq_false (by omega)
    have HI:=hid (fun (w:World)=>show Calls Tryz.prog 107 #[.int .i64 ((m:Int) / 10)] w fun e w'=>e=.returned (str (Lib.decDigits (m / 10)))∧Gr w w' from by
     rw [show (m:Int) / 10=((m / 10:Nat):Int) from by omega]
     exact ih (m / 10) (by omega) w (by omega))
    have HD:=hid (dec_great h)
    have HS:=hid (dig_slice (m % 10) (by omega))
    have hl:(Lib.decDigits (m / 10)).length≤19:=dec_len19 (by omega)
    clear ih h
    go_enter Tryz.func107,Tryz.ntmps107
    go_upto_region 3 with fail
    refine wp_region_gw (by kernel_rfl) (by kernel_rfl) ?_
    repeat (first | go_big_quiet_step ((go_at_call 107;exact gw_call (HI.out _))) | quiet_step ((go_at_call 107;exact gw_call (HI.out _))))
    refine wpQuiet_nil ?_;intro wq hwq;obtain ⟨iq,rfl⟩:=hwq
    go_wp2_with fail
    go_ret
    refine ⟨?_,gw_gr _ _⟩
    rw [HD.out,←HS.out];rfl
theorem refDigits11_int (x:Int) (w:World) (h0:0≤x) (h1:x≤9223372036854775807):Calls Tryz.prog 107 #[.int .i64 x] w fun e w'=>e=.returned (str (Lib.itoa x))∧Gr w w':=by
 obtain ⟨m,rfl⟩:∃m:Nat,x=m:=⟨x.toNat,by omega⟩
 rw [itoa_nat]
 exact refDigits11_any m w (by omega)
set_option maxHeartbeats 2000000 in
theorem spanRight_any (f t:Int) (w:World):Calls Tryz.prog 155 #[.agg #[.int .i64 f,.int .i64 t]] w fun e w'=>e=.returned (.bool (spanB f t))∧Gr w w':=by
 have HS:=hid (show spanB f t=(decide (0≤f)&&(decide (f≤t)&&decide (t≤4611686018427387904))) from rfl)
 by_cases h1:0≤f
 ·have k1:decide (0≤f)=true:=decide_eq_true h1
  by_cases h2:f≤t
  ·have k2:decide (f≤t)=true:=decide_eq_true h2
   go_enter Tryz.func155,Tryz.ntmps155
   go_wp2_with fail
   go_ret
   exact ⟨by rw [HS.out,k1,k2];rfl,Gr.al (Gr.refl w) _⟩
  ·have k2:decide (f≤t)=false:=decide_eq_false h2
   go_enter Tryz.func155,Tryz.ntmps155
   go_wp2_with fail
   go_ret
   exact ⟨by rw [HS.out,k1,k2];rfl,Gr.al (Gr.refl w) _⟩
 ·have k1:decide (0≤f)=false:=decide_eq_false h1
  go_enter Tryz.func155,Tryz.ntmps155
  go_wp2_with fail
  go_ret
  exact ⟨by rw [HS.out,k1];rfl,Gr.al (Gr.refl w) _⟩
set_option maxHeartbeats 1000000 in
theorem refEnd01_any (w:World):Calls Tryz.prog 134 #[] w fun e w'=>e=.returned (.int .i64 4611686018427387904)∧w'=w:=by
 go_enter Tryz.func134,Tryz.ntmps134
 go_wp2_with fail
 go_ret
 exact ⟨rfl,rfl⟩
theorem refEnd01_gr (w:World):Calls Tryz.prog 134 #[] w fun e w'=>e=.returned (.int .i64 4611686018427387904)∧Gr w w':=(refEnd01_any w).mono fun _ _ ⟨h1,h2⟩=>⟨h1,by subst h2;exact Gr.refl _⟩
set_option maxHeartbeats 2000000 in
theorem refSpanRight_any (f t:Int) (w:World):Calls Tryz.prog 106 #[.agg #[.int .i64 f,.int .i64 t]] w fun e w'=>e=.returned (.bool (spanB f t))∧Gr w w':=by
 have HS:=hid (show spanB f t=(decide (0≤f)&&(decide (f≤t)&&decide (t≤4611686018427387904))) from rfl)
 have hb:=Bk.new w 41 #[.int .i64 f,.int .i64 t] (0,0)
 have hG1:=Gr.al (Gr.refl w) (Obj.cells #[.int .i64 f,.int .i64 t] 41)
 by_cases h1:0≤f
 ·have k1:decide (0≤f)=true:=decide_eq_true h1
  by_cases h2:f≤t
  ·have k2:decide (f≤t)=true:=decide_eq_true h2
   go_enter Tryz.func106,Tryz.ntmps106
   go_upto_region 1 with fail
   generalize w.alloc (Obj.cells #[.int .i64 f,.int .i64 t] 41)=w1 at *
   generalize w.heap.size=g at *
   have q0:∀i,(gw w1 i).cell? ⟨g,0,none⟩=some (.int .i64 f):=fun i=>(hb.gr (gw_gr w1 i)).cell 0
   have q1:∀i,(gw w1 i).cell? ⟨g,1,none⟩=some (.int .i64 t):=fun i=>(hb.gr (gw_gr w1 i)).cell 1
   have HG1:=hid hG1
   clear hb hG1
   refine wp_region_gw (by kernel_rfl) (by kernel_rfl) ?_
   repeat (first | go_big_quiet_step ((go_at_call 134;exact gw_call (refEnd01_gr _))) | quiet_step ((go_at_call 134;exact gw_call (refEnd01_gr _))))
   refine wpQuiet_nil ?_;intro wq hwq;obtain ⟨iq,rfl⟩:=hwq
   go_wp2_with fail
   go_ret
   exact ⟨by rw [HS.out,k1,k2];rfl,Gr.tr HG1.out (gw_gr _ _)⟩
  ·have k2:decide (f≤t)=false:=decide_eq_false h2
   go_enter Tryz.func106,Tryz.ntmps106
   go_upto_region 1 with fail
   generalize w.alloc (Obj.cells #[.int .i64 f,.int .i64 t] 41)=w1 at *
   generalize w.heap.size=g at *
   have q0:∀i,(gw w1 i).cell? ⟨g,0,none⟩=some (.int .i64 f):=fun i=>(hb.gr (gw_gr w1 i)).cell 0
   have q1:∀i,(gw w1 i).cell? ⟨g,1,none⟩=some (.int .i64 t):=fun i=>(hb.gr (gw_gr w1 i)).cell 1
   have HG1:=hid hG1
   clear hb hG1
   refine wp_region_gw (by kernel_rfl) (by kernel_rfl) ?_
   repeat (first | go_big_quiet_step ((go_at_call 134;exact gw_call (refEnd01_gr _))) | quiet_step ((go_at_call 134;exact gw_call (refEnd01_gr _))))
   refine wpQuiet_nil ?_;intro wq hwq;obtain ⟨iq,rfl⟩:=hwq
   go_wp2_with fail
   go_ret
   exact ⟨by rw [HS.out,k1,k2];rfl,Gr.tr HG1.out (gw_gr _ _)⟩
 ·have k1:decide (0≤f)=false:=decide_eq_false h1
  go_enter Tryz.func106,Tryz.ntmps106
  go_upto_region 1 with fail
  generalize w.alloc (Obj.cells #[.int .i64 f,.int .i64 t] 41)=w1 at *
  generalize w.heap.size=g at *
  have q0:∀i,(gw w1 i).cell? ⟨g,0,none⟩=some (.int .i64 f):=fun i=>(hb.gr (gw_gr w1 i)).cell 0
  have q1:∀i,(gw w1 i).cell? ⟨g,1,none⟩=some (.int .i64 t):=fun i=>(hb.gr (gw_gr w1 i)).cell 1
  have HG1:=hid hG1
  clear hb hG1
  refine wp_region_gw (by kernel_rfl) (by kernel_rfl) ?_
  repeat (first | go_big_quiet_step ((go_at_call 134;exact gw_call (refEnd01_gr _))) | quiet_step ((go_at_call 134;exact gw_call (refEnd01_gr _))))
  refine wpQuiet_nil ?_;intro wq hwq;obtain ⟨iq,rfl⟩:=hwq
  go_wp2_with fail
  go_ret
  exact ⟨by rw [HS.out,k1];rfl,Gr.tr HG1.out (gw_gr _ _)⟩
set_option maxHeartbeats 4000000 in
set_option maxRecDepth 100000 in
theorem content_any (f t n:Int) (w:World) (hp:Pw w) (hf:-9223372036854775808≤f∧f≤9223372036854775807) (ht:-9223372036854775808≤t∧t≤9223372036854775807) (hn:-9223372036854775808≤n∧n≤9223372036854775807):Calls Tryz.prog 130 #[.agg #[.int .i64 f,.int .i64 t],.int .i64 n] w fun e w'=>e=.returned (str (contentL f t n))∧Gr w w':=by
 have hb:=Bk.new w 41 #[.int .i64 f,.int .i64 t] (0,0)
 have hG1:=Gr.al (Gr.refl w) (Obj.cells #[.int .i64 f,.int .i64 t] 41)
 have HP1:=hid (hp.gr hG1)
 clear hp
 have HS:=hid (fun (w:World)=>spanRight_any f t w)
 go_enter Tryz.func130,Tryz.ntmps130
 go_upto_region 1 with fail
 generalize w.alloc (Obj.cells #[.int .i64 f,.int .i64 t] 41)=w1 at *
 generalize w.heap.size=g at *
 have a0:w1.cell? ⟨g,0,none⟩=some (.int .i64 f):=hb.cell 0
 have a1:w1.cell? ⟨g,1,none⟩=some (.int .i64 t):=hb.cell 1
 have HB:=hid hb
 clear hb
 cases c1:spanB f t with
 | false=>
   rw [c1] at HS
   have HE:=hid (cont_span (n:=n) c1)
   go_wp2_with (go_at_call 155;refine (HS.out _).mono ?_;rintro e w2 ⟨rfl,hG2⟩;have b0:=hG2.cell a0;have b1:=hG2.cell a1)
   go_ret
   exact ⟨by rw [HE.out];rfl,Gr.tr hG1 hG2⟩
 | true=>
   rw [c1] at HS
   have hsb:=span_bounds c1
   by_cases g0:f=t
   ·have k0:(f==t)=true:=by simpa using g0
    have HE:=hid (cont_same (f:=f) (t:=t) (n:=n) g0)
    clear g0
    go_wp2_with (go_at_call 155;refine (HS.out _).mono ?_;rintro e w2 ⟨rfl,hG2⟩;have b0:=hG2.cell a0;have b1:=hG2.cell a1)
    go_ret
    exact ⟨by rw [HE.out];rfl,Gr.tr hG1 hG2⟩
   ·have k0:(f==t)=false:=by simpa using g0
    by_cases g1:t=4611686018427387904
    ·have k1:(t==4611686018427387904)=true:=by simpa using g1
     have HE:=hid (cont_open (f:=f) (t:=t) (n:=n) g1)
     clear g1
     go_wp2_with (go_at_call 155;refine (HS.out _).mono ?_;rintro e w2 ⟨rfl,hG2⟩;have b0:=hG2.cell a0;have b1:=hG2.cell a1)
     go_ret
     exact ⟨by rw [HE.out];rfl,Gr.tr hG1 hG2⟩
    ·have k1:(t==4611686018427387904)=false:=by simpa using g1
     by_cases g2:n < -1
     ·have k2:decide (n < -1)=true:=decide_eq_true g2
      have HE:=hid (cont_low (f:=f) (t:=t) (n:=n) g2)
      clear g2
      go_wp2_with (go_at_call 155;refine (HS.out _).mono ?_;rintro e w2 ⟨rfl,hG2⟩;have b0:=hG2.cell a0;have b1:=hG2.cell a1)
      go_ret
      exact ⟨by rw [HE.out];rfl,Gr.tr hG1 hG2⟩
     ·have k2:decide (n < -1)=false:=decide_eq_false g2
      by_cases g3:4611686018427387903 < n
      ·have k3:decide (4611686018427387903 < n)=true:=decide_eq_true g3
       have HE:=hid (cont_high (f:=f) (t:=t) (n:=n) g3)
       clear g3
       go_wp2_with (go_at_call 155;refine (HS.out _).mono ?_;rintro e w2 ⟨rfl,hG2⟩;have b0:=hG2.cell a0;have b1:=hG2.cell a1)
       go_ret
       exact ⟨by rw [HE.out];rfl,Gr.tr hG1 hG2⟩
      ·have k3:decide (4611686018427387903 < n)=false:=decide_eq_false g3
       by_cases g4:n= -1
       ·have k4:(n==-1)=true:=by simpa using g4
        have HE:=hid (cont_any c1 g0 g1 g2 g3 (.inl g4))
        rw [if_pos g4] at HE
        clear g4
        have lf:=itoa_len_int (x:=f) hsb.1 (by omega)
        have lt:=itoa_len_int (x:=t-1) (by omega) (by omega)
        go_upto_region 3 with (go_at_call 155;refine (HS.out _).mono ?_;rintro e w2 ⟨rfl,hG2⟩;have b0:=hG2.cell a0;have b1:=hG2.cell a1)
        have q0:∀i,(gw w2 i).cell? ⟨g,0,none⟩=some (.int .i64 f):=fun i=>(gw_gr w2 i).cell b0
        have q1:∀i,(gw w2 i).cell? ⟨g,1,none⟩=some (.int .i64 t):=fun i=>(gw_gr w2 i).cell b1
        have HG2:=hid (Gr.tr hG1 hG2)
        have HP2:=hid (HP1.out.gr hG2)
        clear hG2 hG1 a0 a1
        refine wp_region_gw (by kernel_rfl) (by kernel_rfl) ?_
        repeat (first | go_big_quiet_step ((go_at_call 156;exact gw_call (fmtInt_any _ _ (HP2.out.gr (gw_gr _ _)) (by omega) (by omega)))) | quiet_step ((go_at_call 156;exact gw_call (fmtInt_any _ _ (HP2.out.gr (gw_gr _ _)) (by omega) (by omega)))))
        refine wpQuiet_nil ?_;intro wq hwq;obtain ⟨iq,rfl⟩:=hwq
        have HG3:=hid (Gr.tr HG2.out (gw_gr w2 iq))
        have s1:=q1 iq
        have s0:=q0 iq
        have HP3:=hid (HP2.out.gr (gw_gr w2 iq))
        generalize gw w2 iq=w3 at *
        clear q0 q1
        go_wp2_with fail
        go_ret
        exact ⟨by rw [HE.out];simp [headC],HG3.out⟩
       ·have k4:(n==-1)=false:=by simpa using g4
        by_cases g5:n < t
        ·have k5:decide (n < t)=true:=decide_eq_true g5
         have HE:=hid (cont_behind (f:=f) (t:=t) (n:=n) g4 g5)
         clear g4
         have lf:=itoa_len_int (x:=f) hsb.1 (by omega)
         have lt:=itoa_len_int (x:=t-1) (by omega) (by omega)
         go_upto_region 3 with (go_at_call 155;refine (HS.out _).mono ?_;rintro e w2 ⟨rfl,hG2⟩;have b0:=hG2.cell a0;have b1:=hG2.cell a1)
         have q0:∀i,(gw w2 i).cell? ⟨g,0,none⟩=some (.int .i64 f):=fun i=>(gw_gr w2 i).cell b0
         have q1:∀i,(gw w2 i).cell? ⟨g,1,none⟩=some (.int .i64 t):=fun i=>(gw_gr w2 i).cell b1
         have HG2:=hid (Gr.tr hG1 hG2)
         have HP2:=hid (HP1.out.gr hG2)
         clear hG2 hG1 a0 a1
         refine wp_region_gw (by kernel_rfl) (by kernel_rfl) ?_
         repeat (first | go_big_quiet_step ((go_at_call 156;exact gw_call (fmtInt_any _ _ (HP2.out.gr (gw_gr _ _)) (by omega) (by omega)))) | quiet_step ((go_at_call 156;exact gw_call (fmtInt_any _ _ (HP2.out.gr (gw_gr _ _)) (by omega) (by omega)))))
         refine wpQuiet_nil ?_;intro wq hwq;obtain ⟨iq,rfl⟩:=hwq
         have HG3:=hid (Gr.tr HG2.out (gw_gr w2 iq))
         have s1:=q1 iq
         have s0:=q0 iq
         have HP3:=hid (HP2.out.gr (gw_gr w2 iq))
         generalize gw w2 iq=w3 at *
         clear q0 q1
         go_wp2_with fail
         go_ret
         exact ⟨by rw [HE.out];rfl,HG3.out⟩
        ·have k5:decide (n < t)=false:=decide_eq_false g5
         have HE:=hid (cont_any c1 g0 g1 g2 g3 (.inr (by omega)))
         rw [if_neg g4] at HE
         have hn1:-1 < n:=by omega
         have ln:=itoa_len_int (x:=n) (by omega) (by omega)
         clear g4
         have lf:=itoa_len_int (x:=f) hsb.1 (by omega)
         have lt:=itoa_len_int (x:=t-1) (by omega) (by omega)
         go_upto_region 3 with (go_at_call 155;refine (HS.out _).mono ?_;rintro e w2 ⟨rfl,hG2⟩;have b0:=hG2.cell a0;have b1:=hG2.cell a1)
         have q0:∀i,(gw w2 i).cell? ⟨g,0,none⟩=some (.int .i64 f):=fun i=>(gw_gr w2 i).cell b0
         have q1:∀i,(gw w2 i).cell? ⟨g,1,none⟩=some (.int .i64 t):=fun i=>(gw_gr w2 i).cell b1
         have HG2:=hid (Gr.tr hG1 hG2)
         have HP2:=hid (HP1.out.gr hG2)
         clear hG2 hG1 a0 a1
         refine wp_region_gw (by kernel_rfl) (by kernel_rfl) ?_
         repeat (first | go_big_quiet_step ((go_at_call 156;exact gw_call (fmtInt_any _ _ (HP2.out.gr (gw_gr _ _)) (by omega) (by omega)))) | quiet_step ((go_at_call 156;exact gw_call (fmtInt_any _ _ (HP2.out.gr (gw_gr _ _)) (by omega) (by omega)))))
         refine wpQuiet_nil ?_;intro wq hwq;obtain ⟨iq,rfl⟩:=hwq
         have HG3:=hid (Gr.tr HG2.out (gw_gr w2 iq))
         have s1:=q1 iq
         have s0:=q0 iq
         have HP3:=hid (HP2.out.gr (gw_gr w2 iq))
         generalize gw w2 iq=w3 at *
         clear q0 q1
         go_wp2_with (go_at_call 156;refine (fmtInt_any _ _ HP3.out (by omega) (by omega)).mono ?_;rintro e w4 ⟨rfl,hG4⟩)
         go_ret
         exact ⟨by rw [HE.out];simp [headC],Gr.tr HG3.out hG4⟩
set_option maxHeartbeats 4000000 in
set_option maxRecDepth 100000 in
theorem refContent_any (f t n:Int) (w:World) (hf:-9223372036854775808≤f∧f≤9223372036854775807) (ht:-9223372036854775808≤t∧t≤9223372036854775807) (hn:-9223372036854775808≤n∧n≤9223372036854775807):Calls Tryz.prog 80 #[.agg #[.int .i64 f,.int .i64 t],.int .i64 n] w fun e w'=>e=.returned (str (contentL f t n))∧Gr w w':=by
 have hb:=Bk.new w 41 #[.int .i64 f,.int .i64 t] (0,0)
 have hG1:=Gr.al (Gr.refl w) (Obj.cells #[.int .i64 f,.int .i64 t] 41)
 have HS:=hid (fun (w:World)=>refSpanRight_any f t w)
 go_enter Tryz.func80,Tryz.ntmps80
 go_upto_region 1 with fail
 generalize w.alloc (Obj.cells #[.int .i64 f,.int .i64 t] 41)=w1 at *
 generalize w.heap.size=g at *
 have a0:w1.cell? ⟨g,0,none⟩=some (.int .i64 f):=hb.cell 0
 have a1:w1.cell? ⟨g,1,none⟩=some (.int .i64 t):=hb.cell 1
 have HB:=hid hb
 clear hb
 cases c1:spanB f t with
 | false=>
   rw [c1] at HS
   have HE:=hid (cont_span (n:=n) c1)
   go_wp2_with (go_at_call 106;refine (HS.out _).mono ?_;rintro e w2 ⟨rfl,hG2⟩;have b0:=hG2.cell a0;have b1:=hG2.cell a1)
   go_ret
   exact ⟨by rw [HE.out];rfl,Gr.tr hG1 hG2⟩
 | true=>
   rw [c1] at HS
   have hsb:=span_bounds c1
   by_cases g0:f=t
   ·have k0:decide (t≤f)=true:=decide_eq_true (by omega)
    have HE:=hid (cont_same (f:=f) (t:=t) (n:=n) g0)
    clear g0
    go_wp2_with (go_at_call 106;refine (HS.out _).mono ?_;rintro e w2 ⟨rfl,hG2⟩;have b0:=hG2.cell a0;have b1:=hG2.cell a1)
    go_ret
    exact ⟨by rw [HE.out];rfl,Gr.tr hG1 hG2⟩
   ·have k0:decide (t≤f)=false:=decide_eq_false (by omega)
    by_cases g1:t=4611686018427387904
    ·have k1:decide (4611686018427387904≤t)=true:=decide_eq_true (by omega)
     have HE:=hid (cont_open (f:=f) (t:=t) (n:=n) g1)
     clear g1
     go_wp2_with (go_at_call 106;refine (HS.out _).mono ?_;rintro e w2 ⟨rfl,hG2⟩;have b0:=hG2.cell a0;have b1:=hG2.cell a1)
     go_ret
     exact ⟨by rw [HE.out];rfl,Gr.tr hG1 hG2⟩
    ·have k1:decide (4611686018427387904≤t)=false:=decide_eq_false (by omega)
     by_cases g2:n < -1
     ·have k2:decide (n < -1)=true:=decide_eq_true g2
      have HE:=hid (cont_low (f:=f) (t:=t) (n:=n) g2)
      clear g2
      go_wp2_with (go_at_call 106;refine (HS.out _).mono ?_;rintro e w2 ⟨rfl,hG2⟩;have b0:=hG2.cell a0;have b1:=hG2.cell a1)
      go_ret
      exact ⟨by rw [HE.out];rfl,Gr.tr hG1 hG2⟩
     ·have k2:decide (n < -1)=false:=decide_eq_false g2
      by_cases g3:4611686018427387903 < n
      ·have k3:decide (4611686018427387904≤n)=true:=decide_eq_true (by omega)
       have HE:=hid (cont_high (f:=f) (t:=t) (n:=n) g3)
       clear g3
       go_wp2_with (go_at_call 106;refine (HS.out _).mono ?_;rintro e w2 ⟨rfl,hG2⟩;have b0:=hG2.cell a0;have b1:=hG2.cell a1)
       go_ret
       exact ⟨by rw [HE.out];rfl,Gr.tr hG1 hG2⟩
      ·have k3:decide (4611686018427387904≤n)=false:=decide_eq_false (by omega)
       by_cases g4:0≤n
       ·have k4:decide (0≤n)=true:=decide_eq_true g4
        have k6:decide (n < 0)=false:=decide_eq_false (by omega)
        by_cases g5:n < t
        ·have k5:decide (n < t)=true:=decide_eq_true g5
         have HE:=hid (cont_behind (f:=f) (t:=t) (n:=n) (by omega) g5)
         clear g5
         go_wp2_with (go_at_call 106;refine (HS.out _).mono ?_;rintro e w2 ⟨rfl,hG2⟩;have b0:=hG2.cell a0;have b1:=hG2.cell a1)
         go_ret
         exact ⟨by rw [HE.out];rfl,Gr.tr hG1 hG2⟩
        ·have k5:decide (n < t)=false:=decide_eq_false g5
         have HE:=hid (cont_any c1 g0 g1 g2 g3 (.inr (by omega)))
         rw [if_neg (by omega)] at HE
         have ln:=itoa_len_int (x:=n) (by omega) (by omega)
         have lf:=itoa_len_int (x:=f) hsb.1 (by omega)
         have lt:=itoa_len_int (x:=t-1) (by omega) (by omega)
         go_upto_region 3 with (go_at_call 106;refine (HS.out _).mono ?_;rintro e w2 ⟨rfl,hG2⟩;have b0:=hG2.cell a0;have b1:=hG2.cell a1)
         have q0:∀i,(gw w2 i).cell? ⟨g,0,none⟩=some (.int .i64 f):=fun i=>(gw_gr w2 i).cell b0
         have q1:∀i,(gw w2 i).cell? ⟨g,1,none⟩=some (.int .i64 t):=fun i=>(gw_gr w2 i).cell b1
         have HG2:=hid (Gr.tr hG1 hG2)
         clear hG2 hG1 a0 a1
         refine wp_region_gw (by kernel_rfl) (by kernel_rfl) ?_
         repeat (first | go_big_quiet_step ((go_at_call 107;exact gw_call (refDigits11_int _ _ (by omega) (by omega)))) | quiet_step ((go_at_call 107;exact gw_call (refDigits11_int _ _ (by omega) (by omega)))))
         refine wpQuiet_nil ?_;intro wq hwq;obtain ⟨iq,rfl⟩:=hwq
         have HG3:=hid (Gr.tr HG2.out (gw_gr w2 iq))
         have s1:=q1 iq
         have s0:=q0 iq
         generalize gw w2 iq=w3 at *
         clear q0 q1
         go_wp2_with (go_at_call 107;refine (refDigits11_int _ _ (by omega) (by omega)).mono ?_;rintro e w4 ⟨rfl,hG4⟩)
         go_ret
         exact ⟨by rw [HE.out];simp [headC],Gr.tr HG3.out hG4⟩
       ·have k4:decide (0≤n)=false:=decide_eq_false g4
        have k6:decide (n < 0)=true:=decide_eq_true (by omega)
        obtain rfl:n= -1:=by omega
        have HE:=hid (cont_any c1 g0 g1 g2 g3 (.inl rfl))
        rw [if_pos rfl] at HE
        have lf:=itoa_len_int (x:=f) hsb.1 (by omega)
        have lt:=itoa_len_int (x:=t-1) (by omega) (by omega)
        go_upto_region 3 with (go_at_call 106;refine (HS.out _).mono ?_;rintro e w2 ⟨rfl,hG2⟩;have b0:=hG2.cell a0;have b1:=hG2.cell a1)
        have q0:∀i,(gw w2 i).cell? ⟨g,0,none⟩=some (.int .i64 f):=fun i=>(gw_gr w2 i).cell b0
        have q1:∀i,(gw w2 i).cell? ⟨g,1,none⟩=some (.int .i64 t):=fun i=>(gw_gr w2 i).cell b1
        have HG2:=hid (Gr.tr hG1 hG2)
        clear hG2 hG1 a0 a1
        refine wp_region_gw (by kernel_rfl) (by kernel_rfl) ?_
        repeat (first | go_big_quiet_step ((go_at_call 107;exact gw_call (refDigits11_int _ _ (by omega) (by omega)))) | quiet_step ((go_at_call 107;exact gw_call (refDigits11_int _ _ (by omega) (by omega)))))
        refine wpQuiet_nil ?_;intro wq hwq;obtain ⟨iq,rfl⟩:=hwq
        have HG3:=hid (Gr.tr HG2.out (gw_gr w2 iq))
        have s1:=q1 iq
        have s0:=q0 iq
        generalize gw w2 iq=w3 at *
        clear q0 q1
        go_wp2_with fail
        go_ret
        exact ⟨by rw [HE.out];simp [headC],HG3.out⟩
end Go.Proofs.YtgfckbhkgggkeaaGreatDoor
/- XMulti2 -/
namespace Go.Proofs.YtgfckbhkgggkeaaGreatDoor
open Lib (hid)
open Go.RowKit
def ErrC (w:World) (g:Nat):Prop:=∃ev,w.cell? ⟨g,0,none⟩=some ev∧(ev=.nilIface∨∃te pe,ev=.iface te pe)
theorem ErrC.gr {w w':World} {k:Nat} (h:ErrC w k) (g:Gr w w'):ErrC w' k:=by obtain ⟨ev,h1,h2⟩:=h;exact ⟨ev,Gr.cell g h1,h2⟩
structure Vars (w:World):Prop where
 es:ErrC w 1
 er:ErrC w 2
 ml:Ml w
 pw:Pw w
theorem Vars.gr {w w':World} (h:Vars w) (g:Gr w w'):Vars w':=⟨h.es.gr g,h.er.gr g,h.ml.gr g,h.pw.gr g⟩
theorem parseInt_ok (s:List UInt8) (x:Int) (h:okInt (Lib.parseIntB 64 s)=some x) (w:World) (hs:s.length≤281474976710656):Calls Tryz.prog 129 #[str s,.int .i64 10,.int .i64 64] w fun e w'=>e=.returned (.tuple #[.int .i64 x,.nilIface])∧Gr w w':=by
 have h':Lib.parseIntB 64 s=.ok x:=by
  cases hp:Lib.parseIntB 64 s with
  | ok v=>rw [hp] at h;simp only [okInt,Option.some.injEq] at h;rw [h]
  | range=>rw [hp] at h;cases h
  | _=>rw [hp] at h;cases h
 refine (Tryz.strconv_ParseInt_10_at64_ok ⟨s.toArray⟩ (by show s.length≤_;omega) x (by simpa using h') w).mono fun e w' ⟨he,hw⟩=>⟨he,?_⟩
 rcases hw with rfl | ⟨t,rfl⟩
 ·exact Gr.refl _
 ·exact Lib.bytesWorld_below w _ t
theorem parseInt_no (s:List UInt8) (h:okInt (Lib.parseIntB 64 s)=none) (w:World) (hv:Vars w) (hs:s.length≤281474976710656):Calls Tryz.prog 129 #[str s,.int .i64 10,.int .i64 64] w fun e w'=>∃x N,e=.returned (.tuple #[.int .i64 x,.iface 220 (.pointer (some ⟨N,0,none⟩))])∧Gr w w':=by
 cases hp:Lib.parseIntB 64 s with
 | ok v=>rw [hp] at h;cases h
 | range=>
   obtain ⟨ev,h1,h2⟩:=hv.er
   exact (Tryz.strconv_ParseInt_10_at64_range ⟨s.toArray⟩ hs (by simpa using hp) ev w h1 h2).mono fun e w' ⟨N,he,_,_,hg⟩=>⟨_,N,he,hg⟩
 | _=>
   obtain ⟨ev,h1,h2⟩:=hv.es
   exact (Any.strconv_ParseInt_10_at64_syntax Tryz.laysC174 ⟨s.toArray⟩ hs (by simpa using hp) ev w h1 h2).mono fun e w' ⟨N,he,_,_,hg⟩=>⟨_,N,he,hg⟩
theorem okInt_bounds {s:List UInt8} {x:Int} (h:okInt (Lib.parseIntB 64 s)=some x):-9223372036854775808≤x∧x≤9223372036854775807:=by
 cases hp:Lib.parseIntB 64 s with
 | ok v=>
   rw [hp] at h;simp only [okInt,Option.some.injEq] at h
   have:=Lib.parseIntB_bounds hp
   simp only [Nat.reduceSub,Nat.reducePow] at this
   omega
 | range=>rw [hp] at h;cases h
 | _=>rw [hp] at h;cases h
theorem m_cutPre (s p:List UInt8) (w:World):Calls Tryz.prog 85 #[str s,str p] w fun e w'=>e=.returned (.tuple #[str (Lib.trimPrefix s p),.bool (p.isPrefixOf s)])∧Gr w w':=
 (Tryz.strings_CutPrefix ⟨s.toArray⟩ ⟨p.toArray⟩ w).mono fun _ _ ⟨h1,h2⟩=>⟨by rw [h1];rfl,by rw [h2];exact Gr.refl _⟩
theorem m_cut (l sep:List UInt8) (w:World) (hm:Ml w) (hl:l.length < 4294967281):Calls Tryz.prog 128 #[str l,str sep] w fun e w'=>e=.returned (.tuple #[str (Lib.cut l sep).1,str (Lib.cut l sep).2.1,.bool (Lib.cut l sep).2.2])∧Gr w w':=by
 obtain ⟨m,hm⟩:=hm
 exact (Tryz.strings_Cut ⟨l.toArray⟩ ⟨sep.toArray⟩ m w hl hm).mono fun _ _ ⟨h1,n,h2⟩=>⟨by rw [h1],by rw [h2];exact Gr.drN (Gr.refl w) n⟩
theorem num_end {s:List UInt8} {k m:Nat} (h:¬k < s.length):numGo (s.drop k) k m=(m,k):=by rw [List.drop_eq_nil_of_le (by omega)];rfl
theorem num_at {s:List UInt8} {k m:Nat} (h:k < s.length):numGo (s.drop k) k m=if k < 19∧digC s[k]=true then (if 461168601842738790 < m then (0,0) else if 4611686018427387904≤digF m s[k] then (0,0) else numGo (s.drop (k+1)) (k+1) (digF m s[k])) else (m,k):=by
 rw [List.drop_eq_getElem_cons h,numGo]
theorem numC_no {c:UInt8} (h:¬(48≤c.toNat∧c.toNat≤57)):digC c=false:=by unfold digC;simp;omega
theorem numC_yes {c:UInt8} (h:48≤c.toNat∧c.toNat≤57):digC c=true:=by unfold digC;simp;omega
theorem num_stop {s:List UInt8} {k m:Nat} (h:k < s.length) (hc:¬(k < 19∧48≤s[k].toNat∧s[k].toNat≤57)):numGo (s.drop k) k m=(m,k):=by
 rw [num_at h,if_neg]
 rintro ⟨h1,h2⟩
 by_cases hd:48≤s[k].toNat∧s[k].toNat≤57
 ·exact hc ⟨h1,hd⟩
 ·rw [numC_no hd] at h2;cases h2
set_option maxHeartbeats 2000000 in
theorem refNumber_any (s:List UInt8) (w:World) (_hs:s.length≤9223372036854775000):Calls Tryz.prog 79 #[str s] w fun e w'=>e=.returned (.tuple #[.int .i64 (numRM s).1,.int .i64 (numRM s).2])∧Gr w w':=by
 go_enter Tryz.func79,Tryz.ntmps79
 go_wp2_with fail
 go_loopw [2,3,4,5] (fun r2 r3 n i wr=>∃(k m:Nat),k≤s.length∧i=.int .i64 k∧n=.int .i64 m∧m < 4611686018427387904∧Gr w wr∧numGo (s.drop k) k m=numRM s) (fun _ _ _ i _=>s.length-(intOf i).toNat)
 case atStart=>exact ⟨0,0,Nat.zero_le _,rfl,rfl,by omega,Gr.refl _,rfl⟩
 case round=>
  obtain ⟨k,m,hk,rfl,rfl,hm,hG,hE⟩:=hrel
  have HE:=hid hE;clear hE
  by_cases hlt:k < s.length
  ·have hN:=num_at (m:=m) hlt
   by_cases h19:k < 19
   ·have d19:decide ((k:Int) < 19)=true:=decide_eq_true (by omega)
    by_cases hd:48≤s[k].toNat∧s[k].toNat≤57
    ·rw [if_pos ⟨h19,numC_yes hd⟩] at hN
     obtain ⟨d1,d2⟩:=hd
     have ddge48:decide (48≤((s[k].toNat:Nat):Int))=true:=decide_eq_true (by omega)
     have ddle57:decide (((s[k].toNat:Nat):Int)≤57)=true:=decide_eq_true (by omega)
     by_cases g1:461168601842738790 < m
     ·rw [if_pos g1] at hN
      have HN:=hid hN
      have k1:decide (461168601842738790 < (m:Int))=true:=decide_eq_true (by omega)
      clear hN h19
      go_wp2_with fail
      go_ret2
      exact ⟨by rw [←HE.out,HN.out];rfl,hG⟩
     ·rw [if_neg g1] at hN
      have k1:decide (461168601842738790 < (m:Int))=false:=decide_eq_false (by omega)
      have hf:digF m s[k]=m*10+(s[k].toNat-48):=rfl
      by_cases g2:4611686018427387904≤digF m s[k]
      ·rw [if_pos g2] at hN
       have HN:=hid hN
       have k2:decide (4611686018427387904≤(m:Int)*10+((s[k].toNat:Int)-48))=true:=decide_eq_true (by omega)
       clear hN h19 hf g2
       go_wp2_with fail
       go_ret2
       exact ⟨by rw [←HE.out,HN.out];rfl,hG⟩
      ·rw [if_neg g2] at hN
       have HN:=hid hN
       have k2:decide (4611686018427387904≤(m:Int)*10+((s[k].toNat:Int)-48))=false:=decide_eq_false (by omega)
       have HF:=hid hf
       have hb:(m:Int)*10+((s[k].toNat:Int)-48) < 4611686018427387904:=by omega
       clear hN h19 hf g2
       go_wp2_with fail
       refine ⟨⟨k+1,digF m s[k],by omega,by go_num,?_,?_,hG,by rw [←HE.out,HN.out]⟩,by simp [intOf];omega⟩
       ·rw [HF.out];congr 1;omega
       ·rw [HF.out];omega
    ·have HN:=hid (num_stop (m:=m) hlt (fun h=>hd h.2))
     clear hN
     rcases (show s[k].toNat < 48∨57 < s[k].toNat by omega) with h1 | h1
     ·have ddge48:decide (48≤((s[k].toNat:Nat):Int))=false:=decide_eq_false (by omega)
      go_wp2_with fail
      go_ret2
      exact ⟨by rw [←HE.out,HN.out];rfl,hG⟩
     ·have hx:=s[k].toNat_lt
      have ddge48:decide (48≤((s[k].toNat:Nat):Int))=true:=decide_eq_true (by omega)
      have ddle57:decide (((s[k].toNat:Nat):Int)≤57)=false:=decide_eq_false (by omega)
      go_wp2_with fail
      go_ret2
      exact ⟨by rw [←HE.out,HN.out];rfl,hG⟩
   ·have HN:=hid (num_stop (m:=m) hlt (fun h=>h19 h.1))
    have d19:decide ((k:Int) < 19)=false:=decide_eq_false (by omega)
    clear hN h19
    go_wp2_with fail
    go_ret2
    exact ⟨by rw [←HE.out,HN.out];rfl,hG⟩
  ·have HN:=hid (num_end (m:=m) hlt)
   go_wp2_with fail
   go_ret2
   exact ⟨by rw [←HE.out,HN.out];rfl,hG⟩
end Go.Proofs.YtgfckbhkgggkeaaGreatDoor
/- XMulti3 -/
namespace Go.Proofs.YtgfckbhkgggkeaaGreatDoor
open Lib (hid)
open Go.RowKit
def rangeV:Option (Int×Int×Int)→Value
 | none=>.tuple #[.agg #[.int .i64 0,.int .i64 0],.int .i64 0,.int .i64 2]
 | some x=>.tuple #[.agg #[.int .i64 x.1,.int .i64 x.2.1],.int .i64 x.2.2,.int .i64 0]
theorem Bk.set2 {w:World} {g:Nat} {t:TypeId} {a b:Value} {fr:Nat×Nat} (h:Bk w g t #[a,b] fr) (x y:Value):Bk ((w.setCell ⟨g,0,none⟩ x).setCell ⟨g,1,none⟩ y) g t #[x,y] fr:=by
 have:=(h.set 0 x).set 1 y
 simpa using this
theorem Bk.cells2 {w:World} {g:Nat} {t:TypeId} {a b:Value} {fr:Nat×Nat} (h:Bk w g t #[a,b] fr):w.cell? ⟨g,0,none⟩=some a∧w.cell? ⟨g,1,none⟩=some b:=⟨h.cell 0,h.cell 1⟩
theorem Bk.free2 {w:World} {g:Nat} {t:TypeId} {a b:Value} (h:Bk w g t #[a,b] (0,0)):w.frozen? ⟨g,0,none⟩=false∧w.frozen? ⟨g,1,none⟩=false:=⟨h.free 0 (.inr (Nat.zero_le _)),h.free 1 (.inr (Nat.zero_le _))⟩
theorem numGo_le:∀(l:List UInt8) (i n:Nat),n < 4611686018427387904→(numGo l i n).1 < 4611686018427387904∧(numGo l i n).2≤i+l.length
 | [],i,n,h=>⟨h,by simp [numGo]⟩
 | c::r,i,n,h=>by
   unfold numGo
   split
   ·split
    ·exact ⟨by decide,Nat.zero_le _⟩
    ·split
     ·exact ⟨by decide,Nat.zero_le _⟩
     ·rename_i h2
      have:=numGo_le r (i+1) (digF n c) (by omega)
      simp only [List.length_cons];omega
   ·exact ⟨h,by simp⟩
theorem numR_le (l:List UInt8):(numRM l).1 < 4611686018427387904∧(numRM l).2≤l.length:=by
 have:=numGo_le l 0 0 (by decide);unfold numRM;omega
theorem rangeR_head {s:List UInt8} (h:s.take 6≠[98,121,116,101,115,32]):rangeR s=none:=by unfold rangeR;rw [if_pos h]
theorem rangeR_one {s:List UInt8} {a1 a2:Nat} (ha:numRM (s.drop 6)=(a1,a2)) (hl:s.length≤6+a2):rangeR s=none:=by
 unfold rangeR;split
 ·rfl
 ·rw [if_pos (by rw [ha];exact hl)]
theorem rangeR_two {s:List UInt8} {a1 a2 b1 b2:Nat} (ha:numRM (s.drop 6)=(a1,a2)) (hb:numRM (s.drop (6+a2+1))=(b1,b2)) (hl:s.length≤6+a2+1+b2):rangeR s=none:=by
 unfold rangeR;split
 ·rfl
 ·split
  ·rfl
  ·rw [if_pos (by rw [ha];simp only;rw [hb];exact hl)]
set_option maxHeartbeats 4000000 in
set_option maxRecDepth 100000 in
theorem refRange_any (s:List UInt8) (w:World) (_hs:s.length≤4294967000):Calls Tryz.prog 52 #[str s] w fun e w'=>e=.returned (rangeV (rangeR s))∧Gr w w':=by
 have hb:=Bk.new w 41 #[.int .i64 0,.int .i64 0] (0,0)
 have hG1:=Gr.al (Gr.refl w) (Obj.cells #[.int .i64 0,.int .i64 0] 41)
 obtain ⟨a1,a2,ha⟩:∃a1 a2,numRM (s.drop 6)=(a1,a2):=⟨_,_,rfl⟩
 obtain ⟨b1,b2,hbb⟩:∃b1 b2,numRM (s.drop (6+a2+1))=(b1,b2):=⟨_,_,rfl⟩
 obtain ⟨c1,c2,hcc⟩:∃c1 c2,numRM (s.drop (6+a2+1+b2+1))=(c1,c2):=⟨_,_,rfl⟩
 have la:=numR_le (s.drop 6);have lb:=numR_le (s.drop (6+a2+1));have lc:=numR_le (s.drop (6+a2+1+b2+1))
 rw [ha] at la;rw [hbb] at lb;rw [hcc] at lc
 simp only [List.length_drop] at la lb lc
 have HNa:=hid (fun (w:World)=>refNumber_any (s.drop 6) w (by rw [List.length_drop];omega))
 have HNb:=hid (fun (w:World)=>refNumber_any (s.drop (6+a2+1)) w (by rw [List.length_drop];omega))
 have HNc:=hid (fun (w:World)=>refNumber_any (s.drop (6+a2+1+b2+1)) w (by rw [List.length_drop];omega))
 rw [ha] at HNa;rw [hbb] at HNb;rw [hcc] at HNc
 have HR1:=hid (fun h=>rangeR_head (s:=s) h)
 have HR2:=hid (fun h=>rangeR_one ha h)
 have HR3:=hid (fun h=>rangeR_two ha hbb h)
 have HR4:=hid (fun h0 h1 h2=>rangeR_of (s:=s) h0 ha h1 hbb h2 hcc)
 clear ha hbb hcc
 go_enter Tryz.func52,Tryz.ntmps52
 go_upto_region 1 with fail
 generalize w.alloc (Obj.cells #[.int .i64 0,.int .i64 0] 41)=w1 at *
 generalize hg:w.heap.size=g at *
 obtain ⟨y0,y1⟩:=hb.cells2
 obtain ⟨f0,f1⟩:=hb.free2
 have HB:=hid hb;clear hb
 by_cases h6:s.length < 6
 ·have d6:decide ((s.length:Int) < 6)=true:=decide_eq_true (by omega)
  have HR:=hid (HR1.out (by intro h;have:=congrArg List.length h;simp at this;omega))
  clear HR1 HR2 HR3 HR4
  go_wp2_with fail
  obtain ⟨x0,x1⟩:=(HB.out.set2 (.int .i64 0) (.int .i64 0)).cells2
  refine bodyPost_ret (v:=rangeV none) (by simp [rangeV,results,Tryz.results52,go_sem,x0,x1]) rfl ⟨by rw [HR.out],Gr.st (Gr.st hG1 (Nat.le_of_eq hg) _) (Nat.le_of_eq hg) _⟩
 ·have d6:decide ((s.length:Int) < 6)=false:=decide_eq_false (by omega)
  by_cases hp:s.take 6=[98,121,116,101,115,32]
  ·have k6:(s.take 6==[98,121,116,101,115,32])=true:=by simp [hp]
   have HR4:=hid (HR4.out hp)
   clear HR1
   by_cases q1:s.length≤6+a2
   ·have HR:=hid (HR2.out q1)
    have e1:decide ((s.length:Int)≤6+(a2:Int))=true:=decide_eq_true (by omega)
    clear HR2 HR3 HR4 hp
    go_wp2_with (go_at_call 79;refine (HNa.out _).mono ?_;rintro e w2 ⟨rfl,hG2⟩;have HB2:=hid (HB.out.gr hG2);obtain ⟨y0,y1⟩:=HB2.out.cells2;obtain ⟨f0,f1⟩:=HB2.out.free2)
    obtain ⟨x0,x1⟩:=(HB2.out.set2 (.int .i64 0) (.int .i64 0)).cells2
    exact bodyPost_ret (v:=rangeV none) (by simp [rangeV,results,Tryz.results52,go_sem,x0,x1]) rfl ⟨by rw [HR.out],Gr.st (Gr.st (Gr.tr hG1 hG2) (Nat.le_of_eq hg) _) (Nat.le_of_eq hg) _⟩
   ·have e1:decide ((s.length:Int)≤6+(a2:Int))=false:=decide_eq_false (by omega)
    by_cases q2:s.length≤6+a2+1+b2
    ·have HR:=hid (HR3.out q2)
     have e2:decide ((s.length:Int)≤6+(a2:Int)+1+(b2:Int))=true:=decide_eq_true (by omega)
     have hx:(6+(a2:Int)+1).toNat=6+a2+1:=by omega
     clear HR2 HR3 HR4 hp
     go_upto_region 4 with (go_at_call 79;refine (HNa.out _).mono ?_;rintro e w2 ⟨rfl,hG2⟩;have HB2:=hid (HB.out.gr hG2))
     go_wp2_with (go_at_call 79;refine (HNb.out _).mono ?_;rintro e w3 ⟨rfl,hG3⟩;have HB3:=hid (HB2.out.gr hG3);obtain ⟨y0,y1⟩:=HB3.out.cells2;obtain ⟨f0,f1⟩:=HB3.out.free2)
     obtain ⟨x0,x1⟩:=(HB3.out.set2 (.int .i64 0) (.int .i64 0)).cells2
     exact bodyPost_ret (v:=rangeV none) (by simp [rangeV,results,Tryz.results52,go_sem,x0,x1]) rfl ⟨by rw [HR.out],Gr.st (Gr.st (Gr.tr (Gr.tr hG1 hG2) hG3) (Nat.le_of_eq hg) _) (Nat.le_of_eq hg) _⟩
    ·have e2:decide ((s.length:Int)≤6+(a2:Int)+1+(b2:Int))=false:=decide_eq_false (by omega)
     have hx:(6+(a2:Int)+1).toNat=6+a2+1:=by omega
     have hx2:(6+(a2:Int)+1+(b2:Int)+1).toNat=6+a2+1+b2+1:=by omega
     have HR4:=hid (HR4.out (by omega) (by omega))
     clear HR2 HR3 hp
     go_upto_region 4 with (go_at_call 79;refine (HNa.out _).mono ?_;rintro e w2 ⟨rfl,hG2⟩;have HB2:=hid (HB.out.gr hG2))
     go_upto_region 8 with (go_at_call 79;refine (HNb.out _).mono ?_;rintro e w3 ⟨rfl,hG3⟩;have HB3:=hid (HB2.out.gr hG3))
     have hG13:=Gr.tr (Gr.tr hG1 hG2) hG3
     clear hG1 hG2 hG3 HB HB2 y0 y1 f0 f1
     by_cases qc:c2=0
     ·have kq:((c2:Int)==0)=true:=by simp [qc]
      rw [show totR (c1,c2)= -1 from if_pos qc] at HR4
      clear qc
      have HC:=hid (fun (w:World)=>refContent_any (a1:Int) ((b1:Int)+1) (-1) w (by omega) (by omega) (by omega))
      go_upto_region 15 with (go_at_call 79;refine (HNc.out _).mono ?_;rintro e w4 ⟨rfl,hG4⟩)
      have hbx:=Bk.new w4 41 #[.int .i64 (a1:Int),.int .i64 ((b1:Int)+1)] (0,0)
      have hG5:=Gr.al (Gr.refl w4) (Obj.cells #[.int .i64 (a1:Int),.int .i64 ((b1:Int)+1)] 41)
      have hne:g≠w4.heap.size:=by have:=HB3.out.lt;have:=hG4.size;omega
      have HB5:=hid ((HB3.out.gr hG4).al (Obj.cells #[.int .i64 (a1:Int),.int .i64 ((b1:Int)+1)] 41))
      have hG15:=Gr.tr (Gr.tr hG13 hG4) hG5
      have HBX:=hid hbx
      generalize w4.alloc (Obj.cells #[.int .i64 (a1:Int),.int .i64 ((b1:Int)+1)] 41)=w5 at *
      generalize w4.heap.size=g5 at *
      obtain ⟨z0,z1⟩:=hbx.cells2
      clear hbx hG13 hG4 hG5 HB3
      by_cases hcs:contentL (a1:Int) ((b1:Int)+1) (-1)=s
      ·have kc:(contentL (a1:Int) ((b1:Int)+1) (-1)==s)=true:=by simpa using hcs
       rw [if_pos hcs] at HR4
       clear hcs
       go_wp2_with (go_at_call 80;refine (HC.out _).mono ?_;rintro e w6 ⟨rfl,hG6⟩;have z0:=hG6.cell z0;have z1:=hG6.cell z1;have HB6:=hid (HB5.out.gr hG6);obtain ⟨y0,y1⟩:=HB6.out.cells2;obtain ⟨f0,f1⟩:=HB6.out.free2)
       obtain ⟨x0,x1⟩:=(HB6.out.set2 (.int .i64 (a1:Int)) (.int .i64 ((b1:Int)+1))).cells2
       exact bodyPost_ret (v:=rangeV (some ((a1:Int),(b1:Int)+1,(-1)))) (by simp [rangeV,results,Tryz.results52,go_sem,x0,x1]) rfl ⟨by rw [HR4.out],Gr.st (Gr.st (Gr.tr hG15 hG6) (Nat.le_of_eq hg) _) (Nat.le_of_eq hg) _⟩
      ·have kc:(contentL (a1:Int) ((b1:Int)+1) (-1)==s)=false:=by simpa using hcs
       rw [if_neg hcs] at HR4
       clear hcs
       go_wp2_with (go_at_call 80;refine (HC.out _).mono ?_;rintro e w6 ⟨rfl,hG6⟩;have HB6:=hid (HB5.out.gr hG6);obtain ⟨y0,y1⟩:=HB6.out.cells2;obtain ⟨f0,f1⟩:=HB6.out.free2)
       obtain ⟨x0,x1⟩:=(HB6.out.set2 (.int .i64 0) (.int .i64 0)).cells2
       exact bodyPost_ret (v:=rangeV none) (by simp [rangeV,results,Tryz.results52,go_sem,x0,x1]) rfl ⟨by rw [HR4.out],Gr.st (Gr.st (Gr.tr hG15 hG6) (Nat.le_of_eq hg) _) (Nat.le_of_eq hg) _⟩
     ·have kq:((c2:Int)==0)=false:=by simp [qc]
      rw [show totR (c1,c2)=(c1:Int) from if_neg qc] at HR4
      clear qc
      have HC:=hid (fun (w:World)=>refContent_any (a1:Int) ((b1:Int)+1) (c1:Int) w (by omega) (by omega) (by omega))
      go_upto_region 15 with (go_at_call 79;refine (HNc.out _).mono ?_;rintro e w4 ⟨rfl,hG4⟩)
      have hbx:=Bk.new w4 41 #[.int .i64 (a1:Int),.int .i64 ((b1:Int)+1)] (0,0)
      have hG5:=Gr.al (Gr.refl w4) (Obj.cells #[.int .i64 (a1:Int),.int .i64 ((b1:Int)+1)] 41)
      have hne:g≠w4.heap.size:=by have:=HB3.out.lt;have:=hG4.size;omega
      have HB5:=hid ((HB3.out.gr hG4).al (Obj.cells #[.int .i64 (a1:Int),.int .i64 ((b1:Int)+1)] 41))
      have hG15:=Gr.tr (Gr.tr hG13 hG4) hG5
      have HBX:=hid hbx
      generalize w4.alloc (Obj.cells #[.int .i64 (a1:Int),.int .i64 ((b1:Int)+1)] 41)=w5 at *
      generalize w4.heap.size=g5 at *
      obtain ⟨z0,z1⟩:=hbx.cells2
      clear hbx hG13 hG4 hG5 HB3
      by_cases hcs:contentL (a1:Int) ((b1:Int)+1) (c1:Int)=s
      ·have kc:(contentL (a1:Int) ((b1:Int)+1) (c1:Int)==s)=true:=by simpa using hcs
       rw [if_pos hcs] at HR4
       clear hcs
       go_wp2_with (go_at_call 80;refine (HC.out _).mono ?_;rintro e w6 ⟨rfl,hG6⟩;have z0:=hG6.cell z0;have z1:=hG6.cell z1;have HB6:=hid (HB5.out.gr hG6);obtain ⟨y0,y1⟩:=HB6.out.cells2;obtain ⟨f0,f1⟩:=HB6.out.free2)
       obtain ⟨x0,x1⟩:=(HB6.out.set2 (.int .i64 (a1:Int)) (.int .i64 ((b1:Int)+1))).cells2
       exact bodyPost_ret (v:=rangeV (some ((a1:Int),(b1:Int)+1,(c1:Int)))) (by simp [rangeV,results,Tryz.results52,go_sem,x0,x1]) rfl ⟨by rw [HR4.out],Gr.st (Gr.st (Gr.tr hG15 hG6) (Nat.le_of_eq hg) _) (Nat.le_of_eq hg) _⟩
      ·have kc:(contentL (a1:Int) ((b1:Int)+1) (c1:Int)==s)=false:=by simpa using hcs
       rw [if_neg hcs] at HR4
       clear hcs
       go_wp2_with (go_at_call 80;refine (HC.out _).mono ?_;rintro e w6 ⟨rfl,hG6⟩;have HB6:=hid (HB5.out.gr hG6);obtain ⟨y0,y1⟩:=HB6.out.cells2;obtain ⟨f0,f1⟩:=HB6.out.free2)
       obtain ⟨x0,x1⟩:=(HB6.out.set2 (.int .i64 0) (.int .i64 0)).cells2
       exact bodyPost_ret (v:=rangeV none) (by simp [rangeV,results,Tryz.results52,go_sem,x0,x1]) rfl ⟨by rw [HR4.out],Gr.st (Gr.st (Gr.tr hG15 hG6) (Nat.le_of_eq hg) _) (Nat.le_of_eq hg) _⟩
  ·have k6:(s.take 6==[98,121,116,101,115,32])=false:=by simpa using hp
   have HR:=hid (HR1.out hp)
   clear HR1 HR2 HR3 HR4 hp
   go_wp2_with fail
   obtain ⟨x0,x1⟩:=(HB.out.set2 (.int .i64 0) (.int .i64 0)).cells2
   refine bodyPost_ret (v:=rangeV none) (by simp [rangeV,results,Tryz.results52,go_sem,x0,x1]) rfl ⟨by rw [HR.out],Gr.st (Gr.st hG1 (Nat.le_of_eq hg) _) (Nat.le_of_eq hg) _⟩
end Go.Proofs.YtgfckbhkgggkeaaGreatDoor
/- XMulti4 -/
namespace Go.Proofs.YtgfckbhkgggkeaaGreatDoor
open Lib (hid)
open Go.RowKit
theorem cut_lenM (l sep:List UInt8):(Lib.cut l sep).1.length≤l.length∧(Lib.cut l sep).2.1.length≤l.length:=by
 unfold Lib.cut
 split
 ·simp only [List.length_take,List.length_drop];omega
 ·simp
theorem trimP_len (s p:List UInt8):(Lib.trimPrefix s p).length≤s.length:=by
 unfold Lib.trimPrefix
 split
 ·rw [List.length_drop];omega
 ·exact Nat.le_refl _
def progT (s:List UInt8) (f t:Int) (n:Int):Option (Int×Int×Int):=if contentL f (t+1) n=[] then none else if contentL f (t+1) n=s then some (f,t+1,n) else none
theorem progR_f {s:List UInt8} (h:okInt (Lib.parseIntB 64 (partsR s).1)=none):progR s=none:=by unfold progR;rw [h]
theorem progR_t {s:List UInt8} {f:Int} (h:okInt (Lib.parseIntB 64 (partsR s).1)=some f) (h2:okInt (Lib.parseIntB 64 (partsR s).2.1)=none):progR s=none:=by unfold progR;rw [h];simp only;rw [h2]
theorem progR_g {s:List UInt8} {f t:Int} (h:okInt (Lib.parseIntB 64 (partsR s).1)=some f) (h2:okInt (Lib.parseIntB 64 (partsR s).2.1)=some t) (h3:4611686018427387903≤t):progR s=none:=by unfold progR;rw [h];simp only;rw [h2];simp only;rw [if_pos h3]
theorem progR_a {s:List UInt8} {f t:Int} (h:okInt (Lib.parseIntB 64 (partsR s).1)=some f) (h2:okInt (Lib.parseIntB 64 (partsR s).2.1)=some t) (h3:¬4611686018427387903≤t) (h4:totP (partsR s).2.2=none):progR s=none:=by unfold progR;rw [h];simp only;rw [h2];simp only;rw [if_neg h3,h4]
theorem progR_n {s:List UInt8} {f t n:Int} (h:okInt (Lib.parseIntB 64 (partsR s).1)=some f) (h2:okInt (Lib.parseIntB 64 (partsR s).2.1)=some t) (h3:¬4611686018427387903≤t) (h4:totP (partsR s).2.2=some n):progR s=progT s f t n:=by unfold progR progT;rw [h];simp only;rw [h2];simp only;rw [if_neg h3,h4]
set_option maxHeartbeats 8000000 in
set_option maxRecDepth 100000 in
theorem range_any (s:List UInt8) (w:World) (hv:Vars w) (_hs:s.length≤4294967000):Calls Tryz.prog 95 #[str s] w fun e w'=>e=.returned (rangeV (progR s))∧Gr w w':=by
 have hb:=Bk.new w 41 #[.int .i64 0,.int .i64 0] (0,0)
 have hG1:=Gr.al (Gr.refl w) (Obj.cells #[.int .i64 0,.int .i64 0] 41)
 have HV1:=hid (hv.gr hG1);have HVW:=hid hv;clear hv
 have l1:=trimP_len s [98,121,116,101,115,32]
 have l2:=cut_lenM (Lib.trimPrefix s [98,121,116,101,115,32]) [47]
 have l3:=cut_lenM (Lib.cut (Lib.trimPrefix s [98,121,116,101,115,32]) [47]).1 [45]
 have HCP:=hid (fun (w:World)=>m_cutPre s [98,121,116,101,115,32] w)
 have HC1:=hid (fun (w:World) (h:Ml w)=>m_cut (Lib.trimPrefix s [98,121,116,101,115,32]) [47] w h (by omega))
 have HC2:=hid (fun (w:World) (h:Ml w)=>m_cut (Lib.cut (Lib.trimPrefix s [98,121,116,101,115,32]) [47]).1 [45] w h (by omega))
 have HR1:=hid (fun h=>progR_f (s:=s) h)
 have HR2:=hid (fun f h h2=>progR_t (s:=s) (f:=f) h h2)
 have HR3:=hid (fun f t h h2 h3=>progR_g (s:=s) (f:=f) (t:=t) h h2 h3)
 have HR4:=hid (fun f t h h2 h3 h4=>progR_a (s:=s) (f:=f) (t:=t) h h2 h3 h4)
 have HR5:=hid (fun f t n h h2 h3 h4=>progR_n (s:=s) (f:=f) (t:=t) (n:=n) h h2 h3 h4)
 unfold partsR at HR1 HR2 HR3 HR4 HR5
 generalize Lib.trimPrefix s [98,121,116,101,115,32]=tp at *
 generalize [98,121,116,101,115,32].isPrefixOf s=tpb at *
 generalize Lib.cut (Lib.cut tp [47]).1 [45]=c2 at *
 generalize Lib.cut tp [47]=c1 at *
 obtain ⟨pe,pa,pb⟩:=c1
 obtain ⟨pf,pl,pc⟩:=c2
 simp only at *
 go_enter Tryz.func95,Tryz.ntmps95
 go_upto_region 1 with fail
 generalize w.alloc (Obj.cells #[.int .i64 0,.int .i64 0] 41)=w1 at *
 generalize hg:w.heap.size=g at *
 have HB:=hid hb;clear hb
 go_upto_region 2 with (go_at_call 85;refine (HCP.out _).mono ?_;rintro e w2 ⟨rfl,hG2⟩)
 go_upto_region 3 with (go_at_call 128;refine (HC1.out _ (HV1.out.gr hG2).ml).mono ?_;rintro e w3 ⟨rfl,hG3⟩)
 go_upto_region 4 with (go_at_call 128;refine (HC2.out _ ((HV1.out.gr hG2).gr hG3).ml).mono ?_;rintro e w4 ⟨rfl,hG4⟩)
 have hG14:=Gr.tr (Gr.tr hG2 hG3) hG4
 have HV4:=hid (HV1.out.gr hG14)
 have hGw4:=Gr.tr hG1 hG14
 have HB4:=hid (HB.out.gr hG14)
 clear hG2 hG3 hG4 HV1 HB HCP HC1 HC2 hG1 hG14
 go_upto_region 5 with fail
 have hbx:=Bk.new w4 41 #[.int .i64 0,.int .i64 0] (0,0)
 have hG5:=Gr.al (Gr.refl w4) (Obj.cells #[.int .i64 0,.int .i64 0] 41)
 have hne:g≠w4.heap.size:=by have:=HB4.out.lt;omega
 have HB5:=hid (HB4.out.al (Obj.cells #[.int .i64 0,.int .i64 0] 41))
 have HV5:=hid (HV4.out.gr hG5)
 have hGw5:=Gr.tr hGw4 hG5
 have hgx:w.heap.size≤w4.heap.size:=hGw4.size
 generalize w4.alloc (Obj.cells #[.int .i64 0,.int .i64 0] 41)=w5 at *
 generalize w4.heap.size=gx at *
 have HBX:=hid hbx
 have HX5:=HBX
 clear hbx hG5 hGw4 HB4 HV4 HBX HV5
 cases hq:okInt (Lib.parseIntB 64 pf) with
 | none=>
   have HR:=hid (HR1.out hq)
   clear HR1 HR2 HR3 HR4 HR5
   have HPI:=hid (fun (w:World) (hv:Vars w)=>parseInt_no pf hq w hv (by omega))
   clear hq
   go_wp2_with (go_at_call 129;refine (HPI.out _ (HVW.out.gr hGw5)).mono ?_;rintro e w6 ⟨xq,N,rfl,hG6⟩;have HB6:=hid (HB5.out.gr hG6);have HX6:=hid (HX5.out.gr hG6);obtain ⟨y0,y1⟩:=HX6.out.cells2;obtain ⟨f0,f1⟩:=HX6.out.free2;obtain ⟨v0,v1⟩:=HB6.out.cells2;obtain ⟨e0,e1⟩:=HB6.out.free2)
   obtain ⟨x0,x1⟩:=((HB6.out.far (p:=⟨gx,0,none⟩) hne (.int .i64 xq)).set2 (.int .i64 0) (.int .i64 0)).cells2
   exact bodyPost_ret (v:=rangeV none) (by simp [rangeV,results,Tryz.results95,go_sem,x0,x1]) rfl ⟨by rw [HR.out],Gr.st (Gr.st (Gr.st (Gr.tr hGw5 hG6) hgx _) (Nat.le_of_eq hg) _) (Nat.le_of_eq hg) _⟩
 | some f=>
   have HR2:=hid (HR2.out f hq)
   have HR3:=hid (fun t=>HR3.out f t hq)
   have HR4:=hid (fun t=>HR4.out f t hq)
   have HR5:=hid (fun t n=>HR5.out f t n hq)
   have HPI:=hid (fun (w:World)=>parseInt_ok pf _ hq w (by omega))
   have hbdf:=okInt_bounds hq
   clear hq
   go_upto_region 7 with (go_at_call 129;refine (HPI.out _).mono ?_;rintro e w6 ⟨rfl,hG6⟩;have HB6:=hid (HB5.out.gr hG6);have HX6:=hid (HX5.out.gr hG6);obtain ⟨y0,y1⟩:=HX6.out.cells2;obtain ⟨f0,f1⟩:=HX6.out.free2;obtain ⟨v0,v1⟩:=HB6.out.cells2;obtain ⟨e0,e1⟩:=HB6.out.free2)
   have hbx:=HX6.out.set 0 (.int .i64 f)
   simp only [List.setIfInBounds_toArray,List.set_cons_zero] at hbx
   have HX7:=hid hbx
   have HB7:=hid (HB6.out.far (p:=⟨gx,0,none⟩) hne (.int .i64 f))
   have hGw7:=Gr.st (Gr.tr hGw5 hG6) hgx (p:=⟨gx,0,none⟩) (.int .i64 f)
   generalize w6.setCell ⟨gx,0,none⟩ (.int .i64 f)=w7 at *
   clear y0 y1 f0 f1 v0 v1 e0 e1 hbx HB6 HX6 hG6 hGw5 HB5 HX5 HPI
   obtain ⟨w5,rfl⟩:∃w5:World,w5=w7:=⟨_,rfl⟩
   obtain ⟨hGw5,HB5,HX5⟩:Gr w w5∧Hid (Bk w5 g 41 #[.int .i64 0,.int .i64 0] (0,0))∧Hid (Bk w5 gx 41 #[.int .i64 f,.int .i64 0] (0,0)):=⟨hGw7,HB7,HX7⟩
   clear HB7 HX7 hGw7
   cases hq:okInt (Lib.parseIntB 64 pl) with
   | none=>
     have HR:=hid (HR2.out hq)
     clear HR1 HR2 HR3 HR4 HR5
     have HPI:=hid (fun (w:World) (hv:Vars w)=>parseInt_no pl hq w hv (by omega))
     clear hq
     go_wp2_with (go_at_call 129;refine (HPI.out _ (HVW.out.gr hGw5)).mono ?_;rintro e w6 ⟨xq,N,rfl,hG6⟩;have HB6:=hid (HB5.out.gr hG6);have HX6:=hid (HX5.out.gr hG6);obtain ⟨y0,y1⟩:=HX6.out.cells2;obtain ⟨f0,f1⟩:=HX6.out.free2;obtain ⟨v0,v1⟩:=HB6.out.cells2;obtain ⟨e0,e1⟩:=HB6.out.free2)
     obtain ⟨x0,x1⟩:=((HB6.out.far (p:=⟨gx,1,none⟩) hne (.int .i64 xq)).set2 (.int .i64 0) (.int .i64 0)).cells2
     exact bodyPost_ret (v:=rangeV none) (by simp [rangeV,results,Tryz.results95,go_sem,x0,x1]) rfl ⟨by rw [HR.out],Gr.st (Gr.st (Gr.st (Gr.tr hGw5 hG6) hgx _) (Nat.le_of_eq hg) _) (Nat.le_of_eq hg) _⟩
   | some t=>
     have HR3:=hid (HR3.out t hq)
     have HR4:=hid (HR4.out t hq)
     have HR5:=hid (fun n=>HR5.out t n hq)
     have HPI:=hid (fun (w:World)=>parseInt_ok pl _ hq w (by omega))
     have hbdt:=okInt_bounds hq
     clear hq
     go_upto_region 10 with (go_at_call 129;refine (HPI.out _).mono ?_;rintro e w6 ⟨rfl,hG6⟩;have HB6:=hid (HB5.out.gr hG6);have HX6:=hid (HX5.out.gr hG6);obtain ⟨y0,y1⟩:=HX6.out.cells2;obtain ⟨f0,f1⟩:=HX6.out.free2;obtain ⟨v0,v1⟩:=HB6.out.cells2;obtain ⟨e0,e1⟩:=HB6.out.free2)
     have hbx:=HX6.out.set 1 (.int .i64 t)
     simp only [List.setIfInBounds_toArray,List.set_cons_zero,List.set_cons_succ] at hbx
     have HX7:=hid hbx
     have HB7:=hid (HB6.out.far (p:=⟨gx,1,none⟩) hne (.int .i64 t))
     have hGw7:=Gr.st (Gr.tr hGw5 hG6) hgx (p:=⟨gx,1,none⟩) (.int .i64 t)
     generalize w6.setCell ⟨gx,1,none⟩ (.int .i64 t)=w7 at *
     clear y0 y1 f0 f1 v0 v1 e0 e1 hbx HB6 HX6 hG6 hGw5 HB5 HX5 HPI
     obtain ⟨w5,rfl⟩:∃w5:World,w5=w7:=⟨_,rfl⟩
     obtain ⟨hGw5,HB5,HX5⟩:Gr w w5∧Hid (Bk w5 g 41 #[.int .i64 0,.int .i64 0] (0,0))∧Hid (Bk w5 gx 41 #[.int .i64 f,.int .i64 t] (0,0)):=⟨hGw7,HB7,HX7⟩
     clear HB7 HX7 hGw7
     obtain ⟨y0,y1⟩:=HX5.out.cells2
     obtain ⟨f0,f1⟩:=HX5.out.free2
     by_cases hgt:4611686018427387903≤t
     ·have HR:=hid (HR3.out hgt)
      have kg:decide (4611686018427387903≤t)=true:=decide_eq_true hgt
      obtain ⟨v0,v1⟩:=HB5.out.cells2
      obtain ⟨e0,e1⟩:=HB5.out.free2
      go_wp2_with fail
      obtain ⟨x0,x1⟩:=(HB5.out.set2 (.int .i64 0) (.int .i64 0)).cells2
      exact bodyPost_ret (v:=rangeV none) (by simp [rangeV,results,Tryz.results95,go_sem,x0,x1]) rfl ⟨by rw [HR.out],Gr.st (Gr.st hGw5 (Nat.le_of_eq hg) _) (Nat.le_of_eq hg) _⟩
     ·have HR4:=hid (HR4.out (Int.not_le.1 hgt))
      have HR5:=hid (fun n=>HR5.out n (Int.not_le.1 hgt))
      have kg:decide (4611686018427387903≤t)=false:=decide_eq_false hgt
      go_upto_region 13 with fail
      have hbx:=HX5.out.set 1 (.int .i64 (t+1))
      simp only [List.setIfInBounds_toArray,List.set_cons_zero,List.set_cons_succ] at hbx
      have HX7:=hid hbx
      have HB7:=hid (HB5.out.far (p:=⟨gx,1,none⟩) hne (.int .i64 (t+1)))
      have hGw7:=Gr.st hGw5 hgx (p:=⟨gx,1,none⟩) (.int .i64 (t+1))
      generalize w5.setCell ⟨gx,1,none⟩ (.int .i64 (t+1))=w7 at *
      clear y0 y1 f0 f1 hbx HB5 HX5 hGw5
      obtain ⟨w5,rfl⟩:∃w5:World,w5=w7:=⟨_,rfl⟩
      obtain ⟨hGw5,HB5,HX5⟩:Gr w w5∧Hid (Bk w5 g 41 #[.int .i64 0,.int .i64 0] (0,0))∧Hid (Bk w5 gx 41 #[.int .i64 f,.int .i64 (t+1)] (0,0)):=⟨hGw7,HB7,HX7⟩
      clear HB7 HX7 hGw7
      by_cases hst:pa=[42]
      ·have kst:(pa==[42])=true:=by simp [hst]
       have HR6:=hid (HR5.out (-1) (by unfold totP;rw [if_pos hst]))
       clear HR1 HR2 HR3 HR4 HR5 hst
       have HC:=hid (fun (w:World) (hp:Pw w)=>content_any f (t+1) (-1) w hp (by omega) (by omega) (by omega))
       obtain ⟨y0,y1⟩:=HX5.out.cells2
       by_cases hc0:contentL f (t+1) (-1)=[]
       ·have kc:(contentL f (t+1) (-1)==[])=true:=by simp [hc0]
        have ke:(contentL f (t+1) (-1)).isEmpty=true:=by simp [hc0]
        have HR:=hid (show progR s=none from by rw [HR6.out];unfold progT;rw [if_pos hc0])
        clear hc0 HR6
        go_wp2_with (go_at_call 130;refine (HC.out _ (HVW.out.gr hGw5).pw).mono ?_;rintro e w6 ⟨rfl,hG6⟩;have HB6:=hid (HB5.out.gr hG6);obtain ⟨v0,v1⟩:=HB6.out.cells2;obtain ⟨e0,e1⟩:=HB6.out.free2)
        obtain ⟨x0,x1⟩:=(HB6.out.set2 (.int .i64 0) (.int .i64 0)).cells2
        exact bodyPost_ret (v:=rangeV none) (by simp [rangeV,results,Tryz.results95,go_sem,x0,x1]) rfl ⟨by rw [HR.out],Gr.st (Gr.st (Gr.tr hGw5 hG6) (Nat.le_of_eq hg) _) (Nat.le_of_eq hg) _⟩
       ·have kc:(contentL f (t+1) (-1)==[])=false:=by simpa using hc0
        have ke:(contentL f (t+1) (-1)).isEmpty=false:=by simpa using hc0
        by_cases hcs:contentL f (t+1) (-1)=s
        ·have ks:(contentL f (t+1) (-1)==s)=true:=by simpa using hcs
         have HR:=hid (show progR s=some (f,t+1,(-1)) from by rw [HR6.out];unfold progT;rw [if_neg hc0,if_pos hcs])
         clear hc0 hcs HR6
         go_wp2_with (go_at_call 130;refine (HC.out _ (HVW.out.gr hGw5).pw).mono ?_;rintro e w6 ⟨rfl,hG6⟩;have HB6:=hid (HB5.out.gr hG6);obtain ⟨v0,v1⟩:=HB6.out.cells2;obtain ⟨e0,e1⟩:=HB6.out.free2;have y0:=hG6.cell y0;have y1:=hG6.cell y1)
         obtain ⟨x0,x1⟩:=(HB6.out.set2 (.int .i64 f) (.int .i64 (t+1))).cells2
         exact bodyPost_ret (v:=rangeV (some (f,t+1,(-1)))) (by simp [rangeV,results,Tryz.results95,go_sem,x0,x1]) rfl ⟨by rw [HR.out],Gr.st (Gr.st (Gr.tr hGw5 hG6) (Nat.le_of_eq hg) _) (Nat.le_of_eq hg) _⟩
        ·have ks:(contentL f (t+1) (-1)==s)=false:=by simpa using hcs
         have HR:=hid (show progR s=none from by rw [HR6.out];unfold progT;rw [if_neg hc0,if_neg hcs])
         clear hc0 hcs HR6
         go_wp2_with (go_at_call 130;refine (HC.out _ (HVW.out.gr hGw5).pw).mono ?_;rintro e w6 ⟨rfl,hG6⟩;have HB6:=hid (HB5.out.gr hG6);obtain ⟨v0,v1⟩:=HB6.out.cells2;obtain ⟨e0,e1⟩:=HB6.out.free2)
         obtain ⟨x0,x1⟩:=(HB6.out.set2 (.int .i64 0) (.int .i64 0)).cells2
         exact bodyPost_ret (v:=rangeV none) (by simp [rangeV,results,Tryz.results95,go_sem,x0,x1]) rfl ⟨by rw [HR.out],Gr.st (Gr.st (Gr.tr hGw5 hG6) (Nat.le_of_eq hg) _) (Nat.le_of_eq hg) _⟩
      ·have kst:(pa==[42])=false:=by simpa using hst
       cases hq:okInt (Lib.parseIntB 64 pa) with
       | none=>
         have HR:=hid (HR4.out (by unfold totP;rw [if_neg hst,hq]))
         clear HR1 HR2 HR3 HR4 HR5 hst
         have HPI:=hid (fun (w:World) (hv:Vars w)=>parseInt_no pa hq w hv (by omega))
         clear hq
         go_wp2_with (go_at_call 129;refine (HPI.out _ (HVW.out.gr hGw5)).mono ?_;rintro e w6 ⟨xq,N,rfl,hG6⟩;have HB6:=hid (HB5.out.gr hG6);have HX6:=hid (HX5.out.gr hG6);obtain ⟨y0,y1⟩:=HX6.out.cells2;obtain ⟨f0,f1⟩:=HX6.out.free2;obtain ⟨v0,v1⟩:=HB6.out.cells2;obtain ⟨e0,e1⟩:=HB6.out.free2)
         obtain ⟨x0,x1⟩:=(HB6.out.set2 (.int .i64 0) (.int .i64 0)).cells2
         exact bodyPost_ret (v:=rangeV none) (by simp [rangeV,results,Tryz.results95,go_sem,x0,x1]) rfl ⟨by rw [HR.out],Gr.st (Gr.st (Gr.tr hGw5 hG6) (Nat.le_of_eq hg) _) (Nat.le_of_eq hg) _⟩
       | some n=>
         have HR6:=hid (HR5.out n (by unfold totP;rw [if_neg hst,hq]))
         clear HR1 HR2 HR3 HR4 HR5 hst
         have HPI:=hid (fun (w:World)=>parseInt_ok pa _ hq w (by omega))
         have hbdn:=okInt_bounds hq
         clear hq
         go_upto_region 16 with (go_at_call 129;refine (HPI.out _).mono ?_;rintro e w6 ⟨rfl,hG6⟩)
         have hGw7:=Gr.tr hGw5 hG6
         have HB7:=hid (HB5.out.gr hG6)
         have HX7:=hid (HX5.out.gr hG6)
         clear HB5 HX5 hGw5 HPI hG6
         obtain ⟨w5,rfl⟩:∃w5:World,w5=w6:=⟨_,rfl⟩
         obtain ⟨hGw5,HB5,HX5⟩:Gr w w5∧Hid (Bk w5 g 41 #[.int .i64 0,.int .i64 0] (0,0))∧Hid (Bk w5 gx 41 #[.int .i64 f,.int .i64 (t+1)] (0,0)):=⟨hGw7,HB7,HX7⟩
         clear HB7 HX7 hGw7
         have HC:=hid (fun (w:World) (hp:Pw w)=>content_any f (t+1) n w hp (by omega) (by omega) (by omega))
         obtain ⟨y0,y1⟩:=HX5.out.cells2
         by_cases hc0:contentL f (t+1) n=[]
         ·have kc:(contentL f (t+1) n==[])=true:=by simp [hc0]
          have ke:(contentL f (t+1) n).isEmpty=true:=by simp [hc0]
          have HR:=hid (show progR s=none from by rw [HR6.out];unfold progT;rw [if_pos hc0])
          clear hc0 HR6
          go_wp2_with (go_at_call 130;refine (HC.out _ (HVW.out.gr hGw5).pw).mono ?_;rintro e w6 ⟨rfl,hG6⟩;have HB6:=hid (HB5.out.gr hG6);obtain ⟨v0,v1⟩:=HB6.out.cells2;obtain ⟨e0,e1⟩:=HB6.out.free2)
          obtain ⟨x0,x1⟩:=(HB6.out.set2 (.int .i64 0) (.int .i64 0)).cells2
          exact bodyPost_ret (v:=rangeV none) (by simp [rangeV,results,Tryz.results95,go_sem,x0,x1]) rfl ⟨by rw [HR.out],Gr.st (Gr.st (Gr.tr hGw5 hG6) (Nat.le_of_eq hg) _) (Nat.le_of_eq hg) _⟩
         ·have kc:(contentL f (t+1) n==[])=false:=by simpa using hc0
          have ke:(contentL f (t+1) n).isEmpty=false:=by simpa using hc0
          by_cases hcs:contentL f (t+1) n=s
          ·have ks:(contentL f (t+1) n==s)=true:=by simpa using hcs
           have HR:=hid (show progR s=some (f,t+1,n) from by rw [HR6.out];unfold progT;rw [if_neg hc0,if_pos hcs])
           clear hc0 hcs HR6
           go_wp2_with (go_at_call 130;refine (HC.out _ (HVW.out.gr hGw5).pw).mono ?_;rintro e w6 ⟨rfl,hG6⟩;have HB6:=hid (HB5.out.gr hG6);obtain ⟨v0,v1⟩:=HB6.out.cells2;obtain ⟨e0,e1⟩:=HB6.out.free2;have y0:=hG6.cell y0;have y1:=hG6.cell y1)
           obtain ⟨x0,x1⟩:=(HB6.out.set2 (.int .i64 f) (.int .i64 (t+1))).cells2
           exact bodyPost_ret (v:=rangeV (some (f,t+1,n))) (by simp [rangeV,results,Tryz.results95,go_sem,x0,x1]) rfl ⟨by rw [HR.out],Gr.st (Gr.st (Gr.tr hGw5 hG6) (Nat.le_of_eq hg) _) (Nat.le_of_eq hg) _⟩
          ·have ks:(contentL f (t+1) n==s)=false:=by simpa using hcs
           have HR:=hid (show progR s=none from by rw [HR6.out];unfold progT;rw [if_neg hc0,if_neg hcs])
           clear hc0 hcs HR6
           go_wp2_with (go_at_call 130;refine (HC.out _ (HVW.out.gr hGw5).pw).mono ?_;rintro e w6 ⟨rfl,hG6⟩;have HB6:=hid (HB5.out.gr hG6);obtain ⟨v0,v1⟩:=HB6.out.cells2;obtain ⟨e0,e1⟩:=HB6.out.free2)
           obtain ⟨x0,x1⟩:=(HB6.out.set2 (.int .i64 0) (.int .i64 0)).cells2
           exact bodyPost_ret (v:=rangeV none) (by simp [rangeV,results,Tryz.results95,go_sem,x0,x1]) rfl ⟨by rw [HR.out],Gr.st (Gr.st (Gr.tr hGw5 hG6) (Nat.le_of_eq hg) _) (Nat.le_of_eq hg) _⟩
end Go.Proofs.YtgfckbhkgggkeaaGreatDoor
/- XMulti5 -/
namespace Go.Proofs.YtgfckbhkgggkeaaGreatDoor
open Lib (hid)
open Go.RowKit
theorem bound_len {l:List UInt8} (h:l.length < 1∨70 < l.length):boundB l=false:=by
 unfold boundB
 rcases h with h | h
 ·rw [decide_eq_false (show ¬1≤l.length by omega)];simp
 ·rw [decide_eq_false (show ¬l.length≤70 by omega)];simp
theorem bound_no1 {l:List UInt8} (h:l.all letterC=false):boundB l=false:=by unfold boundB;rw [h];rfl
theorem bound_yes {l:List UInt8} (h:l.all letterC=true) (h1:1≤l.length) (h2:l.length≤70):boundB l=true:=by unfold boundB;rw [h,decide_eq_true h1,decide_eq_true h2];rfl
set_option maxHeartbeats 4000000 in
theorem bounds_any (l:List UInt8) (w:World) (_hl:l.length≤9223372036854775800):Calls Tryz.prog 67 #[str l] w fun e w'=>e=.returned (.bool (boundB l))∧Gr w w':=by
 by_cases hs:l.length < 1
 ·have d1:decide ((l.length:Int) < 1)=true:=decide_eq_true (by omega)
  go_enter Tryz.func67,Tryz.ntmps67
  go_wp2_with fail
  go_ret
  exact ⟨ret_bool (bound_len (by omega)).symm,Gr.refl _⟩
 have d1:decide ((l.length:Int) < 1)=false:=decide_eq_false (by omega)
 by_cases hs2:70 < l.length
 ·have d2:decide (70 < (l.length:Int))=true:=decide_eq_true (by omega)
  go_enter Tryz.func67,Tryz.ntmps67
  go_wp2_with fail
  go_ret
  exact ⟨ret_bool (bound_len (by omega)).symm,Gr.refl _⟩
 have d2:decide (70 < (l.length:Int))=false:=decide_eq_false (by omega)
 go_enter Tryz.func67,Tryz.ntmps67
 go_wp2_with fail
 go_loopw [2,3,4,15] (fun x0 x1 x2 i wr=>∃k:Nat,k≤l.length∧i=.int .i64 k∧Gr w wr∧(l.take k).all letterC=true) (fun _ _ _ i _=>l.length-(intOf i).toNat)
 case atStart=>exact ⟨0,Nat.zero_le _,rfl,Gr.refl _,rfl⟩
 case round=>
  obtain ⟨k,hk,rfl,hG,hE⟩:=hrel
  have HE:=hid hE;clear hE
  by_cases hlt:k < l.length
  ·have hx:=l[k].toNat_lt
   rcases (show (48≤l[k].toNat∧l[k].toNat≤57)∨(65≤l[k].toNat∧l[k].toNat≤90)∨(97≤l[k].toNat∧l[k].toNat≤122)∨(0≤l[k].toNat∧l[k].toNat≤47)∨(58≤l[k].toNat∧l[k].toNat≤64)∨(91≤l[k].toNat∧l[k].toNat≤96)∨(123≤l[k].toNat∧l[k].toNat≤255) by omega) with ⟨h1,h2⟩ | ⟨h1,h2⟩ | ⟨h1,h2⟩ | ⟨h1,h2⟩ | ⟨h1,h2⟩ | ⟨h1,h2⟩ | ⟨h1,h2⟩
   ·have ddlt48:decide (((l[k].toNat:Nat):Int) < 48)=false:=decide_eq_false (by omega)
    have ddgt57:decide (57 < ((l[k].toNat:Nat):Int))=false:=decide_eq_false (by omega)
    have ddlt97:decide (((l[k].toNat:Nat):Int) < 97)=true:=decide_eq_true (by omega)
    have ddgt122:decide (122 < ((l[k].toNat:Nat):Int))=false:=decide_eq_false (by omega)
    have ddlt65:decide (((l[k].toNat:Nat):Int) < 65)=true:=decide_eq_true (by omega)
    have ddgt90:decide (90 < ((l[k].toNat:Nat):Int))=false:=decide_eq_false (by omega)
    have hc:=hid (tokC_letter l[k] (by omega))
    clear hx
    go_wp2_with fail
    exact ⟨⟨k+1,by omega,by go_num,hG,all_take_succ _ l k hlt HE.out hc.out⟩,by simp [intOf];omega⟩
   ·have ddlt48:decide (((l[k].toNat:Nat):Int) < 48)=false:=decide_eq_false (by omega)
    have ddgt57:decide (57 < ((l[k].toNat:Nat):Int))=true:=decide_eq_true (by omega)
    have ddlt97:decide (((l[k].toNat:Nat):Int) < 97)=true:=decide_eq_true (by omega)
    have ddgt122:decide (122 < ((l[k].toNat:Nat):Int))=false:=decide_eq_false (by omega)
    have ddlt65:decide (((l[k].toNat:Nat):Int) < 65)=false:=decide_eq_false (by omega)
    have ddgt90:decide (90 < ((l[k].toNat:Nat):Int))=false:=decide_eq_false (by omega)
    have hc:=hid (tokC_letter l[k] (by omega))
    clear hx
    go_wp2_with fail
    exact ⟨⟨k+1,by omega,by go_num,hG,all_take_succ _ l k hlt HE.out hc.out⟩,by simp [intOf];omega⟩
   ·have ddlt48:decide (((l[k].toNat:Nat):Int) < 48)=false:=decide_eq_false (by omega)
    have ddgt57:decide (57 < ((l[k].toNat:Nat):Int))=true:=decide_eq_true (by omega)
    have ddlt97:decide (((l[k].toNat:Nat):Int) < 97)=false:=decide_eq_false (by omega)
    have ddgt122:decide (122 < ((l[k].toNat:Nat):Int))=false:=decide_eq_false (by omega)
    have ddlt65:decide (((l[k].toNat:Nat):Int) < 65)=false:=decide_eq_false (by omega)
    have ddgt90:decide (90 < ((l[k].toNat:Nat):Int))=true:=decide_eq_true (by omega)
    have hc:=hid (tokC_letter l[k] (by omega))
    clear hx
    go_wp2_with fail
    exact ⟨⟨k+1,by omega,by go_num,hG,all_take_succ _ l k hlt HE.out hc.out⟩,by simp [intOf];omega⟩
   ·have ddlt48:decide (((l[k].toNat:Nat):Int) < 48)=true:=decide_eq_true (by omega)
    have ddgt57:decide (57 < ((l[k].toNat:Nat):Int))=false:=decide_eq_false (by omega)
    have ddlt97:decide (((l[k].toNat:Nat):Int) < 97)=true:=decide_eq_true (by omega)
    have ddgt122:decide (122 < ((l[k].toNat:Nat):Int))=false:=decide_eq_false (by omega)
    have ddlt65:decide (((l[k].toNat:Nat):Int) < 65)=true:=decide_eq_true (by omega)
    have ddgt90:decide (90 < ((l[k].toNat:Nat):Int))=false:=decide_eq_false (by omega)
    have hc:=hid (letterC_no l[k] (by omega))
    clear hx
    go_wp2_with fail
    go_ret
    exact ⟨ret_bool (bound_no1 (all_no _ l k hlt hc.out)).symm,hG⟩
   ·have ddlt48:decide (((l[k].toNat:Nat):Int) < 48)=false:=decide_eq_false (by omega)
    have ddgt57:decide (57 < ((l[k].toNat:Nat):Int))=true:=decide_eq_true (by omega)
    have ddlt97:decide (((l[k].toNat:Nat):Int) < 97)=true:=decide_eq_true (by omega)
    have ddgt122:decide (122 < ((l[k].toNat:Nat):Int))=false:=decide_eq_false (by omega)
    have ddlt65:decide (((l[k].toNat:Nat):Int) < 65)=true:=decide_eq_true (by omega)
    have ddgt90:decide (90 < ((l[k].toNat:Nat):Int))=false:=decide_eq_false (by omega)
    have hc:=hid (letterC_no l[k] (by omega))
    clear hx
    go_wp2_with fail
    go_ret
    exact ⟨ret_bool (bound_no1 (all_no _ l k hlt hc.out)).symm,hG⟩
   ·have ddlt48:decide (((l[k].toNat:Nat):Int) < 48)=false:=decide_eq_false (by omega)
    have ddgt57:decide (57 < ((l[k].toNat:Nat):Int))=true:=decide_eq_true (by omega)
    have ddlt97:decide (((l[k].toNat:Nat):Int) < 97)=true:=decide_eq_true (by omega)
    have ddgt122:decide (122 < ((l[k].toNat:Nat):Int))=false:=decide_eq_false (by omega)
    have ddlt65:decide (((l[k].toNat:Nat):Int) < 65)=false:=decide_eq_false (by omega)
    have ddgt90:decide (90 < ((l[k].toNat:Nat):Int))=true:=decide_eq_true (by omega)
    have hc:=hid (letterC_no l[k] (by omega))
    clear hx
    go_wp2_with fail
    go_ret
    exact ⟨ret_bool (bound_no1 (all_no _ l k hlt hc.out)).symm,hG⟩
   ·have ddlt48:decide (((l[k].toNat:Nat):Int) < 48)=false:=decide_eq_false (by omega)
    have ddgt57:decide (57 < ((l[k].toNat:Nat):Int))=true:=decide_eq_true (by omega)
    have ddlt97:decide (((l[k].toNat:Nat):Int) < 97)=false:=decide_eq_false (by omega)
    have ddgt122:decide (122 < ((l[k].toNat:Nat):Int))=true:=decide_eq_true (by omega)
    have ddlt65:decide (((l[k].toNat:Nat):Int) < 65)=false:=decide_eq_false (by omega)
    have ddgt90:decide (90 < ((l[k].toNat:Nat):Int))=true:=decide_eq_true (by omega)
    have hc:=hid (letterC_no l[k] (by omega))
    clear hx
    go_wp2_with fail
    go_ret
    exact ⟨ret_bool (bound_no1 (all_no _ l k hlt hc.out)).symm,hG⟩
  ·go_wp2_with fail
   go_ret
   exact ⟨ret_bool (bound_yes (all_end _ l k hlt HE.out) (by omega) (by omega)).symm,hG⟩
set_option maxHeartbeats 4000000 in
theorem refBounds_any (l:List UInt8) (w:World) (_hl:l.length≤9223372036854775800):Calls Tryz.prog 55 #[str l] w fun e w'=>e=.returned (.bool (boundB l))∧Gr w w':=by
 go_enter Tryz.func55,Tryz.ntmps55
 go_wp2_with fail
 go_loopw [2,4,3] (fun x0 x1 i wr=>∃k:Nat,k≤l.length∧i=.int .i64 k∧Gr w wr∧(l.take k).all letterC=true) (fun _ _ i _=>l.length-(intOf i).toNat)
 case atStart=>exact ⟨0,Nat.zero_le _,rfl,Gr.refl _,rfl⟩
 case round=>
  obtain ⟨k,hk,rfl,hG,hE⟩:=hrel
  have HE:=hid hE;clear hE
  by_cases hlt:k < l.length
  ·have hx:=l[k].toNat_lt
   rcases (show (48≤l[k].toNat∧l[k].toNat≤57)∨(65≤l[k].toNat∧l[k].toNat≤90)∨(97≤l[k].toNat∧l[k].toNat≤122)∨(0≤l[k].toNat∧l[k].toNat≤47)∨(58≤l[k].toNat∧l[k].toNat≤64)∨(91≤l[k].toNat∧l[k].toNat≤96)∨(123≤l[k].toNat∧l[k].toNat≤255) by omega) with ⟨h1,h2⟩ | ⟨h1,h2⟩ | ⟨h1,h2⟩ | ⟨h1,h2⟩ | ⟨h1,h2⟩ | ⟨h1,h2⟩ | ⟨h1,h2⟩
   ·have ddge48:decide (48≤((l[k].toNat:Nat):Int))=true:=decide_eq_true (by omega)
    have ddle57:decide (((l[k].toNat:Nat):Int)≤57)=true:=decide_eq_true (by omega)
    have ddge65:decide (65≤((l[k].toNat:Nat):Int))=false:=decide_eq_false (by omega)
    have ddle90:decide (((l[k].toNat:Nat):Int)≤90)=true:=decide_eq_true (by omega)
    have ddge97:decide (97≤((l[k].toNat:Nat):Int))=false:=decide_eq_false (by omega)
    have ddle122:decide (((l[k].toNat:Nat):Int)≤122)=true:=decide_eq_true (by omega)
    have hc:=hid (tokC_letter l[k] (by omega))
    clear hx
    go_wp2_with fail
    exact ⟨⟨k+1,by omega,by go_num,hG,all_take_succ _ l k hlt HE.out hc.out⟩,by simp [intOf];omega⟩
   ·have ddge48:decide (48≤((l[k].toNat:Nat):Int))=true:=decide_eq_true (by omega)
    have ddle57:decide (((l[k].toNat:Nat):Int)≤57)=false:=decide_eq_false (by omega)
    have ddge65:decide (65≤((l[k].toNat:Nat):Int))=true:=decide_eq_true (by omega)
    have ddle90:decide (((l[k].toNat:Nat):Int)≤90)=true:=decide_eq_true (by omega)
    have ddge97:decide (97≤((l[k].toNat:Nat):Int))=false:=decide_eq_false (by omega)
    have ddle122:decide (((l[k].toNat:Nat):Int)≤122)=true:=decide_eq_true (by omega)
    have hc:=hid (tokC_letter l[k] (by omega))
    clear hx
    go_wp2_with fail
    exact ⟨⟨k+1,by omega,by go_num,hG,all_take_succ _ l k hlt HE.out hc.out⟩,by simp [intOf];omega⟩
   ·have ddge48:decide (48≤((l[k].toNat:Nat):Int))=true:=decide_eq_true (by omega)
    have ddle57:decide (((l[k].toNat:Nat):Int)≤57)=false:=decide_eq_false (by omega)
    have ddge65:decide (65≤((l[k].toNat:Nat):Int))=true:=decide_eq_true (by omega)
    have ddle90:decide (((l[k].toNat:Nat):Int)≤90)=false:=decide_eq_false (by omega)
    have ddge97:decide (97≤((l[k].toNat:Nat):Int))=true:=decide_eq_true (by omega)
    have ddle122:decide (((l[k].toNat:Nat):Int)≤122)=true:=decide_eq_true (by omega)
    have hc:=hid (tokC_letter l[k] (by omega))
    clear hx
    go_wp2_with fail
    exact ⟨⟨k+1,by omega,by go_num,hG,all_take_succ _ l k hlt HE.out hc.out⟩,by simp [intOf];omega⟩
   ·have ddge48:decide (48≤((l[k].toNat:Nat):Int))=false:=decide_eq_false (by omega)
    have ddle57:decide (((l[k].toNat:Nat):Int)≤57)=true:=decide_eq_true (by omega)
    have ddge65:decide (65≤((l[k].toNat:Nat):Int))=false:=decide_eq_false (by omega)
    have ddle90:decide (((l[k].toNat:Nat):Int)≤90)=true:=decide_eq_true (by omega)
    have ddge97:decide (97≤((l[k].toNat:Nat):Int))=false:=decide_eq_false (by omega)
    have ddle122:decide (((l[k].toNat:Nat):Int)≤122)=true:=decide_eq_true (by omega)
    have hc:=hid (letterC_no l[k] (by omega))
    clear hx
    go_wp2_with fail
    go_ret
    exact ⟨ret_bool (bound_no1 (all_no _ l k hlt hc.out)).symm,hG⟩
   ·have ddge48:decide (48≤((l[k].toNat:Nat):Int))=true:=decide_eq_true (by omega)
    have ddle57:decide (((l[k].toNat:Nat):Int)≤57)=false:=decide_eq_false (by omega)
    have ddge65:decide (65≤((l[k].toNat:Nat):Int))=false:=decide_eq_false (by omega)
    have ddle90:decide (((l[k].toNat:Nat):Int)≤90)=true:=decide_eq_true (by omega)
    have ddge97:decide (97≤((l[k].toNat:Nat):Int))=false:=decide_eq_false (by omega)
    have ddle122:decide (((l[k].toNat:Nat):Int)≤122)=true:=decide_eq_true (by omega)
    have hc:=hid (letterC_no l[k] (by omega))
    clear hx
    go_wp2_with fail
    go_ret
    exact ⟨ret_bool (bound_no1 (all_no _ l k hlt hc.out)).symm,hG⟩
   ·have ddge48:decide (48≤((l[k].toNat:Nat):Int))=true:=decide_eq_true (by omega)
    have ddle57:decide (((l[k].toNat:Nat):Int)≤57)=false:=decide_eq_false (by omega)
    have ddge65:decide (65≤((l[k].toNat:Nat):Int))=true:=decide_eq_true (by omega)
    have ddle90:decide (((l[k].toNat:Nat):Int)≤90)=false:=decide_eq_false (by omega)
    have ddge97:decide (97≤((l[k].toNat:Nat):Int))=false:=decide_eq_false (by omega)
    have ddle122:decide (((l[k].toNat:Nat):Int)≤122)=true:=decide_eq_true (by omega)
    have hc:=hid (letterC_no l[k] (by omega))
    clear hx
    go_wp2_with fail
    go_ret
    exact ⟨ret_bool (bound_no1 (all_no _ l k hlt hc.out)).symm,hG⟩
   ·have ddge48:decide (48≤((l[k].toNat:Nat):Int))=true:=decide_eq_true (by omega)
    have ddle57:decide (((l[k].toNat:Nat):Int)≤57)=false:=decide_eq_false (by omega)
    have ddge65:decide (65≤((l[k].toNat:Nat):Int))=true:=decide_eq_true (by omega)
    have ddle90:decide (((l[k].toNat:Nat):Int)≤90)=false:=decide_eq_false (by omega)
    have ddge97:decide (97≤((l[k].toNat:Nat):Int))=true:=decide_eq_true (by omega)
    have ddle122:decide (((l[k].toNat:Nat):Int)≤122)=false:=decide_eq_false (by omega)
    have hc:=hid (letterC_no l[k] (by omega))
    clear hx
    go_wp2_with fail
    go_ret
    exact ⟨ret_bool (bound_no1 (all_no _ l k hlt hc.out)).symm,hG⟩
  ·have hA:=hid (all_end _ l k hlt HE.out)
   by_cases hs:l.length < 1
   ·have d1:decide (1≤(l.length:Int))=false:=decide_eq_false (by omega)
    go_wp2_with fail
    go_ret
    exact ⟨ret_bool (bound_len (by omega)).symm,hG⟩
   ·have d1:decide (1≤(l.length:Int))=true:=decide_eq_true (by omega)
    by_cases hs2:70 < l.length
    ·have d2:decide ((l.length:Int)≤70)=false:=decide_eq_false (by omega)
     go_wp2_with fail
     go_ret
     exact ⟨ret_bool (bound_len (by omega)).symm,hG⟩
    ·have d2:decide ((l.length:Int)≤70)=true:=decide_eq_true (by omega)
     go_wp2_with fail
     go_ret
     exact ⟨ret_bool (bound_yes hA.out (by omega) (by omega)).symm,hG⟩
theorem kind_name {n s:List UInt8} (h1:token n=true) (h2:n.length≤200):right (n,s)=right ([97],s):=by
 unfold right;rw [h1,decide_eq_true h2];rfl
theorem kind_len {l:List UInt8} (h:l.length < 1∨100 < l.length):kindB l=false:=by
 unfold kindB
 rcases h with h | h
 ·rw [decide_eq_false (show ¬1≤l.length by omega)];simp
 ·rw [decide_eq_false (show ¬l.length≤100 by omega)];simp
theorem kind_in {l:List UInt8} (h1:1≤l.length) (h2:l.length≤100):kindB l=right ([97],l):=by unfold kindB;rw [decide_eq_true h1,decide_eq_true h2];rfl
set_option maxHeartbeats 2000000 in
theorem kindly_any (l:List UInt8) (w:World) (_hl:l.length≤9223372036854775800):Calls Tryz.prog 94 #[str l] w fun e w'=>e=.returned (.bool (kindB l))∧Gr w w':=by
 have HR:=hid (fun (w:World)=>right_any [67,111,110,116,101,110,116,45,84,121,112,101] l w (by decide) (by omega))
 rw [kind_name (n:=[67,111,110,116,101,110,116,45,84,121,112,101]) (by decide) (by decide)] at HR
 by_cases hs:l.length < 1
 ·have d1:decide (1≤(l.length:Int))=false:=decide_eq_false (by omega)
  go_enter Tryz.func94,Tryz.ntmps94
  go_wp2_with fail
  go_ret
  exact ⟨ret_bool (kind_len (by omega)).symm,Gr.refl _⟩
 ·have d1:decide (1≤(l.length:Int))=true:=decide_eq_true (by omega)
  by_cases hs2:100 < l.length
  ·have d2:decide ((l.length:Int)≤100)=false:=decide_eq_false (by omega)
   go_enter Tryz.func94,Tryz.ntmps94
   go_wp2_with fail
   go_ret
   exact ⟨ret_bool (kind_len (by omega)).symm,Gr.refl _⟩
  ·have d2:decide ((l.length:Int)≤100)=true:=decide_eq_true (by omega)
   go_enter Tryz.func94,Tryz.ntmps94
   go_wp2_with (go_at_call 127;refine (HR.out _).mono ?_;rintro e w2 ⟨rfl,hG2⟩)
   go_ret
   exact ⟨ret_bool (kind_in (by omega) (by omega)).symm,hG2⟩
set_option maxHeartbeats 2000000 in
theorem refKinds_any (l:List UInt8) (w:World) (_hl:l.length≤9223372036854775800):Calls Tryz.prog 58 #[str l] w fun e w'=>e=.returned (.bool (kindB l))∧Gr w w':=by
 have HR:=hid (fun (w:World)=>refRight_any [97] l w (by decide) (by omega))
 rw [kind_name (n:=[97]) (by decide) (by decide)] at HR
 by_cases hs:l.length < 1
 ·have d1:decide (1≤(l.length:Int))=false:=decide_eq_false (by omega)
  go_enter Tryz.func58,Tryz.ntmps58
  go_wp2_with fail
  go_ret
  exact ⟨ret_bool (kind_len (by omega)).symm,Gr.refl _⟩
 ·have d1:decide (1≤(l.length:Int))=true:=decide_eq_true (by omega)
  by_cases hs2:100 < l.length
  ·have d2:decide ((l.length:Int)≤100)=false:=decide_eq_false (by omega)
   go_enter Tryz.func58,Tryz.ntmps58
   go_wp2_with fail
   go_ret
   exact ⟨ret_bool (kind_len (by omega)).symm,Gr.refl _⟩
  ·have d2:decide ((l.length:Int)≤100)=true:=decide_eq_true (by omega)
   go_enter Tryz.func58,Tryz.ntmps58
   go_wp2_with (go_at_call 81;refine (HR.out _).mono ?_;rintro e w2 ⟨rfl,hG2⟩)
   go_ret
   exact ⟨ret_bool (kind_in (by omega) (by omega)).symm,hG2⟩
theorem lnL_lineAt (s:List UInt8):lnL s=if lineAt s 0 < 0 then none else some (s.take (lineAt s 0).toNat,s.drop ((lineAt s 0).toNat+2)):=by
 unfold lnL lineAt
 rw [List.drop_zero]
 cases crlf s with
 | none=>simp
 | some i=>simp
def lnV (s:List UInt8):Value:=match lnL s with
 | none=>.tuple #[str [],str [],.bool false]
 | some x=>.tuple #[str x.1,str x.2,.bool true]
set_option maxHeartbeats 2000000 in
theorem refLine11_any (l:List UInt8) (w:World) (_hl:l.length≤9223372036854775000):Calls Tryz.prog 56 #[str l] w fun e w'=>e=.returned (lnV l)∧Gr w w':=by
 have HL:=hid (lnL_lineAt l)
 go_enter Tryz.func56,Tryz.ntmps56
 go_wp2_with fail
 go_loopw [2,3,4,5] (fun r2 r3 r4 j wr=>∃k:Nat,k≤l.length∧j=.int .i64 k∧Gr w wr∧lineAt l k=lineAt l 0) (fun _ _ _ j _=>l.length-(intOf j).toNat)
 case atStart=>exact ⟨0,Nat.zero_le _,rfl,Gr.refl _,rfl⟩
 case round=>
  obtain ⟨k,hk,rfl,hG,hE⟩:=hrel
  have HE:=hid hE;clear hE
  by_cases hlt:k+1 < l.length
  ·by_cases h1:(l[k].toNat:Int)=13
   ·by_cases h2:(l[k+1].toNat:Int)=10
    ·have hb1:((l[k].toNat:Int)==13)=true:=by simp [h1]
     have hb2:((l[k+1].toNat:Int)==10)=true:=by simp [h2]
     have hit:=hid (lineAt_hit hlt h1 h2)
     have HV:=hid (show lnL l=some (l.take k,l.drop (k+2)) from by rw [HL.out,←HE.out,hit.out,if_neg (by omega)];rfl)
     clear h1 h2
     go_upto_region 5 with fail
     refine wp_region_gw (by kernel_rfl) (by kernel_rfl) ?_
     repeat (first | go_big_quiet_step (fail) | quiet_step (fail))
     refine wpQuiet_nil ?_;intro wq hwq;obtain ⟨iq,rfl⟩:=hwq
     go_wp2_with fail
     go_ret3
     exact ⟨by unfold lnV;rw [HV.out];rfl,Gr.tr hG (gw_gr _ _)⟩
    ·have hb1:((l[k].toNat:Int)==13)=true:=by simp [h1]
     have hb2:((l[k+1].toNat:Int)==10)=false:=by simp [h2]
     have hit:=hid (lineAt_miss hlt (fun h=>h2 h.2))
     clear h1 h2
     go_wp2_with fail
     exact ⟨⟨k+1,by omega,by go_num,hG,by rw [←HE.out,hit.out]⟩,by simp [intOf];omega⟩
   ·have hb1:((l[k].toNat:Int)==13)=false:=by simp [h1]
    have hit:=hid (lineAt_miss hlt (fun h=>h1 h.1))
    clear h1
    go_wp2_with fail
    exact ⟨⟨k+1,by omega,by go_num,hG,by rw [←HE.out,hit.out]⟩,by simp [intOf];omega⟩
  ·have he:=hid (lineAt_end hlt)
   have HV:=hid (show lnL l=none from by rw [HL.out,←HE.out,he.out];rfl)
   go_wp2_with fail
   go_ret3
   exact ⟨by unfold lnV;rw [HV.out];rfl,hG⟩
def stripV (p s:List UInt8):Value:=match stripL p s with
 | none=>.tuple #[str [],.bool false]
 | some x=>.tuple #[str x,.bool true]
theorem pre_iff (p s:List UInt8):p.isPrefixOf s=true↔s.take p.length=p:=by
 rw [List.isPrefixOf_iff_prefix]
 constructor
 ·rintro ⟨t,rfl⟩;simp
 ·intro h;exact ⟨s.drop p.length,by have:=List.take_append_drop p.length s;rw [h] at this;exact this⟩
theorem strip_no {p s:List UInt8} (h:s.take p.length≠p):stripL p s=none:=by
 unfold stripL;rw [if_neg];intro hh;exact h ((pre_iff p s).1 hh)
theorem strip_yes {p s:List UInt8} (h:s.take p.length=p):stripL p s=some (s.drop p.length):=by
 unfold stripL;rw [if_pos ((pre_iff p s).2 h)]
set_option maxHeartbeats 2000000 in
theorem refAfter_any (s p:List UInt8) (w:World) (_hl:s.length≤9223372036854775000) (_hp:p.length≤9223372036854775000):Calls Tryz.prog 57 #[str s,str p] w fun e w'=>e=.returned (stripV p s)∧Gr w w':=by
 by_cases h1:s.length < p.length
 ·have d1:decide ((s.length:Int) < (p.length:Int))=true:=decide_eq_true (by omega)
  have HV:=hid (show stripL p s=none from strip_no (by intro h;have:=congrArg List.length h;rw [List.length_take] at this;omega))
  go_enter Tryz.func57,Tryz.ntmps57
  go_wp2_with fail
  go_ret2
  exact ⟨by unfold stripV;rw [HV.out];rfl,Gr.refl _⟩
 ·have d1:decide ((s.length:Int) < (p.length:Int))=false:=decide_eq_false (by omega)
  by_cases h2:s.take p.length=p
  ·have k2:(s.take p.length==p)=true:=by simpa using h2
   have HV:=hid (strip_yes h2)
   clear h2
   go_enter Tryz.func57,Tryz.ntmps57
   go_wp2_with fail
   go_ret2
   exact ⟨by unfold stripV;rw [HV.out];rfl,Gr.refl _⟩
  ·have k2:(s.take p.length==p)=false:=by simpa using h2
   have HV:=hid (strip_no h2)
   clear h2
   go_enter Tryz.func57,Tryz.ntmps57
   go_wp2_with fail
   go_ret2
   exact ⟨by unfold stripV;rw [HV.out];rfl,Gr.refl _⟩
end Go.Proofs.YtgfckbhkgggkeaaGreatDoor
/- XMulti16 -/
namespace Go.Proofs.YtgfckbhkgggkeaaGreatDoor
open Lib (hid)
open Go.RowKit
end Go.Proofs.YtgfckbhkgggkeaaGreatDoor
/- XMulti17 -/
namespace Go.Proofs.YtgfckbhkgggkeaaGreatDoor
open Lib (hid)
open Go.RowKit
end Go.Proofs.YtgfckbhkgggkeaaGreatDoor
/- XHexL -/
namespace Go.Proofs.YtgfckbhkgggkeaaGreatDoor
open Lib (hid)
open Go.RowKit
end Go.Proofs.YtgfckbhkgggkeaaGreatDoor
/- XMulti18 -/
namespace Go.Proofs.YtgfckbhkgggkeaaGreatDoor
open Lib (hid)
open Go.RowKit
end Go.Proofs.YtgfckbhkgggkeaaGreatDoor
/- XMulti19 -/
namespace Go.Proofs.YtgfckbhkgggkeaaGreatDoor
open Lib (hid)
open Go.RowKit
end Go.Proofs.YtgfckbhkgggkeaaGreatDoor
/- XMulti6 -/
namespace Go.Proofs.YtgfckbhkgggkeaaGreatDoor
open Lib (hid)
open Go.RowKit
theorem m_index {w:World} {A:Option Addr} {n c:Nat} {l:List UInt8} (hb:Byts w (.slice A n c) l) (hm:Ml w) (hl:l.length < 4294967281) (b2 c2:Nat) (sub:List UInt8) (hs2:2≤sub.length) (hs3:sub.length≤1000)
  (h2:∀(i:Nat) (hi:i < sub.length),w.cell? ⟨b2,i,none⟩=some (byt sub[i])) :
  Calls Tryz.prog 93 #[.slice A n c,.slice (some ⟨b2,0,none⟩) sub.length c2] w fun e w'=>e=.returned (.int .i64 (Lib.index l sub))∧Gr w w':=by
 obtain ⟨rfl,hc⟩:=hb.len
 obtain ⟨m,hm⟩:=hm
 cases A with
 | none=>
   have hl0:l=[]:=by
    cases l with
    | nil=>rfl
    | cons x t=>obtain ⟨b,o,hA,_⟩:=hb.cellAt 0 (by simp);cases hA
   subst hl0
   have h:=Tryz.bytes_Index_longer none (some ⟨b2,0,none⟩) 0 c sub.length c2 w hs2 (by omega) (by omega)
   refine h.mono fun e w' ⟨he,hw⟩=>⟨?_,by rw [hw];exact Gr.refl w⟩
   rw [he]
   cases sub with
   | nil=>simp at hs2
   | cons x t=>rfl
 | some ad=>
   have h:=Tryz.bytes_Index_at ad ⟨b2,0,none⟩ l.length c sub.length c2 (l.map fun c=>(c.toNat:Int)) (sub.map fun c=>(c.toNat:Int)) m w (by simp) (by simp)
    (fun x hx=>by simp only [List.mem_map] at hx;obtain ⟨y,_,rfl⟩:=hx;have:=y.toNat_lt;omega)
    (fun x hx=>by simp only [List.mem_map] at hx;obtain ⟨y,_,rfl⟩:=hx;have:=y.toNat_lt;omega)
    (fun i hi=>by
     obtain ⟨b,o,hA,_,hcell⟩:=hb.cellAt i hi
     injection hA with hA
     subst hA
     have e1:(Addr.mk b o none).add i=⟨b,o+i,none⟩:=by unfold Addr.add;split <;> simp_all
     rw [e1,hcell,nums_at _ _ hi])
    (fun i hi=>by
     have e1:(Addr.mk b2 0 none).add i=⟨b2,i,none⟩:=by unfold Addr.add;split <;> simp_all
     rw [e1,h2 i hi,nums_at _ _ hi]) hc hl (by omega) hm
   rw [bytesOf_nums,bytesOf_nums] at h
   exact h.mono fun e w' ⟨he,q,hw⟩=>⟨he,by rw [hw];exact Gr.drN (Gr.refl w) q⟩
def Scan (w:World) (g:Nat) (l:List UInt8) (e:Nat):Prop:=
 ∃A c,Bk w g 128 #[.slice A l.length c,.int .i64 (e:Int)] (0,0)∧Byts w (.slice A l.length c) l∧(l=[]∨∀b,(Value.slice A l.length c).ownBlock=some b→b < g)
theorem Scan.far {w:World} {g k:Nat} {l:List UInt8} {e:Nat} (h:Scan w g l e) (hk:g < k) (i:Nat) (u:Value):Scan (w.setCell ⟨k,i,none⟩ u) g l e:=by
 obtain ⟨A,c,h1,h2,h3⟩:=h
 exact ⟨A,c,h1.far (p:=⟨k,i,none⟩) (by show g≠k;omega) u,h2.stO h3 (Nat.le_of_lt hk) i u,h3⟩
theorem Scan.byk {w w':World} {g k:Nat} {l:List UInt8} {e:Nat} (h:Scan w g l e) (hk:g < k) (hb:w.grownBy w' (some k)):Scan w' g l e:=by
 obtain ⟨A,c,h1,h2,h3⟩:=h
 exact ⟨A,c,bk_byo h1 hb (by simp;omega),h2.byO h3 (Nat.le_of_lt hk) hb,h3⟩
theorem Scan.gr {w w':World} {g:Nat} {l:List UInt8} {e:Nat} (h:Scan w g l e) (k:Gr w w'):Scan w' g l e:=by
 obtain ⟨A,c,h1,h2,h3⟩:=h
 exact ⟨A,c,h1.gr k,h2.gr k,h3⟩
def lineS (l:List UInt8) (e:Nat):List UInt8×List UInt8×Nat:=if e≠0 then ([],l,e) else match lnL l with
 | none=>([],l,13)
 | some x=>(x.1,x.2,0)
set_option maxHeartbeats 2000000 in
theorem scanLine_any (w:World) (g:Nat) (l:List UInt8) (e0:Nat) (hs:Scan w g l e0) (hm:Ml w) (hl:l.length < 4294967000) :
  Calls Tryz.prog 69 #[.pointer (some ⟨g,0,none⟩)] w fun e w'=>e=.returned (str (lineS l e0).1)∧Scan w' g (lineS l e0).2.1 (lineS l e0).2.2∧w.grownBy w' (some g):=by
 obtain ⟨A,c,hb,hy,ho⟩:=hs
 obtain ⟨q0,q1⟩:=hb.cells2
 obtain ⟨f0,f1⟩:=hb.free2
 have HB:=hid hb;have HY:=hid hy;have HM:=hid hm;have HO:=hid ho
 clear hb hy hm ho
 by_cases he:e0=0
 ·subst he
  have kc:=fun (w:World) (C:Array Value) (n c:Nat)=>Lib.run_convert_bytes_const (P:=Tryz.prog) w 30 5 C n c Tryz.underlying30 Tryz.underlying5
  go_enter Tryz.func69,Tryz.ntmps69
  go_wp2_with fail
  have hw1:=Bk.new w 5 #[.int .u8 13,.int .u8 10] (2,3)
  have hG1:Gr w (w.alloc (Obj.cells #[.int .u8 13,.int .u8 10] 5 (2,3))):=Gr.al (Gr.refl w) _
  have HI:=hid (m_index (HY.out.gr hG1) (HM.out.gr hG1) (by omega) w.heap.size 2 [13,10] (by simp) (by simp) (fun i hi=>by
   rw [hw1.cell i]
   match i,hi with
   | 0,_=>rfl
   | 1,_=>rfl))
  clear hw1
  rw [crlf_lib] at HI
  cases hcr:crlf l with
  | none=>
    rw [hcr] at HI
    refine HI.out.mono ?_
    rintro e w1 ⟨rfl,hG⟩
    have hG2:=Gr.tr hG1 hG
    have HB2:=hid (HB.out.gr hG2)
    obtain ⟨q0,q1⟩:=HB2.out.cells2
    obtain ⟨f0,f1⟩:=HB2.out.free2
    have hv:=hid (show lineS l 0=([],l,13) from by unfold lineS;rw [lnL_none hcr];rfl)
    clear hG hG1 HI hcr
    go_wp2_with fail
    go_ret
    refine ⟨by rw [hv.out];rfl,?_,by_st (hG2.by _) _ _⟩
    rw [hv.out]
    exact ⟨A,c,by simpa using HB2.out.set 1 (.int .i64 13),(HY.out.gr hG2).stO HO.out (Nat.le_refl g) _ _,HO.out⟩
  | some i=>
    rw [hcr] at HI
    have hlt:=crlf_lt hcr
    refine HI.out.mono ?_
    rintro e w1 ⟨rfl,hG⟩
    have hG2:=Gr.tr hG1 hG
    have HB2:=hid (HB.out.gr hG2)
    have HY2:=hid (HY.out.gr hG2)
    obtain ⟨q0,q1⟩:=HB2.out.cells2
    obtain ⟨f0,f1⟩:=HB2.out.free2
    have hv:=hid (show lineS l 0=(l.take i,l.drop (i+2),0) from by unfold lineS;rw [lnL_of hcr];rfl)
    clear hG hG1 HI hcr
    go_wp2_with (first
     | (refine wpList_slHi _ _ rfl rfl rfl rfl HY2.out ?_ ?_ ?_;omega;omega;intro A2 hA2;have HA2:=hid hA2;clear hA2)
     | (refine wpList_slLoB _ _ rfl rfl rfl rfl HY2.out ?_ ?_ ?_;omega;omega;intro A3 hA3 hO3;have HA3:=hid hA3;have HO3:=hid hO3;clear hA3 hO3)
     | (refine wpList_toStr _ rfl rfl rfl HA2.out ?_))
    go_ret
    have ei:((i:Int)+2).toNat=i+2:=by omega
    refine ⟨by rw [hv.out];rfl,?_,by_st (hG2.by _) _ _⟩
    rw [hv.out]
    have hx:=HB2.out.set 0 (.slice A3 (l.length-((i:Int)+2).toNat) (c-((i:Int)+2).toNat))
    simp only [List.setIfInBounds_toArray,List.set_cons_zero] at hx
    have hne:l.drop ((i:Int)+2).toNat=[]∨∀b,(Value.slice A3 (l.length-((i:Int)+2).toNat) (c-((i:Int)+2).toNat)).ownBlock=some b→b < g:=by
     rcases HO.out with h | h
     ·left;rw [h];simp
     ·right;rw [HO3.out];exact h
    have hy3:=HA3.out.stO hne (Nat.le_refl g) 0 (.slice A3 (l.length-((i:Int)+2).toNat) (c-((i:Int)+2).toNat))
    rw [ei] at hx hy3 hne
    refine ⟨A3,c-(i+2),?_,?_,?_⟩
    ·simp only [List.length_drop];exact hx
    ·simp only [List.length_drop];exact hy3
    ·simp only [List.length_drop];exact hne
 ·have hn:((e0:Int) != 0)=true:=by simp;exact he
  have hv:=hid (show lineS l e0=([],l,e0) from if_pos he)
  go_enter Tryz.func69,Tryz.ntmps69
  go_wp2_with fail
  go_ret
  refine ⟨by rw [hv.out];rfl,?_,(Gr.refl w).by _⟩
  rw [hv.out]
  exact ⟨A,c,HB.out,HY.out,HO.out⟩
def mustS (ok:Bool) (e:Nat):Nat:=if e=0∧ok=false then 2 else e
set_option maxHeartbeats 2000000 in
theorem scanMust_any (w:World) (g:Nat) (l:List UInt8) (e0:Nat) (ok:Bool) (hs:Scan w g l e0) :
  Calls Tryz.prog 68 #[.pointer (some ⟨g,0,none⟩),.bool ok] w fun e w'=>e=.returned (.tuple #[])∧Scan w' g l (mustS ok e0)∧w.grownBy w' (some g):=by
 obtain ⟨A,c,hb,hy,ho⟩:=hs
 obtain ⟨q0,q1⟩:=hb.cells2
 obtain ⟨f0,f1⟩:=hb.free2
 have HB:=hid hb;have HY:=hid hy;have HO:=hid ho
 clear hb hy ho
 by_cases he:e0=0
 ·subst he
  cases ok with
  | true=>
    go_enter Tryz.func68,Tryz.ntmps68
    go_wp2_with fail
    go_end0
    exact ⟨rfl,⟨A,c,HB.out,HY.out,HO.out⟩,(Gr.refl w).by _⟩
  | false=>
    go_enter Tryz.func68,Tryz.ntmps68
    go_wp2_with fail
    go_end0
    exact ⟨rfl,⟨A,c,by have:=HB.out.set 1 (.int .i64 2);simpa [mustS] using this,HY.out.stO HO.out (Nat.le_refl g) _ _,HO.out⟩,by_st ((Gr.refl w).by _) _ _⟩
 ·have hn:((e0:Int)==0)=false:=by simp;exact he
  have hv:=hid (show mustS ok e0=e0 from if_neg (fun h=>he h.1))
  go_enter Tryz.func68,Tryz.ntmps68
  go_wp2_with fail
  go_end0
  exact ⟨rfl,by rw [hv.out];exact ⟨A,c,HB.out,HY.out,HO.out⟩,(Gr.refl w).by _⟩
end Go.Proofs.YtgfckbhkgggkeaaGreatDoor
/- XMulti7 -/
namespace Go.Proofs.YtgfckbhkgggkeaaGreatDoor
open Lib (hid)
open Go.RowKit
def rF (r:Option (Int×Int×Int)):Int:=match r with | none=>0 | some x=>x.1
def rT (r:Option (Int×Int×Int)):Int:=match r with | none=>0 | some x=>x.2.1
def rN (r:Option (Int×Int×Int)):Int:=match r with | none=>0 | some x=>x.2.2
def rE (r:Option (Int×Int×Int)):Int:=match r with | none=>2 | some _=>0
theorem rangeV_eq (r:Option (Int×Int×Int)):rangeV r=.tuple #[.agg #[.int .i64 (rF r),.int .i64 (rT r)],.int .i64 (rN r),.int .i64 (rE r)]:=by cases r <;> rfl
theorem trimP_drop {p s:List UInt8} (h:p.isPrefixOf s=true):Lib.trimPrefix s p=s.drop p.length:=by
 unfold Lib.trimPrefix Lib.hasPrefix;rw [if_pos h]
theorem kindLn_eq (t:List UInt8):kindLn t=(typeN.isPrefixOf t&&kindB (Lib.trimPrefix t typeN)):=by
 unfold kindLn stripL
 cases h:typeN.isPrefixOf t with
 | false=>rfl
 | true=>rw [trimP_drop h];rfl
theorem rangeLn_some (first:Bool) (tot:Int) (t:List UInt8):(rangeLn first tot t).isSome=(rangeN.isPrefixOf t&&((rE (rangeR (Lib.trimPrefix t rangeN))==0)&&(first||(rN (rangeR (Lib.trimPrefix t rangeN))==tot)))):=by
 unfold rangeLn stripL
 cases h:rangeN.isPrefixOf t with
 | false=>rfl
 | true=>
   rw [trimP_drop h,if_pos rfl]
   simp only [Bool.true_and]
   cases rangeR (t.drop rangeN.length) with
   | none=>rfl
   | some x=>
     simp only [rE,rN]
     cases hh:(first||x.2.2==tot) <;> rfl
theorem rangeLn_val {first:Bool} {tot:Int} {t:List UInt8} {x:Int×Int×Int} (h:rangeLn first tot t=some x):rF (rangeR (Lib.trimPrefix t rangeN))=x.1∧rT (rangeR (Lib.trimPrefix t rangeN))=x.2.1∧rN (rangeR (Lib.trimPrefix t rangeN))=x.2.2∧rangeR (Lib.trimPrefix t rangeN)=some x:=by
 unfold rangeLn stripL at h
 cases hp:rangeN.isPrefixOf t with
 | false=>rw [hp] at h;cases h
 | true=>
   rw [hp,if_pos rfl] at h
   rw [trimP_drop hp]
   simp only at h
   cases hr:rangeR (t.drop rangeN.length) with
   | none=>rw [hr] at h;cases h
   | some y=>
     rw [hr] at h
     simp only at h
     split at h
     ·injection h with h;subst h;exact ⟨rfl,rfl,rfl,rfl⟩
     ·cases h
def pieceE (first:Bool) (tot:Int) (l:List UInt8) (e:Nat):Nat ⊕ (PieceT×List UInt8):=if e≠0 then .inl e else pieceL first tot l
section
variable (first : Bool) (tot : Int) (l : List UInt8) (e : Nat)
def pA:List UInt8×List UInt8×Nat:=lineS l e
def pB:List UInt8×List UInt8×Nat:=lineS (pA l e).2.1 (mustS (kindLn (pA l e).1) (pA l e).2.2)
def pC:List UInt8×List UInt8×Nat:=lineS (pB l e).2.1 (mustS (rangeLn first tot (pB l e).1).isSome (pB l e).2.2)
def pEnd:Nat:=mustS ((pC first tot l e).1==[]) (pC first tot l e).2.2
end
theorem lineS_bad {l:List UInt8} {e:Nat} (h:e≠0):lineS l e=([],l,e):=if_pos h
theorem lineS_none {l:List UInt8} (h:lnL l=none):lineS l 0=([],l,13):=by unfold lineS;rw [h];rfl
theorem lineS_some {l:List UInt8} {x:List UInt8×List UInt8} (h:lnL l=some x):lineS l 0=(x.1,x.2,0):=by unfold lineS;rw [h];rfl
theorem mustS_bad {b:Bool} {e:Nat} (h:e≠0):mustS b e=e:=if_neg (fun hh=>h hh.1)
theorem mustS_13 (b:Bool):mustS b 13=13:=mustS_bad (by decide)
theorem mustS_2 (b:Bool):mustS b 2=2:=mustS_bad (by decide)
theorem lineS_13 (l:List UInt8):lineS l 13=([],l,13):=lineS_bad (by decide)
theorem lineS_2 (l:List UInt8):lineS l 2=([],l,2):=lineS_bad (by decide)
theorem mustS_no:mustS false 0=2:=rfl
theorem mustS_yes:mustS true 0=0:=rfl
theorem piece_run (first:Bool) (tot:Int) (l:List UInt8) (e:Nat):(pEnd first tot l e≠0→pieceE first tot l e=.inl (pEnd first tot l e))∧(pEnd first tot l e=0→∃x,rangeLn first tot (pB l e).1=some x∧pieceE first tot l e=dataL x (pC first tot l e).2.1):=by
 unfold pEnd pC pB pA pieceE
 by_cases he:e=0
 ·subst he
  rw [if_neg (by simp)]
  unfold pieceL
  cases h1:lnL l with
  | none=>
    rw [lineS_none h1]
    simp only
    simp only [mustS_13,lineS_13]
    exact ⟨fun _=>by first | rfl | trivial,fun h=>by cases h⟩
  | some x=>
    rw [lineS_some h1]
    simp only
    cases hk:kindLn x.1 with
    | false=>
      simp only [mustS_no,mustS_2,lineS_2]
      exact ⟨fun _=>by first | rfl | trivial,fun h=>by cases h⟩
    | true=>
      rw [mustS_yes,if_neg (by simp)]
      cases h2:lnL x.2 with
      | none=>
        rw [lineS_none h2]
        simp only
        simp only [mustS_13,lineS_13]
        exact ⟨fun _=>by first | rfl | trivial,fun h=>by cases h⟩
      | some y=>
        rw [lineS_some h2]
        simp only
        cases hr:rangeLn first tot y.1 with
        | none=>
          simp only [Option.isSome_none]
          simp only [mustS_no,mustS_2,lineS_2]
          exact ⟨fun _=>by first | rfl | trivial,fun h=>by cases h⟩
        | some z=>
          simp only [Option.isSome_some]
          rw [mustS_yes]
          cases h3:lnL y.2 with
          | none=>
            rw [lineS_none h3]
            simp only
            simp only [mustS_13]
            exact ⟨fun _=>by first | rfl | trivial,fun h=>by cases h⟩
          | some v=>
            rw [lineS_some h3]
            simp only
            by_cases hv:v.1=[]
            ·rw [hv,if_neg (by simp)]
             exact ⟨fun h=>absurd rfl h,fun _=>⟨z,rfl,rfl⟩⟩
            ·have hb:(v.1==[])=false:=by simpa using hv
             rw [hb,mustS_no,if_pos hv]
             exact ⟨fun _=>by first | rfl | trivial,fun h=>by cases h⟩
 ·rw [lineS_bad he]
  simp only
  rw [mustS_bad he,lineS_bad he]
  simp only
  rw [mustS_bad he,lineS_bad he]
  simp only
  rw [mustS_bad he,if_pos he]
  exact ⟨fun _=>rfl,fun h=>absurd h he⟩
theorem lineS_len (l:List UInt8) (e:Nat):(lineS l e).2.1.length≤l.length∧(lineS l e).1.length≤l.length:=by
 unfold lineS
 split
 ·exact ⟨Nat.le_refl _,Nat.zero_le _⟩
 ·cases h:lnL l with
  | none=>exact ⟨Nat.le_refl _,Nat.zero_le _⟩
  | some x=>
    obtain ⟨t,r⟩:=x
    obtain ⟨i,h1,h2,h3,h4,h5⟩:=lnL_some h
    have:=crlf_lt h1
    simp only
    omega
def PieceEnd (w:World) (g:Nat) (r:Nat ⊕ (PieceT×List UInt8)) (e:Ending) (w':World):Prop:=w.grownBy w' (some g)∧match r with
 | .inl n=>∃l',e=.returned (.agg #[.int .i64 0,.int .i64 0,.int .i64 0,.slice none 0 0])∧Scan w' g l' n
 | .inr (p,r)=>∃v,e=.returned (.agg #[.int .i64 p.1.1,.int .i64 p.1.2.1,.int .i64 p.1.2.2,v])∧Scan w' g r 0∧Own w w' 5 1 v p.2.length (p.2.map byt)
theorem Byts.front {w:World} {A:Option Addr} {n c k:Nat} {l:List UInt8} (h:Byts w (.slice A n c) l) (hk:k≤l.length):Sl w (.slice A k c) k ((l.take k).map byt):=by
 obtain ⟨A',c',hv,hc,hm,ho⟩:=h
 injection hv with e1 e2 e3
 subst e1 e2 e3
 refine ⟨A,c,rfl,by omega,by omega,?_⟩
 rcases ho with ho | ⟨b,o,rfl,hb,hj⟩
 ·have:l=[]:=List.map_eq_nil_iff.1 ho
  subst this;left;simp
 ·refine .inr ⟨b,o,rfl,hb,fun j u hu=>hj j u ?_⟩
  rw [List.map_take,List.getElem?_take] at hu
  split at hu
  ·exact hu
  ·cases hu
theorem own_far4 {W0 w:World} {e t:TypeId} {size n b:Nat} {v x y z u:Value} {xs:List Value} {cs:Array Value} {fr:Nat×Nat} (h:Own W0 w e size v n xs) (hb:Bk w b t cs fr) (hne:e≠t):Own W0 ((((w.setCell ⟨b,0,none⟩ x).setCell ⟨b,1,none⟩ y).setCell ⟨b,2,none⟩ z).setCell ⟨b,3,none⟩ u) e size v n xs:=by
 have hv:v.ownBlock=none∨v.ownBlock≠some b:=by
  rcases h.2 with ⟨rfl,_⟩ | ⟨b',cap,cur,rfl,_,hh,_⟩
  ·exact .inl rfl
  ·refine .inr fun e=>?_
   have:b'=b:=by simpa [Value.ownBlock] using e
   subst this
   unfold Bk at hb
   rw [hh] at hb
   injection hb with k
   injection k with _ k _
   exact hne k
 have k:=by_st (by_st (by_st (by_st ((Gr.refl w).by (some b)) 0 x) 1 y) 2 z) 3 u
 exact own_kr h k hv
theorem by_new4 {a b:World} {r:Option Nat} {g:Nat} (h:a.grownBy b r) (hg:a.heap.size≤g) (x y z u:Value):a.grownBy ((((b.setCell ⟨g,0,none⟩ x).setCell ⟨g,1,none⟩ y).setCell ⟨g,2,none⟩ z).setCell ⟨g,3,none⟩ u) r:=
 by_new (p:=⟨g,3,none⟩) (by_new (p:=⟨g,2,none⟩) (by_new (p:=⟨g,1,none⟩) (by_new (p:=⟨g,0,none⟩) h hg x) hg y) hg z) hg u
theorem line_eq {l t r:List UInt8} {e0 e1:Nat} (h:lineS l e0=(t,r,e1)) (w:World) (g:Nat) (hs:Scan w g l e0) (hm:Ml w) (hl:l.length < 4294967000) :
  Calls Tryz.prog 69 #[.pointer (some ⟨g,0,none⟩)] w fun e w'=>e=.returned (str t)∧Scan w' g r e1∧w.grownBy w' (some g):=by
 have:=scanLine_any w g l e0 hs hm hl
 rw [h] at this
 exact this
set_option maxHeartbeats 8000000 in
set_option maxRecDepth 100000 in
theorem piece_any (w:World) (g:Nat) (l:List UInt8) (e0:Nat) (first:Bool) (tot:Int) (hs:Scan w g l e0) (hv:∀x,w.grownBy x (some g)→Vars x) (hl:l.length≤1000000000) :
  Calls Tryz.prog 70 #[.pointer (some ⟨g,0,none⟩),.bool first,.int .i64 tot] w (PieceEnd w g (pieceE first tot l e0)):=by
 obtain ⟨hR1,hR2⟩:=piece_run first tot l e0
 unfold pEnd pC at hR1 hR2
 obtain ⟨t1,l1,e1,hA⟩:∃t1 l1 e1,lineS l e0=(t1,l1,e1):=⟨_,_,_,rfl⟩
 obtain ⟨t2,l2,e2,hBB⟩:∃t2 l2 e2,lineS l1 (mustS (kindLn t1) e1)=(t2,l2,e2):=⟨_,_,_,rfl⟩
 obtain ⟨t3,l3,e3,hC⟩:∃t3 l3 e3,lineS l2 (mustS (rangeLn first tot t2).isSome e2)=(t3,l3,e3):=⟨_,_,_,rfl⟩
 have hpB:pB l e0=(t2,l2,e2):=by unfold pB pA;rw [hA];exact hBB
 rw [hpB] at hR1 hR2
 simp only at hR1 hR2
 rw [hC] at hR1 hR2
 simp only at hR1 hR2
 clear hpB
 have HR1:=hid hR1;have HR2:=hid hR2;clear hR1 hR2
 have la:=lineS_len l e0;have lb:=lineS_len l1 (mustS (kindLn t1) e1);have lc:=lineS_len l2 (mustS (rangeLn first tot t2).isSome e2)
 rw [hA] at la;rw [hBB] at lb;rw [hC] at lc
 simp only at la lb lc
 have HL1:=hid (line_eq hA);have HL2:=hid (line_eq hBB);have HL3:=hid (line_eq hC)
 clear hA hBB hC
 have HK:=hid (kindLn_eq t1)
 have HRS:=hid (rangeLn_some first tot t2)
 have HCP1:=hid (fun (w:World)=>m_cutPre t1 typeN w)
 have HCP2:=hid (fun (w:World)=>m_cutPre t2 rangeN w)
 have lt1:=trimP_len t1 typeN;have lt2:=trimP_len t2 rangeN
 have HKD:=hid (fun (w:World)=>kindly_any (Lib.trimPrefix t1 typeN) w (by omega))
 have HRG:=hid (fun (w:World) (h:Vars w)=>range_any (Lib.trimPrefix t2 rangeN) w h (by omega))
 rw [progR_eq,rangeV_eq] at HRG
 have HVL:=hid (fun x (h:rangeLn first tot t2=some x)=>rangeLn_val h)
 have hgl:g < w.heap.size:=by obtain ⟨A,c,h1,_⟩:=hs;exact h1.lt
 have HV:=hid hv;clear hv
 have hb:=Bk.new w 84 #[.int .i64 0,.int .i64 0,.int .i64 0,.slice none 0 0] (0,0)
 have hG1:=Gr.al (Gr.refl w) (Obj.cells #[.int .i64 0,.int .i64 0,.int .i64 0,.slice none 0 0] 84)
 have HS1:=hid (hs.gr hG1)
 have hk1:=hG1.by (some g)
 generalize Lib.trimPrefix t1 typeN=kd at *
 generalize Lib.trimPrefix t2 rangeN=vl at *
 generalize hpb1:typeN.isPrefixOf t1=pb1 at *
 generalize hpb2:rangeN.isPrefixOf t2=pb2 at *
 clear hpb1 hpb2
 have HBD:=hid (fun x (h:rangeR vl=some x)=>cont_parts (cont_yes (f:=x.1) (t:=x.2.1) (n:=x.2.2) (by rw [(rangeR_some h).1];exact (rangeR_some h).2)))
 generalize rangeR vl=rr at *
 go_enter Tryz.func70,Tryz.ntmps70
 go_upto_region 1 with fail
 generalize w.alloc (Obj.cells #[.int .i64 0,.int .i64 0,.int .i64 0,.slice none 0 0] 84)=w1 at *
 have hgr:some w.heap.size≠some g:=by simp;omega
 generalize hgg:w.heap.size=gr at *
 have HB1:=hid hb
 clear hb hs hG1
 go_upto_region 2 with (go_at_call 69;refine (HL1.out _ _ HS1.out (HV.out _ hk1).ml (by omega)).mono ?_;rintro e w2 ⟨rfl,hs2,hk2⟩;have HS2:=hid hs2;have HB2:=hid (bk_byo HB1.out hk2 hgr);have hk2:=by_trans hk1 hk2)
 go_upto_region 3 with (go_at_call 85;refine (HCP1.out _).mono ?_;rintro e w3 ⟨rfl,hG3⟩;have HS3:=hid (HS2.out.gr hG3);have HB3:=hid (HB2.out.gr hG3);have hk3:=by_tr hk2 hG3)
 clear HS1 HS2 HB1 HB2 hs2 hk1 hk2 hG3 HCP1 HL1
 go_cut [28] (fun s28 wx=>w.grownBy wx (some g)∧Scan wx g l1 (mustS (kindLn t1) e1)∧Bk wx gr 84 #[.int .i64 0,.int .i64 0,.int .i64 0,.slice none 0 0] (0,0))
 case first=>
  cases pb1 with
  | false=>
    go_wp2_with (go_at_call 68;refine (scanMust_any _ _ _ _ _ HS3.out).mono ?_;rintro e w4 ⟨rfl,hs4,hk4⟩)
    go_meet
    exact ⟨by_trans hk3 hk4,by rw [HK.out];exact hs4,bk_byo HB3.out hk4 hgr⟩
  | true=>
    go_wp2_with (first
     | (go_at_call 94;refine (HKD.out _).mono ?_;rintro e w4 ⟨rfl,hG4⟩)
     | (go_at_call 68;refine (scanMust_any _ _ _ _ _ (HS3.out.gr hG4)).mono ?_;rintro e w5 ⟨rfl,hs5,hk5⟩))
    go_meet
    exact ⟨by_trans (by_tr hk3 hG4) hk5,by rw [HK.out];exact hs5,bk_byo (HB3.out.gr hG4) hk5 hgr⟩
 case rest=>
  obtain ⟨hk4,hs4,hb4⟩:=hcut
  have HS4:=hid hs4;have HB4:=hid hb4
  clear hs4 hb4 HS3 HB3 hk3 HKD HK
  go_upto_region 5 with (go_at_call 69;refine (HL2.out _ _ HS4.out (HV.out _ hk4).ml (by omega)).mono ?_;rintro e w5 ⟨rfl,hs5,hk5⟩;have HS5:=hid hs5;have HB5:=hid (bk_byo HB4.out hk5 hgr);have hk5:=by_trans hk4 hk5)
  go_upto_region 6 with (go_at_call 85;refine (HCP2.out _).mono ?_;rintro e w6 ⟨rfl,hG6⟩;have HS6:=hid (HS5.out.gr hG6);have HB6:=hid (HB5.out.gr hG6);have hk6:=by_tr hk5 hG6)
  go_upto_region 7 with (go_at_call 95;refine (HRG.out _ (HV.out _ hk6)).mono ?_;rintro e w7 ⟨rfl,hG7⟩;have HS7:=hid (HS6.out.gr hG7);have HB7:=hid (HB6.out.gr hG7);have hk7:=by_tr hk6 hG7)
  have hbx:=Bk.new w7 41 #[.int .i64 (rF rr),.int .i64 (rT rr)] (0,0)
  have hG8:=Gr.al (Gr.refl w7) (Obj.cells #[.int .i64 (rF rr),.int .i64 (rT rr)] 41)
  have hbx1:some w7.heap.size≠some g:=by have:=HB7.out.lt;simp;omega
  have hbx2:gr < w7.heap.size:=HB7.out.lt
  have HS8:=hid (HS7.out.gr hG8);have HB8:=hid (HB7.out.gr hG8);have hk8:=by_tr hk7 hG8
  generalize w7.alloc (Obj.cells #[.int .i64 (rF rr),.int .i64 (rT rr)] 41)=w8 at *
  generalize w7.heap.size=bx at *
  have HX8:=hid hbx
  clear hbx hG8 HS4 HS5 HS6 HS7 HB4 HB5 HB6 HB7 hs5 hk4 hk5 hG6 hG7 HCP2 HRG HL2
  go_cut [56] (fun s56 wx=>w.grownBy wx (some g)∧Scan wx g l2 (mustS (rangeLn first tot t2).isSome e2)∧Bk wx gr 84 #[.int .i64 0,.int .i64 0,.int .i64 0,.slice none 0 0] (0,0)∧Bk wx bx 41 #[.int .i64 (rF rr),.int .i64 (rT rr)] (0,0))
  case first=>
   cases pb2 <;> cases hq1:(rE rr==0) <;> cases first <;> cases hq2:(rN rr==tot)
   all_goals
    rw [hq1,hq2] at HRS
    go_wp2_with (go_at_call 68;refine (scanMust_any _ _ _ _ _ HS8.out).mono ?_;rintro e w9 ⟨rfl,hs9,hk9⟩)
    go_meet
    exact ⟨by_trans hk8 hk9,by rw [HRS.out];exact hs9,bk_byo HB8.out hk9 hgr,bk_byo HX8.out hk9 hbx1⟩
  case rest=>
   obtain ⟨hk9,hs9,hb9,hx9⟩:=hcut
   have HS9:=hid hs9;have HB9:=hid hb9;have HX9:=hid hx9
   clear hs9 hb9 hx9 HS8 HB8 HX8 hk8 HRS
   go_upto_region 9 with (go_at_call 69;refine (HL3.out _ _ HS9.out (HV.out _ hk9).ml (by omega)).mono ?_;rintro e w10 ⟨rfl,hs10,hk10⟩;have HS10:=hid hs10;have HB10:=hid (bk_byo HB9.out hk10 hgr);have HX10:=hid (bk_byo HX9.out hk10 hbx1);have hk10:=by_trans hk9 hk10)
   go_upto_region 10 with (go_at_call 68;refine (scanMust_any _ _ _ _ _ HS10.out).mono ?_;rintro e w11 ⟨rfl,hs11,hk11⟩;have HS11:=hid hs11;have HB11:=hid (bk_byo HB10.out hk11 hgr);have HX11:=hid (bk_byo HX10.out hk11 hbx1);have hk11:=by_trans hk10 hk11)
   clear HS9 HS10 HB9 HB10 HX9 HX10 hk9 hk10 hs10 hs11 HL3
   rw [show t3.isEmpty=(t3==[]) from by cases t3 <;> rfl] at HS11
   generalize mustS (t3==[]) e3=e6 at *
   obtain ⟨A,c,hb,hy,ho⟩:=HS11.out
   obtain ⟨q0,q1⟩:=hb.cells2
   obtain ⟨f0,f1⟩:=hb.free2
   have HY:=hid hy;have HO:=hid ho;have HBG:=hid hb
   clear hb hy ho
   obtain ⟨z0,z1,z2,z3⟩:=(show Bk w11 gr 84 #[.int .i64 0,.int .i64 0,.int .i64 0,.slice none 0 0] (0,0) from HB11.out).cells4
   obtain ⟨d0,d1,d2,d3⟩:=(show Bk w11 gr 84 #[.int .i64 0,.int .i64 0,.int .i64 0,.slice none 0 0] (0,0) from HB11.out).free4
   obtain ⟨x0,x1⟩:=HX11.out.cells2
   have hgn:g≠gr:=by omega
   by_cases h6:e6=0
   ·subst h6
    obtain ⟨x,hx1,hx2⟩:=HR2.out rfl
    obtain ⟨v1,v2,v3,v4⟩:=HVL.out x hx1
    have hbd:=HBD.out x v4
    generalize rF rr=rf at *
    generalize rT rr=rt at *
    generalize rN rr=rn at *
    obtain ⟨xf,xt,xn⟩:=x
    simp only at v1 v2 v3 hbd
    subst v1 v2 v3
    have HE:=hid hx2
    clear hx1 hx2 v4 HR1 HR2 HVL HBD
    by_cases hlong:l3.length < (rt-rf).toNat
    ·have kl:decide ((l3.length:Int) < rt-rf)=true:=decide_eq_true (by omega)
     have HD:=hid (show dataL (rf,rt,rn) l3=.inl 13 from if_pos hlong)
     rw [HD.out] at HE
     clear HD
     go_wp2_with fail
     have HB12:=hid (HB11.out.far (p:=⟨g,1,none⟩) (Ne.symm hgn) (.int .i64 13))
     have hk12:=by_st hk11 1 (.int .i64 13)
     have HS12:=hid (show Scan (w11.setCell ⟨g,1,none⟩ (.int .i64 13)) g l3 13 from ⟨A,c,by simpa using HBG.out.set 1 (.int .i64 13),HY.out.stO HO.out (Nat.le_refl g) _ _,HO.out⟩)
     obtain ⟨y0,y1,y2,y3⟩:=(HB12.out.set4 (.int .i64 0) (.int .i64 0) (.int .i64 0) (.slice none 0 0)).cells4
     exact bodyPost_ret (v:=.agg #[.int .i64 0,.int .i64 0,.int .i64 0,.slice none 0 0]) (by simp [results,Tryz.results70,go_sem,y0,y1,y2,y3]) rfl ⟨by_new (by_new (by_new (by_new hk12 (Nat.le_of_eq hgg) _) (Nat.le_of_eq hgg) _) (Nat.le_of_eq hgg) _) (Nat.le_of_eq hgg) _,by rw [HE.out];exact ⟨l3,rfl,(((HS12.out.far hgl _ _).far hgl _ _).far hgl _ _).far hgl _ _⟩⟩
    ·have kl:decide ((l3.length:Int) < rt-rf)=false:=decide_eq_false (by omega)
     have HD:=hid (show dataL (rf,rt,rn) l3=.inr (((rf,rt,rn),l3.take (rt-rf).toNat),l3.drop (rt-rf).toNat) from if_neg hlong)
     go_upto_region 16 with fail
     have p0:=gx_cell (r:=none) x0 (by simp)
     have p1:=gx_cell (r:=none) x1 (by simp)
     have p2:=gx_cell (r:=none) q0 (by simp)
     have HSL:=hid (HY.out.front (k:=(rt-rf).toNat) (by omega))
     have b0:0≤rt-rf:=by omega
     have b1:rt-rf≤(c:Int):=by have:=HY.out.len;omega
     go_cut [15] (fun s15 wx=>∃bp v',s15=.pointer (some ⟨bp,0,none⟩)∧gr < bp∧w.grownBy wx (some g)∧Scan wx g l3 0∧Bk wx gr 84 #[.int .i64 0,.int .i64 0,.int .i64 0,.slice none 0 0] (0,0)∧Bk wx bp 84 #[.int .i64 rf,.int .i64 rt,.int .i64 rn,v'] (0,0)∧Own w wx 5 1 v' (rt-rf).toNat ((l3.take (rt-rf).toNat).map byt))
     case first=>
      refine wp_region_mix [0,1,2,3,4,5,6,7] none 4 (by kernel_rfl) rfl (by kernel_rfl) (fun o _ _ _ _ h=>by cases o <;> exact h) ?_
      simp only [pickOps,List.filterMap_cons,List.filterMap_nil,List.getElem?_cons_zero,List.getElem?_cons_succ]
      repeat (first | (refine wpGq_step (fun K hK=>?_);go_simp;refine hK _ ?_;clear hK K) | (refine wpGq_step (fun K hK=>?_);go_simp;simp only [↓IntWalk.iteOmega];go_simp;refine hK _ ?_;clear hK K) | (refine wpGq_step (fun K hK=>?_);go_simp;apply Exists.intro;refine ⟨fun _=>?_,hK _ ?_⟩;fail;clear hK K))
      refine wpGq_nil ?_
      refine wpG_two 8 10 (by kernel_rfl) rfl rfl rfl rfl (fun K hK wa hga=>?_) (fun K hK wa hga=>?_)
      ·refine op_appS (W0:=w) (n:=0) (m:=(rt-rf).toNat) (xs:=[]) (news:=(l3.take (rt-rf).toNat).map byt) elemByte _ _ rfl rfl rfl ?_ (Own.nil _ _ _ _) (Sl.gr HSL.out hga) (by rw [List.length_map,List.length_take];omega) (one_byt _) (by omega) (by decide) ?_
       ·have:=hga.size;have:=hk11.size;omega
       intro v' wb hOwn hApp
       have hgb:Gr w11 wb:=Gr.tr hga (gr_none hApp.grown)
       rw [Nat.zero_add,List.nil_append] at hOwn
       have HOwn:=hid hOwn
       obtain ⟨A4,c4,rfl⟩:=hOwn.form
       refine hK _ _ (hgb.by _) ?_
       clear hK K hOwn hApp hga
       refine wpG_quiet [9] 2 (hgb.by _) rfl (by kernel_rfl) (fun o _ _ _ _ h=>by cases o <;> exact h) ?_
       simp only [pickOps,List.filterMap_cons,List.filterMap_nil,List.getElem?_cons_zero,List.getElem?_cons_succ]
       repeat (first | (refine wpGq_step (fun K hK=>?_);go_simp;refine hK _ ?_;clear hK K) | (refine wpGq_step (fun K hK=>?_);go_simp;simp only [↓IntWalk.iteOmega];go_simp;refine hK _ ?_;clear hK K) | (refine wpGq_step (fun K hK=>?_);go_simp;apply Exists.intro;refine ⟨fun _=>?_,hK _ ?_⟩;fail;clear hK K))
       refine wpGq_nil ?_
       refine wpG_one 10 (by kernel_rfl) rfl rfl (fun K hK wc hgc=>?_)
       go_simp
       refine hK _ _ ((Gr.al hgc _).by _) ?_
       clear hK K
       refine wpG_one 11 (by kernel_rfl) rfl rfl (fun K hK wd hgd=>?_)
       have hbk:=(Bk.new wc 84 #[.int .i64 0,.int .i64 0,.int .i64 0,.slice none 0 0] (0,0)).gr hgd
       obtain ⟨s0,s1,s2,s3⟩:=hbk.cells4
       obtain ⟨t0,t1,t2,t3⟩:=hbk.free4
       have hGd:Gr w11 wd:=Gr.tr (Gr.tr (Gr.tr hgb hgc) (Gr.al (Gr.refl _) _)) hgd
       go_simp
       refine hK _ _ (by_new4 ((Gr.tr (Gr.al hgc _) hgd).by _) hgc.size _ _ _ _) ?_
       clear hK K s0 s1 s2 s3 t0 t1 t2 t3
       refine wpG_done (by kernel_rfl) (fun we hge=>?_)
       go_wp2_with fail
       go_meet
       have hbw:wc.heap.size≠g:=by have:=HB11.out.lt;have:=(Gr.tr hgb hgc).size;omega
       have hgb2:g < wc.heap.size:=by have:=HB11.out.lt;have:=(Gr.tr hgb hgc).size;omega
       have hbl:gr < wc.heap.size:=by have:=HB11.out.lt;have:=(Gr.tr hgb hgc).size;omega
       have hwl:w.heap.size≤wc.heap.size:=by omega
       have hHB:=(((((HB11.out.gr hGd).far (p:=⟨wc.heap.size,0,none⟩) (Nat.ne_of_lt hbl) (.int .i64 rf)).far (p:=⟨wc.heap.size,1,none⟩) (Nat.ne_of_lt hbl) (.int .i64 rt)).far (p:=⟨wc.heap.size,2,none⟩) (Nat.ne_of_lt hbl) (.int .i64 rn)).far (p:=⟨wc.heap.size,3,none⟩) (Nat.ne_of_lt hbl) (.slice A4 (rt-rf).toNat c4)).gr hge
       have hHS:=(((((HS11.out.gr hGd).far hgb2 0 (.int .i64 rf)).far hgb2 1 (.int .i64 rt)).far hgb2 2 (.int .i64 rn)).far hgb2 3 (.slice A4 (rt-rf).toNat c4)).gr hge
       have hOw:=((own_far4 (HOwn.out.gr (Gr.tr hgc (Gr.tr (Gr.al (Gr.refl _) _) hgd))) hbk (by decide)).gr hge)
       exact ⟨wc.heap.size,.slice A4 (rt-rf).toNat c4,rfl,hbl,by_tr (by_new4 (by_tr hk11 hGd) hwl _ _ _ _) hge,hHS,hHB,(hbk.set4 _ _ _ _).gr hge,hOw⟩
      ·go_simp
       refine hK _ _ ((Gr.al hga _).by _) ?_
       clear hK K
       refine wpG_one 8 (by kernel_rfl) rfl rfl (fun K hK wb hgb=>?_)
       refine op_appS (W0:=w) (n:=0) (m:=(rt-rf).toNat) (xs:=[]) (news:=(l3.take (rt-rf).toNat).map byt) elemByte _ _ rfl rfl rfl ?_ (Own.nil _ _ _ _) (Sl.gr HSL.out (Gr.tr (Gr.al hga _) hgb)) (by rw [List.length_map,List.length_take];omega) (one_byt _) (by omega) (by decide) ?_
       ·have:=(Gr.tr (Gr.al hga (Obj.cells #[.int .i64 0,.int .i64 0,.int .i64 0,.slice none 0 0] 84)) hgb).size;have:=hk11.size;omega
       intro v' wc hOwn hApp
       have hgc:Gr wb wc:=gr_none hApp.grown
       rw [Nat.zero_add,List.nil_append] at hOwn
       have HOwn:=hid hOwn
       obtain ⟨A4,c4,rfl⟩:=hOwn.form
       have hGc:Gr w11 wc:=Gr.tr (Gr.tr (Gr.al hga _) hgb) hgc
       refine hK _ _ (hGc.by _) ?_
       clear hK K hOwn hApp
       refine wpG_one 9 (by kernel_rfl) rfl rfl (fun K hK wq hgq=>?_)
       go_simp
       have hGq:Gr w11 wq:=Gr.tr hGc hgq
       refine hK _ _ (hGq.by _) ?_
       clear hK K
       refine wpG_one 11 (by kernel_rfl) rfl rfl (fun K hK wd hgd=>?_)
       have hbk:=(Bk.new wa 84 #[.int .i64 0,.int .i64 0,.int .i64 0,.slice none 0 0] (0,0)).gr (Gr.tr (Gr.tr (Gr.tr hgb hgc) hgq) hgd)
       obtain ⟨s0,s1,s2,s3⟩:=hbk.cells4
       obtain ⟨t0,t1,t2,t3⟩:=hbk.free4
       have hGd:Gr w11 wd:=Gr.tr hGq hgd
       go_simp
       refine hK _ _ (by_new4 (hGd.by _) hga.size _ _ _ _) ?_
       clear hK K s0 s1 s2 s3 t0 t1 t2 t3
       refine wpG_done (by kernel_rfl) (fun we hge=>?_)
       go_wp2_with fail
       go_meet
       have hbw:wa.heap.size≠g:=by have:=HB11.out.lt;have:=hga.size;omega
       have hgb2:g < wa.heap.size:=by have:=HB11.out.lt;have:=hga.size;omega
       have hbl:gr < wa.heap.size:=by have:=HB11.out.lt;have:=hga.size;omega
       have hwl:w.heap.size≤wa.heap.size:=by omega
       have hHB:=(((((HB11.out.gr hGd).far (p:=⟨wa.heap.size,0,none⟩) (Nat.ne_of_lt hbl) (.int .i64 rf)).far (p:=⟨wa.heap.size,1,none⟩) (Nat.ne_of_lt hbl) (.int .i64 rt)).far (p:=⟨wa.heap.size,2,none⟩) (Nat.ne_of_lt hbl) (.int .i64 rn)).far (p:=⟨wa.heap.size,3,none⟩) (Nat.ne_of_lt hbl) (.slice A4 (rt-rf).toNat c4)).gr hge
       have hHS:=(((((HS11.out.gr hGd).far hgb2 0 (.int .i64 rf)).far hgb2 1 (.int .i64 rt)).far hgb2 2 (.int .i64 rn)).far hgb2 3 (.slice A4 (rt-rf).toNat c4)).gr hge
       have hOw:=((own_far4 (HOwn.out.gr (Gr.tr hgq hgd)) hbk (by decide)).gr hge)
       exact ⟨wa.heap.size,.slice A4 (rt-rf).toNat c4,rfl,hbl,by_tr (by_new4 (by_tr hk11 hGd) hwl _ _ _ _) hge,hHS,hHB,(hbk.set4 _ _ _ _).gr hge,hOw⟩
     case rest=>
      obtain ⟨bp,v',rfl,hbl,hk12,hs12,hb12,hp12,hown12⟩:=hcut
      obtain ⟨A4,c4,rfl⟩:=hown12.form
      obtain ⟨A5,c5,hb5,hy5,ho5⟩:=hs12
      have hbp:g≠bp:=by omega
      have hbp2:gr≠bp:=by omega
      obtain ⟨q0,q1⟩:=hb5.cells2
      obtain ⟨f0,f1⟩:=hb5.free2
      obtain ⟨z0,z1,z2,z3⟩:=hb12.cells4
      obtain ⟨d0,d1,d2,d3⟩:=hb12.free4
      obtain ⟨p0,p1,p2,p3⟩:=hp12.cells4
      have HY5:=hid hy5;have HO5:=hid ho5;have HB5:=hid hb5;have HB12:=hid hb12;have HP12:=hid hp12;have HW12:=hid hown12
      clear hy5 ho5 hb5 hb12 hp12 hown12 x0 x1 HX11 HY HO HBG HS11 HB11 hk11 HSL
      rw [HD.out] at HE
      clear HD
      go_wp2_with (refine wpList_slLoB _ _ rfl rfl rfl rfl HY5.out ?_ ?_ ?_;omega;omega;intro A3 hA3 hO3;have HA3:=hid hA3;have HO3:=hid hO3;clear hA3 hO3)
      obtain ⟨y0,y1,y2,y3⟩:=((HB12.out.far (p:=⟨g,0,none⟩) (Ne.symm hgn) (.slice A3 (l3.length-(rt-rf).toNat) (c5-(rt-rf).toNat))).set4 (.int .i64 rf) (.int .i64 rt) (.int .i64 rn) (.slice A4 (rt-rf).toNat c4)).cells4
      refine bodyPost_ret (v:=.agg #[.int .i64 rf,.int .i64 rt,.int .i64 rn,.slice A4 (rt-rf).toNat c4]) (by simp [results,Tryz.results70,go_sem,y0,y1,y2,y3]) rfl ?_
      have hne:l3.drop (rt-rf).toNat=[]∨∀b,(Value.slice A3 (l3.length-(rt-rf).toNat) (c5-(rt-rf).toNat)).ownBlock=some b→b < g:=by
       rcases HO5.out with h | h
       ·left;rw [h];simp
       ·right;rw [HO3.out];exact h
      have hx:=HB5.out.set 0 (.slice A3 (l3.length-(rt-rf).toNat) (c5-(rt-rf).toNat))
      simp only [List.setIfInBounds_toArray,List.set_cons_zero] at hx
      have hs13:Scan (wc.setCell ⟨g,0,none⟩ (.slice A3 (l3.length-(rt-rf).toNat) (c5-(rt-rf).toNat))) g (l3.drop (rt-rf).toNat) 0:=by
       refine ⟨A3,c5-(rt-rf).toNat,?_,?_,?_⟩
       ·simp only [List.length_drop];exact hx
       ·simp only [List.length_drop];exact HA3.out.stO hne (Nat.le_refl g) 0 _
       ·simp only [List.length_drop];exact hne
      have hk13:=by_new4 (by_st hk12 0 (.slice A3 (l3.length-(rt-rf).toNat) (c5-(rt-rf).toNat))) (Nat.le_of_eq hgg) (.int .i64 rf) (.int .i64 rt) (.int .i64 rn) (.slice A4 (rt-rf).toNat c4)
      refine ⟨hk13,?_⟩
      rw [HE.out]
      have hlt:(l3.take (rt-rf).toNat).length=(rt-rf).toNat:=by rw [List.length_take];omega
      refine ⟨_,rfl,(((hs13.far hgl _ _).far hgl _ _).far hgl _ _).far hgl _ _,?_⟩
      simp only [hlt]
      have hog:(Value.slice A4 (rt-rf).toNat c4).ownBlock≠some g:=own_ne HW12.out (by omega)
      have how:=own_kr HW12.out (by_st ((Gr.refl wc).by (some g)) 0 (.slice A3 (l3.length-(rt-rf).toNat) (c5-(rt-rf).toNat))) (.inr hog)
      exact own_far4 how (HB12.out.far (p:=⟨g,0,none⟩) (Ne.symm hgn) (.slice A3 (l3.length-(rt-rf).toNat) (c5-(rt-rf).toNat))) (by decide)
   ·have hn:((e6:Int) != 0)=true:=by simp;exact h6
    have HE:=hid (HR1.out h6)
    go_wp2_with fail
    have HB12:=HB11;have hk12:=hk11;have HS12:=HS11
    obtain ⟨y0,y1,y2,y3⟩:=(HB12.out.set4 (.int .i64 0) (.int .i64 0) (.int .i64 0) (.slice none 0 0)).cells4
    exact bodyPost_ret (v:=.agg #[.int .i64 0,.int .i64 0,.int .i64 0,.slice none 0 0]) (by simp [results,Tryz.results70,go_sem,y0,y1,y2,y3]) rfl ⟨by_new (by_new (by_new (by_new hk12 (Nat.le_of_eq hgg) _) (Nat.le_of_eq hgg) _) (Nat.le_of_eq hgg) _) (Nat.le_of_eq hgg) _,by rw [HE.out];exact ⟨l3,rfl,(((HS12.out.far hgl _ _).far hgl _ _).far hgl _ _).far hgl _ _⟩⟩
end Go.Proofs.YtgfckbhkgggkeaaGreatDoor
/- XMulti8 -/
namespace Go.Proofs.YtgfckbhkgggkeaaGreatDoor
open Lib (hid)
open Go.RowKit
def flatQ (L:List (PieceT×Value)):List Value:=L.flatMap fun x=>[.int .i64 x.1.1.1,.int .i64 x.1.1.2.1,.int .i64 x.1.1.2.2,x.2]
theorem flatQ_snoc (L:List (PieceT×Value)) (x:PieceT×Value):flatQ (L++[x])=flatQ L++[.int .i64 x.1.1.1,.int .i64 x.1.1.2.1,.int .i64 x.1.1.2.2,x.2]:=by
 unfold flatQ;rw [List.flatMap_append];simp
def Pieces (w:World) (v:Value) (ps:List PieceT):Prop:=∃L:List (PieceT×Value),L.map (·.1)=ps∧Sl w v L.length (flatQ L)∧∀x∈L,Byts w x.2 x.1.2
def ReadEnd (w:World) (r:Nat ⊕ List PieceT) (e:Ending) (w':World):Prop:=Gr w w'∧match r with
 | .inl n=>e=.returned (.tuple #[.slice none 0 0,.int .i64 (n:Int)])
 | .inr ps=>∃v,e=.returned (.tuple #[v,.int .i64 0])∧Pieces w' v ps
theorem own_base {W0 W1 w:World} {e:TypeId} {size n:Nat} {v:Value} {xs:List Value} (h:Own W1 w e size v n xs) (hb:W0.heap.size≤W1.heap.size):Own W0 w e size v n xs:=by
 refine ⟨h.1,?_⟩
 rcases h.2 with hn | ⟨b,cap,cur,hv,hbb,r⟩
 ·exact .inl hn
 ·exact .inr ⟨b,cap,cur,hv,Nat.le_trans hb hbb,r⟩
theorem Scan.byo {w w':World} {g:Nat} {l:List UInt8} {e:Nat} {r:Option Nat} (h:Scan w g l e) (hr:∀b,r=some b→g < b) (hb:w.grownBy w' r):Scan w' g l e:=by
 cases r with
 | none=>exact h.gr (gr_none hb)
 | some b=>exact h.byk (hr b rfl) hb
def aheadP (out:List PieceT) (s:List UInt8):List UInt8×Nat:=if out=[] then (s,0) else (s.drop 2,mustS (s.take 2==[13,10]) 0)
theorem pieceE_ne {first:Bool} {tot:Int} {l:List UInt8} {e n:Nat} (h:pieceE first tot l e=.inl n):n≠0:=by
 unfold pieceE at h
 split at h
 ·rename_i he;injection h with h;subst h;exact he
 ·unfold pieceL dataL at h
  repeat (first | split at h | (simp only [Sum.inl.injEq] at h;subst h;decide) | cases h)
theorem round_short {bnd:List UInt8} {out:List PieceT} {s:List UInt8} (h:out≠[]) (hs:s.length < 2):stepR bnd out s=.inl (.inl 13):=by
 have hl:out.length≠0:=fun e=>h (List.length_eq_zero_iff.1 e)
 unfold stepR aheadR;rw [if_neg hl,if_pos hs]
theorem round_last {bnd:List UInt8} {out:List PieceT} {s t s2:List UInt8} (h:out≠[]) (hs:¬s.length < 2) (hl:lineS (aheadP out s).1 (aheadP out s).2=(t,s2,0)) (ht:t=[45,45]++bnd++[45,45]):stepR bnd out s=.inl (if s2=[] then .inr out else .inl 2):=by
 have hn:out.length≠0:=fun e=>h (List.length_eq_zero_iff.1 e)
 unfold aheadP at hl
 rw [if_neg h] at hl
 simp only at hl
 unfold stepR aheadR
 rw [if_neg hn,if_neg hs]
 by_cases hc:s.take 2=[13,10]
 ·rw [if_pos hc]
  have hb:(s.take 2==[13,10])=true:=by simpa using hc
  rw [hb,mustS_yes] at hl
  simp only
  cases h1:lnL (s.drop 2) with
  | none=>rw [lineS_none h1] at hl;cases hl
  | some x=>
    rw [lineS_some h1] at hl
    simp only [Prod.mk.injEq] at hl
    obtain ⟨rfl,rfl,_⟩:=hl
    simp only
    rw [if_pos ⟨h,ht⟩]
    split <;> rfl
 ·have hb:(s.take 2==[13,10])=false:=by simpa using hc
  rw [hb,mustS_no,lineS_2] at hl
  cases hl
theorem round_next {bnd:List UInt8} {out:List PieceT} {s t s2:List UInt8} {e2:Nat} (hs:out≠[]→¬s.length < 2) (hl:lineS (aheadP out s).1 (aheadP out s).2=(t,s2,e2)) (ht:¬(e2=0∧out≠[]∧t=[45,45]++bnd++[45,45])) :
  stepR bnd out s=match pieceE out.isEmpty (totOf out) s2 (mustS (t==[45,45]++bnd) e2) with
   | .inl n=>.inl (.inl n)
   | .inr (p,r)=>.inr (out++[p],r):=by
 have core:∀s1,lineS s1 0=(t,s2,e2)→(match lnL s1 with
  | none=>.inl (.inl 13)
  | some (t,r)=>if out≠[]∧t=[45,45]++bnd++[45,45] then (if r=[] then .inl (.inr out) else .inl (.inl 2))
    else if t=[45,45]++bnd then (match pieceL out.isEmpty (totOf out) r with
     | .inl e=>.inl (.inl e)
     | .inr (p,r)=>.inr (out++[p],r))
    else .inl (.inl 2):(Nat ⊕ List PieceT) ⊕ (List PieceT×List UInt8))=match pieceE out.isEmpty (totOf out) s2 (mustS (t==[45,45]++bnd) e2) with
    | .inl n=>.inl (.inl n)
    | .inr (p,r)=>.inr (out++[p],r):=by
  intro s1 hl
  cases h1:lnL s1 with
  | none=>
    rw [lineS_none h1] at hl
    simp only [Prod.mk.injEq] at hl
    obtain ⟨rfl,rfl,rfl⟩:=hl
    rw [mustS_13];rfl
  | some x=>
    obtain ⟨t',r'⟩:=x
    rw [lineS_some h1] at hl
    simp only [Prod.mk.injEq] at hl
    obtain ⟨rfl,rfl,rfl⟩:=hl
    simp only
    rw [if_neg (fun hh=>ht ⟨rfl,hh.1,hh.2⟩)]
    by_cases hd:t'=[45,45]++bnd
    ·have hb:(t'==[45,45]++bnd)=true:=by simpa using hd
     rw [if_pos hd,hb,mustS_yes];rfl
    ·have hb:(t'==[45,45]++bnd)=false:=by simpa using hd
     rw [if_neg hd,hb,mustS_no];rfl
 unfold aheadP at hl
 by_cases ho:out=[]
 ·rw [if_pos ho] at hl
  simp only at hl
  unfold stepR aheadR
  rw [if_pos (by rw [ho];rfl)]
  simp only
  exact core s hl
 ·have hn:out.length≠0:=fun e=>ho (List.length_eq_zero_iff.1 e)
  rw [if_neg ho] at hl
  simp only at hl
  unfold stepR aheadR
  rw [if_neg hn,if_neg (hs ho)]
  by_cases hc:s.take 2=[13,10]
  ·have hb:(s.take 2==[13,10])=true:=by simpa using hc
   rw [hb,mustS_yes] at hl
   rw [if_pos hc]
   simp only
   exact core _ hl
  ·have hb:(s.take 2==[13,10])=false:=by simpa using hc
   rw [hb,mustS_no,lineS_2] at hl
   simp only [Prod.mk.injEq] at hl
   obtain ⟨rfl,rfl,rfl⟩:=hl
   rw [if_neg hc,mustS_2];rfl
theorem elemPiece:ElemOk Tryz.prog 80 84 (.agg #[.int .i64 0,.int .i64 0,.int .i64 0,.slice none 0 0]) 4 48:=⟨Tryz.underlying80,by kernel_rfl,rfl,by omega⟩
theorem ne_byte_piece:5≠84:=by decide
theorem one_piece (a b c:Int) (A:Option Addr) (n k:Nat):∀u∈[Value.int .i64 a,.int .i64 b,.int .i64 c,.slice A n k],u.oneCell'=true:=by
 intro u hu
 simp only [List.mem_cons,List.not_mem_nil,or_false] at hu
 rcases hu with rfl | rfl | rfl | rfl <;> rfl
theorem rd_at {W0 w:World} {e:TypeId} {size m c:Nat} {A:Option Addr} {xs:List Value} (h:Own W0 w e size (.slice A m c) m xs) (hm:0 < m):∃ba,A=some ⟨ba,0,none⟩∧m≤c:=by
 rcases h.2 with ⟨hv,hn⟩ | ⟨b,cap,cur,hv,_,_,hc,_⟩
 ·omega
 ·cases hv;exact ⟨b,rfl,hc⟩
theorem rd_get {W0 w:World} {e:TypeId} {size n ba c j:Nat} {u:Value} {xs:List Value} (h:Own W0 w e size (.slice (some ⟨ba,0,none⟩) n c) n xs) (hj:xs[j]?=some u):w.cell? ⟨ba,j,none⟩=some u:=by
 rcases h.2 with ⟨hv,hn⟩ | ⟨b,cap,cur,hv,_,hh,hc,_,hz,ht⟩
 ·cases hv
 ·cases hv
  have hb:Bk w ba e cur (0,0):=hh
  rw [←ht,List.getElem?_take] at hj
  split at hj
  ·rw [hb.cell j,←Array.getElem?_toList];exact hj
  ·cases hj
theorem flatQ_tot {L:List (PieceT×Value)} (h:0 < L.length):(flatQ L)[2]?=some (.int .i64 (totOf (L.map (·.1)))):=by
 cases L with
 | nil=>simp at h
 | cons x L=>rfl
structure RdI (w W0:World) (g:Nat) (bnd s0:List UInt8) (L:List (PieceT×Value)) (s:List UInt8) (e:Nat) (v:Value) (wr:World):Prop where
 row:Own W0 wr 84 4 v L.length (flatQ L)
 byts:∀x∈L,Own W0 wr 5 1 x.2 x.1.2.length (x.1.2.map byt)
 scan:Scan wr g s e
 gr:Gr w wr
 szr:W0.heap.size≤wr.heap.size
 all:(e=0→L.length+s.length≤s0.length∧readG bnd (L.map (·.1)) s=readG bnd [] s0)∧(e≠0→readG bnd [] s0=.inl e)
theorem RdI.by {w W0:World} {g:Nat} {bnd s0:List UInt8} {L:List (PieceT×Value)} {s s':List UInt8} {e e':Nat} {v:Value} {wr wx:World} (h:RdI w W0 g bnd s0 L s e v wr) (k:wr.grownBy wx (some g)) (hg:g < W0.heap.size) (hw:w.heap.size≤g) (hs:Scan wx g s' e') :
  Own W0 wx 84 4 v L.length (flatQ L)∧(∀x∈L,Own W0 wx 5 1 x.2 x.1.2.length (x.1.2.map byt))∧Scan wx g s' e'∧Gr w wx:=
 ⟨own_kr h.row k (.inr (own_ne h.row hg)),fun x hx=>own_kr (h.byts x hx) k (.inr (own_ne (h.byts x hx) hg)),hs,gr_by h.gr k hw⟩
theorem RdI.app {w W0:World} {g:Nat} {bnd s0:List UInt8} {L:List (PieceT×Value)} {s:List UInt8} {e:Nat} {v v':Value} {wx w':World} {x:PieceT×Value}
  (hr:Own W0 wx 84 4 v L.length (flatQ L)) (hb:∀x∈L,Own W0 wx 5 1 x.2 x.1.2.length (x.1.2.map byt)) (hs:Scan wx g s e) (hg:Gr w wx) (hgl:g < W0.heap.size) (hz:W0.heap.size≤wx.heap.size)
  (ha:App v v' wx w') (ho:Own W0 w' 84 4 v' (L.length+1) (flatQ L++[.int .i64 x.1.1.1,.int .i64 x.1.1.2.1,.int .i64 x.1.1.2.2,x.2])) (hx:Own W0 wx 5 1 x.2 x.1.2.length (x.1.2.map byt))
  (hw:w.heap.size≤W0.heap.size)
  (hall:(e=0→(L++[x]).length+s.length≤s0.length∧readG bnd ((L++[x]).map (·.1)) s=readG bnd [] s0)∧(e≠0→readG bnd [] s0=.inl e)):RdI w W0 g bnd s0 (L++[x]) s e v' w':=by
 have keep:∀y:PieceT×Value,Own W0 wx 5 1 y.2 y.1.2.length (y.1.2.map byt)→Own W0 w' 5 1 y.2 y.1.2.length (y.1.2.map byt):=fun y hy=>own_kr hy ha.grown (own_own hy hr ne_byte_piece)
 refine ⟨?_,?_,?_,?_,Nat.le_trans hz ha.grown.size,hall⟩
 ·rw [flatQ_snoc,List.length_append];exact ho
 ·intro y hy
  rcases List.mem_append.1 hy with h | h
  ·exact keep y (hb y h)
  ·simp only [List.mem_singleton] at h;subst h;exact keep y hx
 ·exact hs.byo (fun b hb=>Nat.lt_of_lt_of_le hgl (World.ownsRow.lt hr b hb).1) ha.grown
 ·exact Below.grown hg ha.grown hg.size (fun b hb=>Nat.le_trans hw (World.ownsRow.lt hr b hb).1)
end Go.Proofs.YtgfckbhkgggkeaaGreatDoor
/- XMulti9 -/
namespace Go.Proofs.YtgfckbhkgggkeaaGreatDoor
open Lib (hid)
open Go.RowKit
set_option maxHeartbeats 8000000 in
set_option maxRecDepth 100000 in
theorem read_any (u:Value) (s0 bnd:List UInt8) (w:World) (hv:Vars w) (hu:Byts w u s0) (h0:s0.length≤1000000) (hbn:bnd.length≤1000000) :
  Calls Tryz.prog 35 #[u,str bnd] w (ReadEnd w (multiL bnd s0)):=by
 have HV:=hid (fun (x:World) (h:Gr w x)=>hv.gr h);clear hv
 obtain ⟨A,c,rfl,hc,hm,_⟩:=hu.open
 have HU:=hid hu;clear hu
 have HBN:=hid (fun (w:World)=>bounds_any bnd w (by omega))
 cases hb:boundB bnd with
 | false=>
   rw [hb] at HBN
   have HR:=hid (multiL_no (s:=s0) hb)
   go_enter Tryz.func35,Tryz.ntmps35
   go_wp2_with (go_at_call 67;refine (HBN.out _).mono ?_;rintro e w1 ⟨rfl,hG1⟩)
   go_ret2
   rw [HR.out]
   exact ⟨hG1,rfl⟩
 | true=>
   rw [hb] at HBN
   rw [multiL_eq hb]
   go_enter Tryz.func35,Tryz.ntmps35
   go_upto_region 4 with (go_at_call 67;refine (HBN.out _).mono ?_;rintro e w1 ⟨rfl,hG1⟩)
   have hbk:=Bk.new w1 128 #[.slice A s0.length c,.int .i64 0] (0,0)
   have hG2:=Gr.al (Gr.refl w1) (Obj.cells #[.slice A s0.length c,.int .i64 0] 128)
   have hown:s0=[]∨∀b,(Value.slice A s0.length c).ownBlock=some b→b < w1.heap.size:=by
    rcases HU.out with ⟨A',c',hv,_,_,hh⟩
    injection hv with e1 e2 e3
    subst e1 e3
    rcases hh with hh | ⟨b,o,rfl,hb,_⟩
    ·left;exact List.map_eq_nil_iff.1 hh
    ·right;intro b' e
     have:b=b':=by simpa [Value.ownBlock] using e
     have:=hG1.size
     omega
   have hscan:Scan (w1.alloc (Obj.cells #[.slice A s0.length c,.int .i64 0] 128)) w1.heap.size s0 0:=⟨A,c,hbk,HU.out.gr (Gr.tr hG1 hG2),hown⟩
   have hgw:w.heap.size≤w1.heap.size:=hG1.size
   have hGw:=Gr.tr hG1 hG2
   have hgl:w1.heap.size < (w1.alloc (Obj.cells #[.slice A s0.length c,.int .i64 0] 128)).heap.size:=hbk.lt
   generalize hW0:w1.alloc (Obj.cells #[.slice A s0.length c,.int .i64 0] 128)=W0 at *
   generalize w1.heap.size=g at *
   clear hW0 hbk hG2 hG1 hown HU HBN
   have hI0:RdI w W0 g bnd s0 [] s0 0 (.slice none 0 0) W0:=⟨Own.nil _ _ _ _,by simp,hscan,hGw,Nat.le_refl _,⟨fun _=>⟨by simp,rfl⟩,fun h=>absurd rfl h⟩⟩
   have HI0:=hid hI0
   have hww:w.heap.size≤W0.heap.size:=hGw.size
   clear hI0 hscan hGw
   go_wp2_with fail
   go_loopg [4,5,7,8,9] (s0.length+2) (fun gk s4 s5 s7 s8 s9 wr=>∃L s e,gk=(if e=0 then s.length+1 else 0)+1∧RdI w W0 g bnd s0 L s e s7 wr)
   case atStart=>exact ⟨[],s0,0,by simp,HI0.out⟩
   case round=>
    obtain ⟨L,s,e,hgk,hI⟩:=hrel
    have HI:=hid hI
    obtain ⟨A1,c1,hrow⟩:=hI.row.form
    subst hrow
    obtain ⟨A2,c2,hb2,hy2,ho2⟩:=hI.scan
    obtain ⟨q0,q1⟩:=hb2.cells2
    obtain ⟨f0,f1⟩:=hb2.free2
    have HB2:=hid hb2;have HY2:=hid hy2;have HO2:=hid ho2
    clear hI hb2 hy2 ho2
    by_cases he:e=0
    ·subst he
     have hfw:=(HI.out.all.1 rfl).1
     have HRG:=hid (HI.out.all.1 rfl).2
     by_cases hL:L=[]
     ·subst hL
      obtain ⟨s1,hs1⟩:∃s1,s1=s:=⟨_,rfl⟩
      subst hs1
      obtain ⟨e1,he1⟩:∃e1,e1=0:=⟨_,rfl⟩
      have HS4:=hid HI.out.scan
      have hk4:=(Gr.refl wr).by (some g)
      rw [←he1] at HS4
      have HAP:=hid (show aheadP [] s1=(s1,e1) from by rw [he1];rfl)
      clear he1
      simp only [List.length_nil] at *
      obtain ⟨t,s2,e2,hline⟩:∃t s2 e2,lineS s1 e1=(t,s2,e2):=⟨_,_,_,rfl⟩
      have hlen:=lineS_len s1 e1
      rw [hline] at hlen
      simp only at hlen
      have HLN:=hid (line_eq hline)
      go_upto_region 12 with (go_at_call 69;refine (HLN.out _ _ HS4.out (HV.out _ (gr_by HI.out.gr hk4 hgw)).ml (by omega)).mono ?_;rintro e w5 ⟨rfl,hs5,hk5⟩;have HS5:=hid hs5;have hk5:=by_trans hk4 hk5;obtain ⟨A5,c5,hb5,hy5,ho5⟩:=hs5;obtain ⟨q0,q1⟩:=hb5.cells2;have HY5:=hid hy5;clear hb5 hy5 ho5)
      clear HS4 hk4 HLN
      have HST:=hid (round_next (bnd:=bnd) (out:=[]) (s:=s1) (t:=t) (s2:=s2) (e2:=e2) (fun h=>absurd rfl h) (by rw [HAP.out];exact hline) (fun hh=>hh.2.1 rfl))
      rw [show (List.isEmpty ([]:List PieceT))=true from rfl,show totOf []=0 from rfl] at HST
      clear hline HAP
      go_cut [50] (fun s50 wx=>s50=.bool false∧w5=wx)
      case first=>
       by_cases h20:e2=0
       ·subst h20
        go_wp2_with fail
        go_meet
        exact ⟨rfl,rfl⟩
       ·have k20:((e2:Int)==0)=false:=by simpa using h20
        go_wp2_with fail
        go_meet
        exact ⟨rfl,rfl⟩
      case rest=>
       obtain ⟨rfl,rfl⟩:=hcut
       clear q0 q1
       go_upto_region 17 with (go_at_call 68;refine (scanMust_any _ _ _ _ _ HS5.out).mono ?_;rintro e w6 ⟨rfl,hs6,hk6⟩;have HS6:=hid (show Scan w6 g s2 (mustS (t==[45,45]++bnd) e2) from hs6);have hk6:=by_trans hk5 hk6)
       have hI6:=HI.out.by hk6 hgl hgw HS6.out
       obtain ⟨ro6,by6,_,gr6⟩:=hI6
       replace ro6:Own W0 w6 84 4 (.slice A1 0 c1) 0 []:=ro6
       have HRO:=hid ro6;have HBY:=hid by6
       have HP:=hid (piece_any w6 g s2 (mustS (t==[45,45]++bnd) e2) true 0 HS6.out (fun x hx=>HV.out x (gr_by gr6 hx hgw)) (by omega))
       clear ro6 by6 hs6
       generalize mustS (t==[45,45]++bnd) e2=e3 at *
       cases hp:pieceE true 0 s2 e3 with
       | inl n=>
         rw [hp] at HP HST
         have hn:=pieceE_ne hp
         have HR:=hid (show readG bnd [] s0=.inl n from by rw [←HRG.out];exact readG_end HST.out)
         go_wp2_with (first
          | (go_at_call 70;refine HP.out.mono ?_;rintro e w7 ⟨hk7,l7,rfl,hs7⟩;have hro7:=own_kr HRO.out hk7 (.inr (own_ne HRO.out hgl));have HS7:=hid hs7;have HR7:=hid hro7;have hz7:W0.heap.size≤w7.heap.size:=(by_trans hk6 hk7).size |> Nat.le_trans HI.out.szr;clear hs7 hro7)
          | (at_builtin;refine wpList_app1x (W0:=W0) (W:=w7) elemPiece rfl _ _ rfl rfl rfl hz7 HR7.out rfl (one_piece _ _ _ _ _ _) (by omega) (by omega) ?_;intro v8 w8 hown8 happ8))
         go_roundg 1
         case measure=>first | omega | (rw [hgk];simp)
         case rel=>
          refine ⟨([]:List (PieceT×Value))++[(((0,0,0),[]),.slice none 0 0)],l7,n,by rw [if_neg hn],?_⟩
          have hk78:=by_trans hk6 hk7
          have hI7:=HI.out.by hk78 hgl hgw HS7.out
          exact RdI.app hI7.1 hI7.2.1 hI7.2.2.1 hI7.2.2.2 hgl hz7 happ8 (by first | exact hown8 | simpa using hown8) (Own.nil _ _ _ _) hww ⟨fun h=>absurd h hn,fun _=>HR.out⟩
       | inr x=>
         obtain ⟨p,r⟩:=x
         obtain ⟨⟨pf,pt,pn⟩,pb⟩:=p
         rw [hp] at HP HST
         have hless:=(stepR_less HST.out).1
         have HR:=hid (show readG bnd (([]:List (PieceT×Value)).map (·.1)++[((pf,pt,pn),pb)]) r=readG bnd [] s0 from by rw [←HRG.out];exact (readG_step HST.out).symm)
         go_wp2_with (first
          | (go_at_call 70;refine HP.out.mono ?_;rintro e w7 ⟨hk7,v7,rfl,hs7,hw7⟩;have hro7:=own_kr HRO.out hk7 (.inr (own_ne HRO.out hgl));obtain ⟨A7,c7,rfl⟩:=hw7.form;have HS7:=hid hs7;have HR7:=hid hro7;have HW7:=hid hw7;have hz7:W0.heap.size≤w7.heap.size:=(by_trans hk6 hk7).size |> Nat.le_trans HI.out.szr;clear hs7 hro7 hw7)
          | (at_builtin;refine wpList_app1x (W0:=W0) (W:=w7) elemPiece rfl _ _ rfl rfl rfl hz7 HR7.out rfl (one_piece _ _ _ _ _ _) (by omega) (by omega) ?_;intro v8 w8 hown8 happ8))
         go_roundg (r.length+2)
         case measure=>first | omega | (rw [hgk];simp;omega)
         case rel=>
          refine ⟨([]:List (PieceT×Value))++[(((pf,pt,pn),pb),.slice A7 pb.length c7)],r,0,by simp,?_⟩
          have hk78:=by_trans hk6 hk7
          have hI7:=HI.out.by hk78 hgl hgw HS7.out
          refine RdI.app hI7.1 hI7.2.1 hI7.2.2.1 hI7.2.2.2 hgl hz7 happ8 (by first | exact hown8 | simpa using hown8) (own_base HW7.out (Nat.le_trans HI.out.szr hk6.size)) hww ⟨fun _=>⟨by simp;omega,by rw [List.map_append];exact HR.out⟩,fun h=>absurd rfl h⟩
     ·have hln:0 < L.length:=List.length_pos_iff.2 hL
      have HNE:=hid (show L.map (·.1)≠[] from by simpa using hL)
      have dl:decide (0 < (L.length:Int))=true:=decide_eq_true (by omega)
      have dl0:((L.length:Int)==0)=false:=by simpa using hL
      clear hL
      by_cases h2:s.length < 2
      ·have d2:decide ((s.length:Int) < 2)=true:=decide_eq_true (by omega)
       have HR:=hid (show readG bnd [] s0=.inl 13 from by rw [←HRG.out];exact readG_end (round_short HNE.out h2))
       go_wp2_with fail
       go_ret2
       rw [HR.out]
       exact ⟨HI.out.gr,rfl⟩
      ·have d2:decide ((s.length:Int) < 2)=false:=decide_eq_false (by omega)
       go_upto_region 11 with (first
        | (refine wpList_slHi _ _ rfl rfl rfl rfl HY2.out ?_ ?_ ?_;omega;omega;intro A3 hA3;have HA3:=hid hA3;clear hA3)
        | (refine wpList_toStr _ rfl rfl rfl HA3.out ?_)
        | (go_at_call 68;refine (scanMust_any _ _ _ _ _ HI.out.scan).mono ?_;rintro e w3 ⟨rfl,hs3,hk3⟩;obtain ⟨A5,c5,hb5,hy5,ho5⟩:=hs3;obtain ⟨q0,q1⟩:=hb5.cells2;obtain ⟨f0,f1⟩:=hb5.free2;have HY5:=hid hy5;have HB5:=hid hb5;have HO5:=hid ho5;clear hb5 hy5 ho5)
        | (refine wpList_slLoB _ _ rfl rfl rfl rfl HY5.out ?_ ?_ ?_;omega;omega;intro A6 hA6 hO6;have HA6:=hid hA6;have HO6:=hid hO6;clear hA6 hO6))
       have hs4:Scan (w3.setCell ⟨g,0,none⟩ (.slice A6 (s.length-2) (c5-2))) g (s.drop 2) (mustS (s.take 2==[13,10]) 0):=by
        have hx:=HB5.out.set 0 (.slice A6 (s.length-2) (c5-2))
        simp only [List.setIfInBounds_toArray,List.set_cons_zero] at hx
        have hne:s.drop 2=[]∨∀b,(Value.slice A6 (s.length-2) (c5-2)).ownBlock=some b→b < g:=by
         rcases HO5.out with h | h
         ·left;rw [h];rfl
         ·right;intro b hb;exact h b (HO6.out.symm.trans hb)
        refine ⟨A6,c5-2,?_,?_,?_⟩
        ·simp only [List.length_drop];exact hx
        ·simp only [List.length_drop];exact HA6.out.stO hne (Nat.le_refl g) 0 _
        ·simp only [List.length_drop];exact hne
       have hk4:=by_st hk3 0 (.slice A6 (s.length-2) (c5-2))
       have HS4:=hid hs4
       have HAP:=hid (show aheadP (L.map (·.1)) s=(s.drop 2,mustS (s.take 2==[13,10]) 0) from if_neg HNE.out)
       have hl1:(s.drop 2).length≤s.length:=by rw [List.length_drop];omega
       generalize w3.setCell ⟨g,0,none⟩ (.slice A6 (s.length-2) (c5-2))=w4 at *
       generalize s.drop 2=s1 at *
       generalize mustS (s.take 2==[13,10]) 0=e1 at *
       clear hs4 hk3 HB5 HY5 HO5 HA6 HO6 HA3
       obtain ⟨t,s2,e2,hline⟩:∃t s2 e2,lineS s1 e1=(t,s2,e2):=⟨_,_,_,rfl⟩
       have hlen:=lineS_len s1 e1
       rw [hline] at hlen
       simp only at hlen
       have HLN:=hid (line_eq hline)
       go_upto_region 12 with (go_at_call 69;refine (HLN.out _ _ HS4.out (HV.out _ (gr_by HI.out.gr hk4 hgw)).ml (by omega)).mono ?_;rintro e w5 ⟨rfl,hs5,hk5⟩;have HS5:=hid hs5;have hk5:=by_trans hk4 hk5;obtain ⟨A5,c5,hb5,hy5,ho5⟩:=hs5;obtain ⟨q0,q1⟩:=hb5.cells2;have HY5:=hid hy5;clear hb5 hy5 ho5)
       clear HS4 hk4 HLN
       by_cases hcl:e2=0∧t=[45,45]++bnd++[45,45]
       ·obtain ⟨rfl,ht⟩:=hcl
        have kt:(t==[45,45]++bnd++[45,45])=true:=by simpa using ht
        have kt2:(t==45::45::(bnd++[45,45]))=true:=by simpa using ht
        have HST:=hid (round_last (bnd:=bnd) (t:=t) (s2:=s2) HNE.out h2 (by rw [HAP.out];exact hline) ht)
        clear ht hline
        by_cases hs2:s2=[]
        ·have HR:=hid (show readG bnd [] s0=.inr (L.map (·.1)) from by rw [←HRG.out,readG_end HST.out,if_pos hs2])
         subst hs2
         go_wp2_with fail
         go_ret2
         rw [HR.out]
         have hI5:=HI.out.by hk5 hgl hgw HS5.out
         exact ⟨hI5.2.2.2,_,rfl,L,rfl,hI5.1.sl (by decide),fun x hx=>own_byts (hI5.2.1 x hx)⟩
        ·have HR:=hid (show readG bnd [] s0=.inl 2 from by rw [←HRG.out,readG_end HST.out,if_neg hs2])
         have kz:0 < s2.length:=List.length_pos_iff.2 hs2
         clear hs2
         go_wp2_with fail
         go_ret2
         rw [HR.out]
         exact ⟨(HI.out.by hk5 hgl hgw HS5.out).2.2.2,rfl⟩
       have HST:=hid (round_next (bnd:=bnd) (out:=L.map (·.1)) (s:=s) (t:=t) (s2:=s2) (e2:=e2) (fun _=>h2) (by rw [HAP.out];exact hline) (fun hh=>hcl ⟨hh.1,hh.2.2⟩))
       rw [show (L.map (·.1)).isEmpty=false from by cases L with | nil=>simp at hln | cons a b=>rfl] at HST
       clear hline HAP
       go_cut [50] (fun s50 wx=>s50=.bool false∧w5=wx)
       case first=>
        by_cases h20:e2=0
        ·subst h20
         have kt:(t==[45,45]++bnd++[45,45])=false:=by simpa using fun h=>hcl ⟨rfl,by simpa using h⟩
         have kt2:(t==45::45::(bnd++[45,45]))=false:=by simpa using fun h=>hcl ⟨rfl,by simpa using h⟩
         go_wp2_with fail
         go_meet
         exact ⟨rfl,rfl⟩
        ·have k20:((e2:Int)==0)=false:=by simpa using h20
         go_wp2_with fail
         go_meet
         exact ⟨rfl,rfl⟩
       case rest=>
        obtain ⟨rfl,rfl⟩:=hcut
        clear q0 q1
        go_upto_region 17 with (go_at_call 68;refine (scanMust_any _ _ _ _ _ HS5.out).mono ?_;rintro e w6 ⟨rfl,hs6,hk6⟩;have HS6:=hid (show Scan w6 g s2 (mustS (t==[45,45]++bnd) e2) from hs6);have hk6:=by_trans hk5 hk6)
        have hI6:=HI.out.by hk6 hgl hgw HS6.out
        obtain ⟨ro6,by6,_,gr6⟩:=hI6
        have HRO:=hid ro6;have HBY:=hid by6
        have HP:=hid (piece_any w6 g s2 (mustS (t==[45,45]++bnd) e2) false (totOf (L.map (·.1))) HS6.out (fun x hx=>HV.out x (gr_by gr6 hx hgw)) (by omega))
        obtain ⟨ba,hba,hca⟩:=rd_at ro6 hln
        subst hba
        have y2:=rd_get ro6 (flatQ_tot hln)
        clear ro6 by6 hs6
        generalize mustS (t==[45,45]++bnd) e2=e3 at *
        cases hp:pieceE false (totOf (L.map (·.1))) s2 e3 with
        | inl n=>
          rw [hp] at HP HST
          have hn:=pieceE_ne hp
          have HR:=hid (show readG bnd [] s0=.inl n from by rw [←HRG.out];exact readG_end HST.out)
          go_wp2_with (first
           | (go_at_call 70;refine HP.out.mono ?_;rintro e w7 ⟨hk7,l7,rfl,hs7⟩;have hro7:=own_kr HRO.out hk7 (.inr (own_ne HRO.out hgl));have HS7:=hid hs7;have HR7:=hid hro7;have hz7:W0.heap.size≤w7.heap.size:=(by_trans hk6 hk7).size |> Nat.le_trans HI.out.szr;clear hs7 hro7)
           | (at_builtin;refine wpList_app1x (W0:=W0) (W:=w7) elemPiece rfl _ _ rfl rfl rfl hz7 HR7.out rfl (one_piece _ _ _ _ _ _) (by omega) (by omega) ?_;intro v8 w8 hown8 happ8))
          go_roundg 1
          case measure=>first | omega | (rw [hgk];simp)
          case rel=>
           refine ⟨L++[(((0,0,0),[]),.slice none 0 0)],l7,n,by rw [if_neg hn],?_⟩
           have hk78:=by_trans hk6 hk7
           have hI7:=HI.out.by hk78 hgl hgw HS7.out
           exact RdI.app hI7.1 hI7.2.1 hI7.2.2.1 hI7.2.2.2 hgl hz7 happ8 (by first | exact hown8 | simpa using hown8) (Own.nil _ _ _ _) hww ⟨fun h=>absurd h hn,fun _=>HR.out⟩
        | inr x=>
          obtain ⟨p,r⟩:=x
          obtain ⟨⟨pf,pt,pn⟩,pb⟩:=p
          rw [hp] at HP HST
          have hless:=(stepR_less HST.out).1
          have HR:=hid (show readG bnd (L.map (·.1)++[((pf,pt,pn),pb)]) r=readG bnd [] s0 from by rw [←HRG.out];exact (readG_step HST.out).symm)
          go_wp2_with (first
           | (go_at_call 70;refine HP.out.mono ?_;rintro e w7 ⟨hk7,v7,rfl,hs7,hw7⟩;have hro7:=own_kr HRO.out hk7 (.inr (own_ne HRO.out hgl));obtain ⟨A7,c7,rfl⟩:=hw7.form;have HS7:=hid hs7;have HR7:=hid hro7;have HW7:=hid hw7;have hz7:W0.heap.size≤w7.heap.size:=(by_trans hk6 hk7).size |> Nat.le_trans HI.out.szr;clear hs7 hro7 hw7)
           | (at_builtin;refine wpList_app1x (W0:=W0) (W:=w7) elemPiece rfl _ _ rfl rfl rfl hz7 HR7.out rfl (one_piece _ _ _ _ _ _) (by omega) (by omega) ?_;intro v8 w8 hown8 happ8))
          go_roundg (r.length+2)
          case measure=>first | omega | (rw [hgk];simp;omega)
          case rel=>
           refine ⟨L++[(((pf,pt,pn),pb),.slice A7 pb.length c7)],r,0,by simp,?_⟩
           have hk78:=by_trans hk6 hk7
           have hI7:=HI.out.by hk78 hgl hgw HS7.out
           refine RdI.app hI7.1 hI7.2.1 hI7.2.2.1 hI7.2.2.2 hgl hz7 happ8 (by first | exact hown8 | simpa using hown8) (own_base HW7.out (Nat.le_trans HI.out.szr hk6.size)) hww ⟨fun _=>⟨by simp;omega,by rw [List.map_append];exact HR.out⟩,fun h=>absurd rfl h⟩
    ·have hn:((e:Int)==0)=false:=by simp;exact he
     have HR:=hid (HI.out.all.2 he)
     go_upto_region 21 with fail
     have k1:=fun i=>Gr.cell (gw_gr wr i) q1
     refine wp_region_gw (by kernel_rfl) (by kernel_rfl) ?_
     repeat (first | go_big_quiet_step (fail) | quiet_step (fail))
     refine wpQuiet_nil ?_;intro wq hwq;obtain ⟨iq,rfl⟩:=hwq
     go_wp2_with fail
     go_ret2
     rw [HR.out]
     exact ⟨Gr.tr HI.out.gr (gw_gr _ _),rfl⟩
end Go.Proofs.YtgfckbhkgggkeaaGreatDoor
/- XMulti10 -/
namespace Go.Proofs.YtgfckbhkgggkeaaGreatDoor
open Lib (hid)
open Go.RowKit
def spansV (l:List (Int×Int)):List Value:=l.flatMap fun s=>[.int .i64 s.1,.int .i64 s.2]
def Spans (w:World) (v:Value) (l:List (Int×Int)):Prop:=Sl w v l.length (spansV l)
theorem Spans.gr {w w':World} {v:Value} {l} (h:Spans w v l) (g:Gr w w'):Spans w' v l:=Sl.gr h g
theorem spansV_at (l:List (Int×Int)) (k:Nat) (h:k < l.length):(spansV l)[k*2]?=some (.int .i64 l[k].1)∧(spansV l)[k*2+1]?=some (.int .i64 l[k].2):=by
 induction l generalizing k with
 | nil=>simp at h
 | cons f fs ih=>
   have hc:spansV (f::fs)=.int .i64 f.1::.int .i64 f.2::spansV fs:=rfl
   rw [hc]
   cases k with
   | zero=>simp
   | succ k=>
     have:=ih k (by simpa using h)
     rw [show (k+1)*2=k*2+1+1 from by omega]
     simpa using this
theorem Spans.open {w:World} {v:Value} {xs:List (Int×Int)} (h:Spans w v xs):∃A c,v=.slice A xs.length c∧xs.length≤c∧xs.length≤9223372036854775807∧∀(k:Nat) (hk:k < xs.length),∃b o,A=some ⟨b,o,none⟩∧b < w.heap.size∧w.cell? ⟨b,o+k*2,none⟩=some (.int .i64 xs[k].1)∧w.cell? ⟨b,o+k*2+1,none⟩=some (.int .i64 xs[k].2):=by
 obtain ⟨A,c,hv,hc,hm,ho⟩:=Sl.open h
 refine ⟨A,c,hv,hc,hm,fun k hk=>?_⟩
 obtain ⟨e1,e2⟩:=spansV_at xs k hk
 obtain ⟨b,o,hA,hb,hj⟩:=ho _ _ e1
 exact ⟨b,o,hA,hb,hj _ _ e1,by rw [Nat.add_assoc];exact hj _ _ e2⟩
section
variable (tot : Int) (kind bnd : List UInt8)
end
end Go.Proofs.YtgfckbhkgggkeaaGreatDoor
/- XMulti11 -/
namespace Go.Proofs.YtgfckbhkgggkeaaGreatDoor
open Lib (hid)
open Go.RowKit
end Go.Proofs.YtgfckbhkgggkeaaGreatDoor
