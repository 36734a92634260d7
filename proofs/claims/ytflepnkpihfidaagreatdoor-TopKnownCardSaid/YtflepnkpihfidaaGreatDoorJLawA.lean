/- Parts. No conditions but those that each theorem names. -/
import Derived.Lib.SlTrimSet
import Derived.Lib.IndexMore
set_option linter.unusedVariables false
set_option linter.unusedSimpArgs false
namespace Go.Proofs.YtflepnkpihfidaaGreatDoor
theorem bne_true {x y:UInt8} (h:((x.toNat:Int) != (y.toNat:Int))=true):x≠y:=by
 rintro rfl;simp at h
theorem bne_false {x y:UInt8} (h:((x.toNat:Int) != (y.toNat:Int))=false):x=y:=by
 simp at h;exact UInt8.toNat_inj.1 (by omega)
theorem take_snoc {α:Type} (l:List α) (k:Nat) (h:k < l.length):l.take (k+1)=l.take k++[l[k]]:=(List.take_append_getElem h).symm
def lowN (c:UInt8):UInt8:=if 65≤c∧c≤90 then c+32 else c
theorem lowN_up (c:UInt8) (h1:65≤(c.toNat:Int)) (h2:(c.toNat:Int)≤90):((c.toNat:Int)+97-65)=((lowN c).toNat:Int):=by
 have e:65≤c∧c≤90:=by constructor <;> (rw [UInt8.le_iff_toNat_le];simp;omega)
 unfold lowN;rw [if_pos e,UInt8.toNat_add];have:(32:UInt8).toNat=32:=rfl
 omega
theorem lowN_no (c:UInt8) (h:¬(65≤(c.toNat:Int)∧(c.toNat:Int)≤90)):(c.toNat:Int)=((lowN c).toNat:Int):=by
 have e:¬(65≤c∧c≤90):=by
  intro e;apply h;obtain ⟨e1,e2⟩:=e;rw [UInt8.le_iff_toNat_le] at e1 e2;simp at e1 e2;omega
 unfold lowN;rw [if_neg e]
def low (l:List UInt8):List UInt8:=l.map lowN
def alike (a b:List UInt8):Bool:=low a==low b
theorem alike_len {a b:List UInt8} (h:a.length≠b.length):alike a b=false:=by
 unfold alike low
 rw [beq_eq_false_iff_ne];intro e
 have:=congrArg List.length e
 simp at this;exact h this
theorem alike_ne {a b:List UInt8} {k:Nat} (ha:k < a.length) (hb:k < b.length) (h:((((lowN a[k]).toNat:Nat):Int) != (((lowN b[k]).toNat:Nat):Int))=true):alike a b=false:=by
 unfold alike low
 rw [beq_eq_false_iff_ne];intro e
 have e1:=congrArg (fun l=>l[k]?) e
 simp [ha,hb] at e1
 exact bne_true h e1
theorem alike_step {a b:List UInt8} {k:Nat} (ha:k < a.length) (hb:k < b.length) (h:((((lowN a[k]).toNat:Nat):Int) != (((lowN b[k]).toNat:Nat):Int))=false) (he:low (a.take k)=low (b.take k)):low (a.take (k+1))=low (b.take (k+1)):=by
 unfold low at *
 rw [take_snoc a k ha,take_snoc b k hb,List.map_append,List.map_append,he,List.map_singleton,List.map_singleton,bne_false h]
theorem alike_end {a b:List UInt8} {k:Nat} (hk:¬k < a.length) (hl:a.length=b.length) (he:low (a.take k)=low (b.take k)):alike a b=true:=by
 rw [List.take_of_length_le (by omega),List.take_of_length_le (by omega)] at he
 unfold alike;rw [he];exact BEq.refl _
def blk (c:UInt8):Bool:=[32,9].contains c
theorem blk_iff (c:UInt8):blk c=true↔(c.toNat:Int)=32∨(c.toNat:Int)=9:=by
 unfold blk
 simp only [List.contains_cons,List.contains_nil,Bool.or_false,Bool.or_eq_true,beq_iff_eq]
 rw [←UInt8.toNat_inj,←UInt8.toNat_inj]
 have e1:(32:UInt8).toNat=32:=rfl
 have e2:(9:UInt8).toNat=9:=rfl
 omega
def trimL (l:List UInt8):List UInt8:=l.dropWhile blk
def trimR (l:List UInt8):List UInt8:=(l.reverse.dropWhile blk).reverse
def trim (l:List UInt8):List UInt8:=trimL (trimR l)
theorem trimL_yes {c:UInt8} {t:List UInt8} (h:blk c=true):trimL (c::t)=trimL t:=by simp [trimL,List.dropWhile,h]
theorem trimL_no {c:UInt8} {t:List UInt8} (h:blk c=false):trimL (c::t)=c::t:=by simp [trimL,List.dropWhile,h]
theorem trimR_no {c:UInt8} {t:List UInt8} (h:blk c=false):trimR (t++[c])=t++[c]:=by simp [trimR,h]
theorem trimR_cons {c:UInt8} {t:List UInt8} (h:blk c=false):trimR (c::t)=c::trimR t:=by
 unfold trimR
 rw [List.reverse_cons,List.dropWhile_append]
 split
 ·rename_i h1
  simp only [List.isEmpty_iff] at h1
  simp [List.dropWhile,h,h1]
 ·simp
theorem trim_comm (l:List UInt8):trimR (trimL l)=trim l:=by
 induction l with
 | nil=>rfl
 | cons c t ih=>
   cases h:blk c with
   | true=>
     rw [trimL_yes h,ih]
     unfold trim trimR
     rw [List.reverse_cons,List.dropWhile_append]
     split
     ·rename_i h1
      simp only [List.isEmpty_iff] at h1
      simp [trimL,List.dropWhile,h,h1]
     ·simp only [List.reverse_append,List.reverse_cons,List.reverse_nil,List.nil_append,List.singleton_append]
      rw [trimL_yes h]
   | false=>
     rw [trimL_no h,trim,trimR_cons h,trimL_no h]
theorem trimR_le (l:List UInt8):(trimR l).length≤l.length:=by
 unfold trimR
 rw [List.length_reverse]
 exact Nat.le_trans (List.dropWhile_sublist _).length_le (by simp)
theorem trimL_le (l:List UInt8):(trimL l).length≤l.length:=(List.dropWhile_sublist _).length_le
theorem trim_le (l:List UInt8):(trim l).length≤l.length:=Nat.le_trans (trimL_le _) (trimR_le _)
def tokB:List UInt8:=[33,35,36,37,38,39,42,43,45,46,94,95,96,124,126]
def letterC (c:UInt8):Bool:=(decide (97≤c.toNat)&&decide (c.toNat≤122))||(decide (65≤c.toNat)&&decide (c.toNat≤90))||(decide (48≤c.toNat)&&decide (c.toNat≤57))
def tokC (c:UInt8):Bool:=letterC c||tokB.contains c
def token (l:List UInt8):Bool:=!l.isEmpty&&l.all tokC
theorem all_take_succ {α:Type} (p:α→Bool) (l:List α) (k:Nat) (h:k < l.length) (hk:(l.take k).all p=true) (hc:p l[k]=true):(l.take (k+1)).all p=true:=by
 rw [take_snoc l k h,List.all_append,hk];simp [hc]
theorem all_no {α:Type} (p:α→Bool) (l:List α) (k:Nat) (h:k < l.length) (hc:p l[k]=false):l.all p=false:=by
 rw [List.all_eq_false];exact ⟨l[k],List.getElem_mem h,by simp [hc]⟩
theorem all_end {α:Type} (p:α→Bool) (l:List α) (k:Nat) (h:¬k < l.length) (hk:(l.take k).all p=true):l.all p=true:=by
 rwa [List.take_of_length_le (by omega)] at hk
theorem indexByte_neg (l:List UInt8) (c:UInt8):(Lib.indexByte l c < 0)↔l.contains c=false:=by
 induction l with
 | nil=>simp [Lib.indexByte]
 | cons b l ih=>
   unfold Lib.indexByte
   have hg:=Lib.indexByte_ge l c
   by_cases h:b=c
   ·subst h;simp
   ·have h1:(b==c)=false:=by simp [h]
    have h2:(c==b)=false:=by simp;exact fun e=>h e.symm
    rw [h1,List.contains_cons,h2,Bool.false_or]
    simp only [Bool.false_eq_true,if_false]
    split
    ·rename_i h3;simp only [beq_iff_eq] at h3;rw [←ih];omega
    ·rename_i h3;simp only [beq_iff_eq] at h3;rw [←ih];omega
theorem tokC_letter (c:UInt8) (h:(97≤(c.toNat:Int)∧(c.toNat:Int)≤122)∨(65≤(c.toNat:Int)∧(c.toNat:Int)≤90)∨(48≤(c.toNat:Int)∧(c.toNat:Int)≤57)):letterC c=true:=by
 unfold letterC;simp only [Bool.or_eq_true,Bool.and_eq_true,decide_eq_true_eq];omega
theorem letterC_no (c:UInt8) (h:¬((97≤(c.toNat:Int)∧(c.toNat:Int)≤122)∨(65≤(c.toNat:Int)∧(c.toNat:Int)≤90)∨(48≤(c.toNat:Int)∧(c.toNat:Int)≤57))):letterC c=false:=by
 unfold letterC;rw [Bool.eq_false_iff];simp only [ne_eq,Bool.or_eq_true,Bool.and_eq_true,decide_eq_true_eq];omega
theorem tokC_of_letter {c:UInt8} (h:letterC c=true):tokC c=true:=by simp [tokC,h]
theorem tokC_of_sign {c:UInt8} (h:¬Lib.indexByte tokB c < 0):tokC c=true:=by
 rw [indexByte_neg] at h;simp only [Bool.not_eq_false] at h;simp only [tokC,h,Bool.or_true]
theorem tokC_no {c:UInt8} (h1:letterC c=false) (h:Lib.indexByte tokB c < 0):tokC c=false:=by
 rw [indexByte_neg] at h;simp only [tokC,h1,h,Bool.or_false]
theorem token_no {l:List UInt8} {k:Nat} (h:k < l.length) (hc:tokC l[k]=false):token l=false:=by
 unfold token;rw [all_no tokC l k h hc,Bool.and_false]
theorem token_yes {l:List UInt8} {k:Nat} (h0:0 < l.length) (h:¬k < l.length) (hk:(l.take k).all tokC=true):token l=true:=by
 unfold token;rw [all_end tokC l k h hk];cases l <;> simp at *
def crlf:List UInt8→Option Nat
 | []=>none
 | a::l=>if a==13&&l.head?==some 10 then some 0 else (crlf l).map (·+1)
theorem crlf_lib (l:List UInt8):Lib.index l [13,10]=match crlf l with | none=>-1 | some k=>(k:Int):=by
 induction l with
 | nil=>rfl
 | cons a l ih=>
   unfold Lib.index crlf
   have e:([13,10]:List UInt8).isPrefixOf (a::l)=(a==13&&l.head?==some 10):=by
    cases l with
    | nil=>simp [List.isPrefixOf]
    | cons b l=>simp only [List.isPrefixOf,List.head?_cons,Bool.and_true,Option.some_beq_some];rw [BEq.comm (a:=(13:UInt8)),BEq.comm (a:=(10:UInt8))]
   rw [e]
   split
   ·simp
   ·rw [ih]
    cases crlf l with
    | none=>simp
    | some k=>
      have:((k:Int)==-1)=false:=by rw [beq_eq_false_iff_ne];omega
      simp [this]
theorem crlf_lt {l:List UInt8} {k:Nat} (h:crlf l=some k):k+1 < l.length:=by
 induction l generalizing k with
 | nil=>cases h
 | cons a l ih=>
   unfold crlf at h
   split at h
   ·rename_i h1
    simp only [Option.some.injEq] at h
    cases l with
    | nil=>simp at h1
    | cons b l=>simp;omega
   ·cases hc:crlf l with
    | none=>rw [hc] at h;cases h
    | some j=>
      rw [hc] at h;simp only [Option.map_some,Option.some.injEq] at h
      have:=ih hc;simp only [List.length_cons];omega
theorem low_len (l:List UInt8):(low l).length=l.length:=by simp [low]
def visC (c:UInt8):Bool:=(decide (32≤c.toNat)&&decide (c.toNat≤126))||c.toNat==9
theorem visC_yes (c:UInt8) (h:(32≤(c.toNat:Int)∧(c.toNat:Int)≤126)∨(c.toNat:Int)=9):visC c=true:=by
 unfold visC;simp only [Bool.or_eq_true,Bool.and_eq_true,decide_eq_true_eq,beq_iff_eq];omega
theorem visC_no (c:UInt8) (h:¬((32≤(c.toNat:Int)∧(c.toNat:Int)≤126)∨(c.toNat:Int)=9)):visC c=false:=by
 unfold visC;rw [Bool.eq_false_iff];simp only [ne_eq,Bool.or_eq_true,Bool.and_eq_true,decide_eq_true_eq,beq_iff_eq];omega
def right (f:List UInt8×List UInt8):Bool:=token f.1&&decide (f.1.length≤200)&&decide (f.2.length≤8192)&&(trim f.2==f.2)&&f.2.all visC
theorem right_head {n v:List UInt8} (h:¬(token n=true∧n.length≤200∧v.length≤8192∧(trim v==v)=true)):right (n,v)=false:=by
 rw [Bool.eq_false_iff];intro hr
 unfold right at hr
 simp only [Bool.and_eq_true,decide_eq_true_eq] at hr
 exact h ⟨hr.1.1.1.1,hr.1.1.1.2,hr.1.1.2,hr.1.2⟩
theorem right_rest {n v:List UInt8} (h1:token n=true) (h2:n.length≤200) (h3:v.length≤8192) (h4:(trim v==v)=true):right (n,v)=v.all visC:=by
 unfold right;simp [h1,h2,h3,h4]
end Go.Proofs.YtflepnkpihfidaaGreatDoor
namespace Go.Proofs.YtflepnkpihfidaaGreatDoor
abbrev Fld:=List UInt8×List UInt8
def ofN (l:List Fld) (n:List UInt8):List (List UInt8):=(l.filter fun f=>alike f.1 n).map (·.2)
theorem ofN_succ (l:List Fld) (n:List UInt8) (k:Nat) (h:k < l.length):ofN (l.take (k+1)) n=ofN (l.take k) n++(if alike l[k].1 n then [l[k].2] else []):=by
 unfold ofN;rw [take_snoc l k h,List.filter_append,List.map_append]
 cases hc:alike l[k].1 n <;> simp [hc]
theorem ofN_len (l:List Fld) (n:List UInt8):(ofN l n).length≤l.length:=by unfold ofN;rw [List.length_map];exact List.length_filter_le _ _
def getN (l:List Fld) (n:List UInt8):List UInt8×Bool:=match ofN l n with | []=>([],false) | v::_=>(v,true)
def bulk2 (l:List Fld):Nat:=(l.map fun f=>f.1.length+f.2.length).sum
def bulk1 (l:List (List UInt8)):Nat:=(l.map List.length).sum
theorem bulk2_succ (l:List Fld) (k:Nat) (h:k < l.length):bulk2 (l.take (k+1))=bulk2 (l.take k)+l[k].1.length+l[k].2.length:=by
 unfold bulk2;rw [take_snoc l k h];simp only [List.map_append,List.sum_append,List.map_cons,List.map_nil,List.sum_cons,List.sum_nil];omega
theorem bulk1_le (l:List (List UInt8)) (B:Nat) (h:∀f∈l,f.length≤B):bulk1 l≤l.length*B:=by
 unfold bulk1
 induction l with
 | nil=>simp
 | cons f l ih=>
   have h1:=h f (by simp)
   have h2:=ih (fun g hg=>h g (by simp [hg]))
   simp only [List.map_cons,List.sum_cons,List.length_cons,Nat.add_mul];omega
end Go.Proofs.YtflepnkpihfidaaGreatDoor
namespace Go.Proofs.YtflepnkpihfidaaGreatDoor
def cutC:List UInt8→Option (List UInt8×List UInt8)
 | []=>none
 | c::t=>if c==58 then some ([],t) else (cutC t).map fun p=>(c::p.1,p.2)
theorem cutC_lib (l:List UInt8):Lib.cut l [58]=match cutC l with | none=>(l,[],false) | some p=>(p.1,p.2,true):=by
 have key:∀l:List UInt8,match cutC l with | none=>Lib.index l [58]= -1 | some p=>Lib.index l [58]=(p.1.length:Int)∧l=p.1++58::p.2:=by
  intro l
  induction l with
  | nil=>rfl
  | cons c t ih=>
    unfold cutC Lib.index
    have e:([58]:List UInt8).isPrefixOf (c::t)=(c==58):=by
     simp only [List.isPrefixOf,Bool.and_true];rw [BEq.comm]
    rw [e]
    cases hc:(c==58) with
    | true=>simp only [beq_iff_eq] at hc;subst hc;simp
    | false=>
      cases h:cutC t with
      | none=>rw [h] at ih;simp [ih]
      | some p=>
        rw [h] at ih
        obtain ⟨h1,h2⟩:=ih
        have:((p.1.length:Int)==-1)=false:=by rw [beq_eq_false_iff_ne];omega
        simp only [Option.map_some,Bool.false_eq_true,if_false,h1,this,List.length_cons,List.cons_append]
        exact ⟨by omega,by rw [←h2]⟩
 have:=key l
 unfold Lib.cut
 cases h:cutC l with
 | none=>rw [h] at this;simp only at this;rw [this];rfl
 | some p=>
   rw [h] at this
   obtain ⟨h1,h2⟩:=this
   rw [h1]
   have h3:(0:Int)≤(p.1.length:Int):=by omega
   rw [if_pos h3]
   simp only [Int.toNat_natCast,List.length_singleton]
   conv=>lhs;rw [h2]
   simp
theorem cutC_len {l:List UInt8} {p:List UInt8×List UInt8} (h:cutC l=some p):p.1.length+p.2.length+1=l.length:=by
 induction l generalizing p with
 | nil=>cases h
 | cons c t ih=>
   unfold cutC at h
   split at h
   ·simp only [Option.some.injEq] at h;subst h;simp
   ·cases hc:cutC t with
    | none=>rw [hc] at h;cases h
    | some q=>
      rw [hc] at h;simp only [Option.map_some,Option.some.injEq] at h;subst h
      have:=ih hc;simp;omega
def fieldR (l:List UInt8):Fld×Bool:=match cutC l with | none=>(([],[]),false) | some p=>((p.1,trim p.2),right (p.1,trim p.2))
def parseGo (s:List UInt8):Nat→Nat→List Fld→List Fld×Nat×Nat
 | 0,_,_=>([],0,0)
 | fuel+1,at_,acc=>
   match crlf (s.drop at_) with
   | none=>if 65536 < s.length then ([],0,4) else ([],0,3)
   | some k=>
     if 65536 < at_+k+2 then ([],0,4)
     else if k=0 then (acc,at_+2,0)
     else if acc.length=100 then ([],0,4)
     else if (fieldR ((s.drop at_).take k)).2 then parseGo s fuel (at_+k+2) (acc++[(fieldR ((s.drop at_).take k)).1])
     else ([],0,2)
def parse (s:List UInt8):List Fld×Nat×Nat:=parseGo s (s.length+1) 0 []
end Go.Proofs.YtflepnkpihfidaaGreatDoor
namespace Go.Proofs.YtflepnkpihfidaaGreatDoor
end Go.Proofs.YtflepnkpihfidaaGreatDoor
namespace Go.Proofs.YtflepnkpihfidaaGreatDoor
end Go.Proofs.YtflepnkpihfidaaGreatDoor
namespace Go.Proofs.YtflepnkpihfidaaGreatDoor
def putL (f:Fld):List UInt8:=f.1++[58,32]++f.2++[13,10]
def lines (l:List Fld):List UInt8:=l.flatMap putL
def block (l:List Fld):List UInt8:=lines l++[13,10]
def put (l:List Fld):List UInt8×Nat:=if l.all right then (if 100 < l.length∨65536 < (block l).length then ([],4) else (block l,0)) else ([],2)
theorem putL_len (f:Fld):(putL f).length=f.1.length+f.2.length+4:=by simp [putL];omega
theorem lines_succ (l:List Fld) (k:Nat) (h:k < l.length):lines (l.take (k+1))=lines (l.take k)++l[k].1++[58,32]++l[k].2++[13,10]:=by
 unfold lines;rw [take_snoc l k h,List.flatMap_append];simp [putL]
theorem lines_len (l:List Fld):(lines l).length=bulk2 l+4*l.length:=by
 unfold lines bulk2
 induction l with
 | nil=>rfl
 | cons f l ih=>
   simp only [List.flatMap_cons,List.length_append,putL_len,ih,List.map_cons,List.sum_cons,List.length_cons];omega
theorem bulk2_take_le (l:List Fld) (k:Nat):bulk2 (l.take k)≤bulk2 l:=by
 have e:bulk2 l=bulk2 (l.take k)+bulk2 (l.drop k):=by
  unfold bulk2;rw [←List.sum_append,←List.map_append,List.take_append_drop]
 omega
theorem lines_take_len (l:List Fld) (k:Nat) (h:k≤l.length):(lines (l.take k)).length≤bulk2 l+4*l.length:=by
 rw [lines_len,List.length_take]
 have:=bulk2_take_le l k
 omega
theorem put_bad (l:List Fld) (k:Nat) (h:k < l.length) (hr:right l[k]=false):put l=([],2):=by
 unfold put;rw [all_no right l k h hr];rfl
theorem put_all (l:List Fld) (k:Nat) (h:¬k < l.length) (hr:(l.take k).all right=true):put l=if 100 < l.length∨65536 < (block l).length then ([],4) else (block l,0):=by
 unfold put;rw [all_end right l k h hr];rfl
theorem block_len (l:List Fld):(block l).length=(lines l).length+2:=by simp [block]
end Go.Proofs.YtflepnkpihfidaaGreatDoor
namespace Go.Proofs.YtflepnkpihfidaaGreatDoor
theorem crlf_hit (a t:List UInt8) (h:∀c∈a,c≠13):crlf (a++13::10::t)=some a.length:=by
 induction a with
 | nil=>rfl
 | cons c a ih=>
   rw [List.cons_append];unfold crlf
   have h1:(c==13)=false:=by rw [beq_eq_false_iff_ne];exact h c (by simp)
   rw [h1,Bool.false_and,ih (fun d hd=>h d (by simp [hd]))];rfl
def lineB (f:Fld):List UInt8:=f.1++58::32::f.2
theorem putL_eq (f:Fld):putL f=lineB f++[13,10]:=by simp [putL,lineB]
theorem right_tok {f:Fld} (h:right f=true):∀c∈f.1,tokC c=true:=by
 unfold right token at h
 simp only [Bool.and_eq_true,List.all_eq_true] at h
 exact h.1.1.1.1.2
theorem right_vis {f:Fld} (h:right f=true):∀c∈f.2,visC c=true:=by
 unfold right at h
 simp only [Bool.and_eq_true,List.all_eq_true] at h
 exact h.2
theorem right_trim {f:Fld} (h:right f=true):trim f.2=f.2:=by
 unfold right at h
 simp only [Bool.and_eq_true,beq_iff_eq] at h
 exact h.1.2
theorem lineB_no {f:Fld} (h:right f=true):∀c∈lineB f,c≠13:=by
 intro c hc
 unfold lineB at hc
 simp only [List.mem_append,List.mem_cons] at hc
 rcases hc with hc | rfl | rfl | hc
 ·rintro rfl;have:=right_tok h _ hc;revert this;decide
 ·decide
 ·decide
 ·rintro rfl;have:=right_vis h _ hc;revert this;decide
theorem cutC_app (a t:List UInt8) (h:∀c∈a,c≠58):cutC (a++58::t)=some (a,t):=by
 induction a with
 | nil=>rfl
 | cons c a ih=>
   rw [List.cons_append];unfold cutC
   have h1:(c==58)=false:=by rw [beq_eq_false_iff_ne];exact h c (by simp)
   rw [h1,ih (fun d hd=>h d (by simp [hd]))];rfl
theorem trim_blank (v:List UInt8):trim (32::v)=trim v:=by
 rw [←trim_comm,←trim_comm,trimL_yes (by rfl)]
theorem fieldR_line {f:Fld} (h:right f=true):fieldR (lineB f)=(f,true):=by
 unfold fieldR lineB
 rw [cutC_app _ _ (fun c hc=>by rintro rfl;have:=right_tok h _ hc;revert this;decide)]
 simp only [trim_blank,right_trim h]
 rw [show ((f.1,f.2):Fld)=f from rfl,h]
theorem lineB_pos (f:Fld):0 < (lineB f).length:=by simp [lineB];omega
theorem block_cons (f:Fld) (l:List Fld):block (f::l)=lineB f++13::10::block l:=by
 unfold block lines;rw [List.flatMap_cons,putL_eq];simp
theorem parseGo_back (l:List Fld) (done:List Fld) (p more:List UInt8) (fuel:Nat) (hr:l.all right=true) (hf:l.length < fuel) (hn:done.length+l.length≤100) (hb:p.length+(block l).length≤65536) :
  parseGo (p++(block l++more)) fuel p.length done=(done++l,p.length+(block l).length,0):=by
 induction l generalizing done p fuel with
 | nil=>
   cases fuel with
   | zero=>simp at hf
   | succ fuel=>
     unfold parseGo
     rw [List.drop_left]
     have:crlf (block []++more)=some 0:=rfl
     have hb':(block ([]:List Fld)).length=2:=rfl
     rw [this]
     simp only [Nat.add_zero]
     rw [if_neg (by omega),if_pos trivial,hb',List.append_nil]
 | cons f l ih=>
   cases fuel with
   | zero=>simp at hf
   | succ fuel=>
     simp only [List.all_cons,Bool.and_eq_true] at hr
     simp only [List.length_cons] at hf hn
     have hbl:(block (f::l)).length=(lineB f).length+2+(block l).length:=by rw [block_cons];simp;omega
     unfold parseGo
     have e1:block (f::l)++more=lineB f++13::10::(block l++more):=by rw [block_cons];simp
     rw [List.drop_left,e1,crlf_hit _ _ (lineB_no hr.1)]
     have hp:=lineB_pos f
     simp only [List.take_left,fieldR_line hr.1,if_true]
     rw [if_neg (by omega),if_neg (by omega),if_neg (by omega)]
     have e2:p++(lineB f++13::10::(block l++more))=(p++lineB f++[13,10])++(block l++more):=by simp
     have e3:p.length+(lineB f).length+2=(p++lineB f++[13,10]).length:=by simp;omega
     rw [e2,e3,ih (done++[f]) _ fuel hr.2 (by omega) (by simp;omega) (by rw [←e3];omega)]
     rw [←e3,hbl]
     simp;omega
theorem lines_len_ge (l:List Fld):l.length≤(block l).length:=by rw [block_len,lines_len];omega
theorem parse_back (l:List Fld) (more:List UInt8) (hr:l.all right=true) (hn:l.length≤100) (hb:(block l).length≤65536):parse (block l++more)=(l,(block l).length,0):=by
 unfold parse
 have h:=parseGo_back l [] [] more ((block l++more).length+1) hr (by have:=lines_len_ge l;simp;omega) (by simpa using hn) (by simpa using hb)
 simpa using h
end Go.Proofs.YtflepnkpihfidaaGreatDoor
