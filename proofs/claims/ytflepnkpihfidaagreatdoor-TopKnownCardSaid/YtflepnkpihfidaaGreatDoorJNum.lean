/- Parts. No conditions but those that each theorem names. -/
import Derived.Test.YtflepnkpihfidaaGreatDoorJReq
import Derived.Test.YtflepnkpihfidaaGreatDoorJField1
import Derived.Test.YtflepnkpihfidaaGreatDoorJWords
set_option linter.unusedVariables false
set_option linter.unusedSimpArgs false
namespace Go.Proofs.YtflepnkpihfidaaGreatDoor
open Lib (hid)
open Go.RowKit
def optN (o:Option Nat):Value:=.tuple #[.int .i64 ((o.getD 0:Nat):Int),.bool o.isSome]
theorem numL_no {s:List UInt8} {k:Nat} (hk:k < s.length) (h:digC s[k]=false):numberL s=none:=by
 unfold numberL
 rw [if_neg]
 rintro ⟨_,_,h3⟩
 have:=List.all_eq_true.1 h3 s[k] (List.getElem_mem hk)
 rw [h] at this;cases this
theorem pow18n (k:Nat) (h:k≤17):(10:Nat) ^ k≤100000000000000000:=by
 have:(10:Nat) ^ k≤10 ^ 17:=Nat.pow_le_pow_right (by omega) h
 simpa using this
theorem numM_some {s:List UInt8} {n:Nat} (h:numberL s=some n):numM s=n:=by unfold numM;rw [h]
set_option maxHeartbeats 4000000 in
theorem specNum_any (s:List UInt8) (w:World):Calls Tryz.prog 212 #[str s] w fun e w'=>e=.returned (optN (numberL s))∧w=w':=by
 by_cases h1:s.length < 1
 ·have hn:numberL s=none:=by unfold numberL;rw [if_neg (by omega)]
  have k1:decide ((s.length:Int) < 1)=true:=decide_eq_true (by omega)
  go_enter Tryz.func212,Tryz.ntmps212
  go_wp2_with fail
  go_ret2
  exact ⟨by rw [hn];rfl,rfl⟩
 ·have k1:decide ((s.length:Int) < 1)=false:=decide_eq_false (by omega)
  by_cases h2:18 < s.length
  ·have hn:numberL s=none:=by unfold numberL;rw [if_neg (by omega)]
   have k2:decide (18 < (s.length:Int))=true:=decide_eq_true (by omega)
   go_enter Tryz.func212,Tryz.ntmps212
   go_wp2_with fail
   go_ret2
   exact ⟨by rw [hn];rfl,rfl⟩
  ·have k2:decide (18 < (s.length:Int))=false:=decide_eq_false (by omega)
   go_enter Tryz.func212,Tryz.ntmps212
   go_upto_region 5 with fail
   go_loop [2,3,4,5,16] (fun x2 x3 n x5 i=>∃k:Nat,k≤s.length∧i=.int .i64 k∧n=.int .i64 (numB (s.take k):Nat)∧(s.take k).all digC=true) (fun _ _ _ _ i=>s.length-(intOf i).toNat)
   case atStart=>exact ⟨0,Nat.zero_le _,rfl,rfl,rfl⟩
   case round=>
    obtain ⟨k,hk,rfl,rfl,hE⟩:=hrel
    have HE:=hid hE
    by_cases hlt:k < s.length
    ·have hb:=numB_lt (s.take k) hE
     rw [List.length_take,Nat.min_eq_left hk] at hb
     have hp:=pow18n k (by omega)
     have HS:=hid (numB_succ s k hlt)
     clear hE
     have hx:s[k].toNat≤255:=by have:=s[k].toNat_lt;omega
     by_cases c1:s[k].toNat < 48
     ·have HN:=hid (numL_no hlt (digC_no s[k] (by omega)))
      have ddlt48:decide (((s[k].toNat:Nat):Int) < 48)=true:=decide_eq_true (by omega)
      have ddgt57:decide (57 < ((s[k].toNat:Nat):Int))=false:=decide_eq_false (by omega)
      go_wp2_with fail
      go_ret2
      exact ⟨by rw [HN.out];rfl,rfl⟩
     ·by_cases c2:57 < s[k].toNat
      ·have HN:=hid (numL_no hlt (digC_no s[k] (by omega)))
       have ddlt48:decide (((s[k].toNat:Nat):Int) < 48)=false:=decide_eq_false (by omega)
       have ddgt57:decide (57 < ((s[k].toNat:Nat):Int))=true:=decide_eq_true (by omega)
       go_wp2_with fail
       go_ret2
       exact ⟨by rw [HN.out];rfl,rfl⟩
      ·have HD:=hid (digC_yes s[k] (by omega))
       have ddlt48:decide (((s[k].toNat:Nat):Int) < 48)=false:=decide_eq_false (by omega)
       have ddgt57:decide (57 < ((s[k].toNat:Nat):Int))=false:=decide_eq_false (by omega)
       generalize numB (s.take k)=N at *
       have e1:IntKind.i64.wrap ((N:Int)*10)=(N:Int)*10:=IntWalk.i64_in _ (by omega)
       have e2:IntKind.u8.wrap ((s[k].toNat:Int)-48)=(s[k].toNat:Int)-48:=by rw [IntKind.wrap_u8];omega
       have e3:IntKind.i64.wrap ((N:Int)*10+((s[k].toNat:Int)-48))=(N:Int)*10+((s[k].toNat:Int)-48):=IntWalk.i64_in _ (by omega)
       go_wp2_with fail
       exact ⟨⟨k+1,by omega,by go_num,by rw [HS.out];go_num,all_take_succ _ s k hlt HE.out HD.out⟩,by simp [intOf];omega⟩
    ·obtain rfl:k=s.length:=by omega
     rw [List.take_length] at hE HE ⊢
     have HN:=hid (show numberL s=some (numB s) from by unfold numberL;rw [if_pos ⟨by omega,by omega,hE⟩])
     clear hE
     go_wp2_with fail
     go_ret2
     exact ⟨by rw [HN.out];rfl,rfl⟩
end Go.Proofs.YtflepnkpihfidaaGreatDoor
namespace Go.Proofs.YtflepnkpihfidaaGreatDoor
open Lib (hid)
open Go.RowKit
theorem specB_hi {a b:Int} (h:999999999999999999 < a∨999999999999999999 < b):specB (a,b)=false:=by
 cases hs:specB (a,b) with
 | false=>rfl
 | true=>have:=specB_iff.1 hs;simp only at this;omega
theorem specB_in {a b:Int} (h1:¬999999999999999999 < a) (h2:¬999999999999999999 < b) (h3:0≤a) (h4:0≤b):specB (a,b)=decide (a≤b):=by
 unfold specB
 simp only
 rw [decide_eq_true (show a≤999999999999999999 by omega),decide_eq_true (show b≤999999999999999999 by omega),if_neg (by omega),decide_eq_true h3,decide_eq_false (show ¬b= -1 by omega)];simp
theorem specB_from {a b:Int} (h1:¬999999999999999999 < a) (h2:¬999999999999999999 < b) (h3:0≤a) (h4:¬0≤b):specB (a,b)=(b==-1):=by
 unfold specB
 simp only
 rw [decide_eq_true (show a≤999999999999999999 by omega),decide_eq_true (show b≤999999999999999999 by omega),if_neg (by omega),decide_eq_true h3,decide_eq_false (show ¬a≤b by omega)]
 by_cases h:b= -1 <;> simp [h]
theorem specB_last {b:Int} (h2:¬999999999999999999 < b):specB (-1,b)=decide (0≤b):=by
 unfold specB
 simp only
 rw [decide_eq_true (show (-1:Int)≤999999999999999999 by omega),decide_eq_true (show b≤999999999999999999 by omega)];simp
theorem specB_neg {a b:Int} (h3:¬0≤a) (h4:¬a= -1):specB (a,b)=false:=by
 cases hs:specB (a,b) with
 | false=>rfl
 | true=>have:=specB_iff.1 hs;simp only at this;omega
set_option maxHeartbeats 2000000 in
theorem specRight_any (a b:Int) (w:World):Calls Tryz.prog 92 #[.agg #[.int .i64 a,.int .i64 b]] w fun e w'=>e=.returned (.bool (specB (a,b)))∧Gr w w':=by
 have hG:=Gr.al (Gr.refl w) (Obj.cells #[.int .i64 a,.int .i64 b] 96)
 have HG:=hid hG;clear hG
 by_cases h1:999999999999999999 < a
 ·have HS:=hid (specB_hi (b:=b) (.inl h1))
  have k1:decide (999999999999999999 < a)=true:=decide_eq_true h1
  go_enter Tryz.func92,Tryz.ntmps92
  go_wp2_with fail
  go_ret
  exact ⟨ret_bool HS.out.symm,HG.out⟩
 ·have k1:decide (999999999999999999 < a)=false:=decide_eq_false h1
  by_cases h2:999999999999999999 < b
  ·have HS:=hid (specB_hi (a:=a) (.inr h2))
   have k2:decide (999999999999999999 < b)=true:=decide_eq_true h2
   go_enter Tryz.func92,Tryz.ntmps92
   go_wp2_with fail
   go_ret
   exact ⟨ret_bool HS.out.symm,HG.out⟩
  ·have k2:decide (999999999999999999 < b)=false:=decide_eq_false h2
   by_cases h3:0≤a
   ·have k3:decide (0≤a)=true:=decide_eq_true h3
    by_cases h4:0≤b
    ·have HS:=hid (specB_in h1 h2 h3 h4)
     have k4:decide (0≤b)=true:=decide_eq_true h4
     go_enter Tryz.func92,Tryz.ntmps92
     go_wp2_with fail
     go_ret
     exact ⟨ret_bool HS.out.symm,HG.out⟩
    ·have HS:=hid (specB_from h1 h2 h3 h4)
     have k4:decide (0≤b)=false:=decide_eq_false h4
     go_enter Tryz.func92,Tryz.ntmps92
     go_wp2_with fail
     go_ret
     exact ⟨ret_bool HS.out.symm,HG.out⟩
   ·have k3:decide (0≤a)=false:=decide_eq_false h3
    by_cases h5:a= -1
    ·subst h5
     have HS:=hid (specB_last h2)
     go_enter Tryz.func92,Tryz.ntmps92
     go_wp2_with fail
     go_ret
     exact ⟨ret_bool HS.out.symm,HG.out⟩
    ·have k5:(a==-1)=false:=by simpa using h5
     have HS:=hid (specB_neg (b:=b) h3 h5)
     go_enter Tryz.func92,Tryz.ntmps92
     go_wp2_with fail
     go_ret
     exact ⟨ret_bool HS.out.symm,HG.out⟩
set_option maxHeartbeats 2000000 in
theorem refSpecRight_any (a b:Int) (w:World):Calls Tryz.prog 38 #[.agg #[.int .i64 a,.int .i64 b]] w fun e w'=>e=.returned (.bool (specB (a,b)))∧Gr w w':=by
 have hG:=Gr.al (Gr.refl w) (Obj.cells #[.int .i64 a,.int .i64 b] 96)
 have HG:=hid hG;clear hG
 by_cases h1:999999999999999999 < a
 ·have HS:=hid (specB_hi (b:=b) (.inl h1))
  have k1:decide (999999999999999999 < a)=true:=decide_eq_true h1
  go_enter Tryz.func38,Tryz.ntmps38
  go_wp2_with fail
  go_ret
  exact ⟨ret_bool HS.out.symm,HG.out⟩
 ·have k1:decide (999999999999999999 < a)=false:=decide_eq_false h1
  by_cases h2:999999999999999999 < b
  ·have HS:=hid (specB_hi (a:=a) (.inr h2))
   have k2:decide (999999999999999999 < b)=true:=decide_eq_true h2
   go_enter Tryz.func38,Tryz.ntmps38
   go_wp2_with fail
   go_ret
   exact ⟨ret_bool HS.out.symm,HG.out⟩
  ·have k2:decide (999999999999999999 < b)=false:=decide_eq_false h2
   by_cases h5:a= -1
   ·subst h5
    have HS:=hid (specB_last h2)
    go_enter Tryz.func38,Tryz.ntmps38
    go_wp2_with fail
    go_ret
    exact ⟨ret_bool HS.out.symm,HG.out⟩
   ·have k5:(a==-1)=false:=by simpa using h5
    by_cases h3:0≤a
    ·have k3:decide (0≤a)=true:=decide_eq_true h3
     by_cases h6:b= -1
     ·subst h6
      have HS:=hid (specB_from h1 h2 h3 (by omega))
      go_enter Tryz.func38,Tryz.ntmps38
      go_wp2_with fail
      go_ret
      exact ⟨ret_bool HS.out.symm,HG.out⟩
     ·have k6:(b==-1)=false:=by simpa using h6
      have HS:=hid (show specB (a,b)=decide (a≤b) from by
       by_cases h4:0≤b
       ·exact specB_in h1 h2 h3 h4
       ·rw [specB_from h1 h2 h3 h4,k6,decide_eq_false (by omega)])
      go_enter Tryz.func38,Tryz.ntmps38
      go_wp2_with fail
      go_ret
      exact ⟨ret_bool HS.out.symm,HG.out⟩
    ·have k3:decide (0≤a)=false:=decide_eq_false h3
     have HS:=hid (specB_neg (b:=b) h3 h5)
     go_enter Tryz.func38,Tryz.ntmps38
     go_wp2_with fail
     go_ret
     exact ⟨ret_bool HS.out.symm,HG.out⟩
end Go.Proofs.YtflepnkpihfidaaGreatDoor
