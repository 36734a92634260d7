/- Parts. No conditions but those that each theorem names. -/
import Derived.Lib.ItoaNum
import Derived.Test.YtflepnkpihfidaaGreatDoorHeadLaw
set_option linter.unusedVariables false
set_option linter.unusedSimpArgs false
namespace Go.Proofs.YtflepnkpihfidaaGreatDoor
def numberL (s:List UInt8):Option Nat:=if 1≤s.length∧s.length≤18∧s.all digC=true then some (numB s) else none
theorem dec_all (n:Nat):(Lib.decDigits n).all digC=true∧numB (Lib.decDigits n)=n:=by
 induction n using Nat.strongRecOn with
 | _ n ih=>
   rw [Lib.decDigits]
   split
   ·rename_i h
    have h1:(UInt8.ofNat (48+n)).toNat=48+n:=by rw [UInt8.toNat_ofNat'];omega
    refine ⟨by simp only [List.all_cons,List.all_nil,Bool.and_true];exact digC_yes _ (by omega),?_⟩
    show 0*10+((UInt8.ofNat (48+n)).toNat-48)=n
    omega
   ·rename_i h
    obtain ⟨i1,i2⟩:=ih (n / 10) (by omega)
    have h1:(UInt8.ofNat (48+n % 10)).toNat=48+n % 10:=by rw [UInt8.toNat_ofNat'];omega
    refine ⟨?_,?_⟩
    ·rw [List.all_append,i1];simp only [List.all_cons,List.all_nil,Bool.and_true,Bool.true_and];exact digC_yes _ (by omega)
    ·rw [numB_snoc,i2,h1];omega
theorem dec_len (n k:Nat) (hk:1≤k) (h:n < 10 ^ k):1≤(Lib.decDigits n).length∧(Lib.decDigits n).length≤k:=by
 induction k generalizing n with
 | zero=>omega
 | succ k ih=>
   rw [Lib.decDigits]
   split
   ·simp
   ·rename_i h10
    rcases Nat.eq_zero_or_pos k with hk0 | hk0
    ·subst hk0;omega
    ·have:=ih (n / 10) hk0 (by rw [Nat.pow_succ] at h;omega)
     simp;omega
theorem dec_long (n k:Nat) (h:10 ^ k≤n):k < (Lib.decDigits n).length:=by
 induction k generalizing n with
 | zero=>rw [Lib.decDigits];split <;> simp
 | succ k ih=>
   rw [Lib.decDigits,dif_neg (by have:10 ^ 1≤10 ^ (k+1):=Nat.pow_le_pow_right (by omega) (by omega)
                                 omega)]
   have:=ih (n / 10) (by rw [Nat.pow_succ] at h;omega)
   simp;omega
theorem number_dec (n:Nat):numberL (Lib.decDigits n)=if n < 10 ^ 18 then some n else none:=by
 unfold numberL
 rw [(dec_all n).1,(dec_all n).2]
 by_cases h:n < 10 ^ 18
 ·have:=dec_len n 18 (by omega) h
  rw [if_pos h,if_pos ⟨this.1,this.2,rfl⟩]
 ·have:=dec_long n 18 (by omega)
  rw [if_neg h,if_neg (by omega)]
theorem itoa_nat (n:Nat):Lib.itoa (n:Int)=Lib.decDigits n:=by unfold Lib.itoa;rw [if_neg (by omega)];congr 1
end Go.Proofs.YtflepnkpihfidaaGreatDoor
namespace Go.Proofs.YtflepnkpihfidaaGreatDoor
end Go.Proofs.YtflepnkpihfidaaGreatDoor
namespace Go.Proofs.YtflepnkpihfidaaGreatDoor
end Go.Proofs.YtflepnkpihfidaaGreatDoor
namespace Go.Proofs.YtflepnkpihfidaaGreatDoor
end Go.Proofs.YtflepnkpihfidaaGreatDoor
namespace Go.Proofs.YtflepnkpihfidaaGreatDoor
end Go.Proofs.YtflepnkpihfidaaGreatDoor
