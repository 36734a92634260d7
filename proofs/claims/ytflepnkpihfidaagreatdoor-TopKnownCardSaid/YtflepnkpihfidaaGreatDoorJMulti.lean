/- Parts. No conditions but those that each theorem names. -/
import Derived.Test.YtflepnkpihfidaaGreatDoorDig
import Derived.Lib.ParseIntB
import Derived.Lib.IndexMore
import Derived.Lib.Strings
import Derived.Test.YtflepnkpihfidaaGreatDoorJLawA
import Derived.Test.YtflepnkpihfidaaGreatDoorJWords
import Derived.Test.YtflepnkpihfidaaGreatDoorJField2
import Derived.Lib.ParseIntBTie
import Derived.Lib.AtoiErrMem
import Derived.Test.YtflepnkpihfidaaGreatDoorJBytes
import Derived.Laws.BitsAllLaws
import Derived.Test.YtflepnkpihfidaaGreatDoorJDate
import Derived.Deep.LoopGhost
set_option linter.unusedVariables false
set_option linter.unusedSimpArgs false
namespace Go.Proofs.YtflepnkpihfidaaGreatDoor
open Lib (hid)
def spanB (f t:Int):Bool:=decide (0≤f)&&(decide (f≤t)&&decide (t≤4611686018427387904))
def headC (f t:Int):List UInt8:=[98,121,116,101,115,32]++Lib.itoa f++[45]++Lib.itoa (t-1)++[47]
def contB (f t n:Int):Bool:=spanB f t&&decide (f≠t)&&decide (t≠4611686018427387904)&&decide (-1≤n)&&decide (n≤4611686018427387903)&&(decide (n= -1)||decide (t≤n))
def contentL (f t n:Int):List UInt8:=if contB f t n=true then headC f t++(if n= -1 then [42] else Lib.itoa n) else []
theorem cont_span {f t n:Int} (h:spanB f t=false):contentL f t n=[]:=by unfold contentL contB;rw [h];simp
theorem cont_same {f t n:Int} (h:f=t):contentL f t n=[]:=by unfold contentL contB;rw [decide_eq_false (show ¬f≠t by simpa using h)];simp
theorem cont_open {f t n:Int} (h:t=4611686018427387904):contentL f t n=[]:=by unfold contentL contB;rw [decide_eq_false (show ¬t≠4611686018427387904 by simpa using h)];simp
theorem cont_low {f t n:Int} (h:n < -1):contentL f t n=[]:=by unfold contentL contB;rw [decide_eq_false (show ¬-1≤n by omega)];simp
theorem cont_high {f t n:Int} (h:4611686018427387903 < n):contentL f t n=[]:=by unfold contentL contB;rw [decide_eq_false (show ¬n≤4611686018427387903 by omega)];simp
theorem cont_behind {f t n:Int} (h:n≠-1) (h2:n < t):contentL f t n=[]:=by unfold contentL contB;rw [decide_eq_false h,decide_eq_false (show ¬t≤n by omega)];simp
theorem cont_any {f t n:Int} (h1:spanB f t=true) (h2:¬f=t) (h3:¬t=4611686018427387904) (h4:¬n < -1) (h5:¬4611686018427387903 < n) (h6:n= -1∨t≤n):contentL f t n=headC f t++(if n= -1 then [42] else Lib.itoa n):=by
 have:contB f t n=true:=by
  unfold contB
  rw [h1,decide_eq_true h2,decide_eq_true h3,decide_eq_true (show -1≤n by omega),decide_eq_true (show n≤4611686018427387903 by omega)]
  rcases h6 with h | h
  ·rw [decide_eq_true h];rfl
  ·rw [decide_eq_true h];simp
 unfold contentL;rw [if_pos this]
theorem span_bounds {f t:Int} (h:spanB f t=true):0≤f∧f≤t∧t≤4611686018427387904:=by
 unfold spanB at h;simp only [Bool.and_eq_true,decide_eq_true_eq] at h;exact ⟨h.1,h.2.1,h.2.2⟩
theorem itoa_len_int {x:Int} (h0:0≤x) (h1:x≤9223372036854775807):(Lib.itoa x).length≤19:=by
 obtain ⟨m,rfl⟩:∃m:Nat,x=m:=⟨x.toNat,by omega⟩
 exact itoa_len (by omega)
theorem cont_len (f t n:Int):(contentL f t n).length≤70:=by
 unfold contentL
 split
 ·rename_i h
  unfold contB at h
  simp only [Bool.and_eq_true,Bool.or_eq_true,decide_eq_true_eq] at h
  obtain ⟨⟨⟨⟨⟨h1,h2⟩,h3⟩,h4⟩,h5⟩,h6⟩:=h
  have hb:=span_bounds h1
  have a:=itoa_len_int (x:=f) hb.1 (by omega)
  have b:=itoa_len_int (x:=t-1) (by omega) (by omega)
  unfold headC
  split
  ·simp;omega
  ·have c:=itoa_len_int (x:=n) (by omega) (by omega)
   simp;omega
 ·simp
end Go.Proofs.YtflepnkpihfidaaGreatDoor
namespace Go.Proofs.YtflepnkpihfidaaGreatDoor
open Lib (hid)
end Go.Proofs.YtflepnkpihfidaaGreatDoor
namespace Go.Proofs.YtflepnkpihfidaaGreatDoor
open Lib (hid)
end Go.Proofs.YtflepnkpihfidaaGreatDoor
namespace Go.Proofs.YtflepnkpihfidaaGreatDoor
open Lib (hid)
def boundB (s:List UInt8):Bool:=s.all letterC&&(decide (1≤s.length)&&decide (s.length≤70))
def kindB (s:List UInt8):Bool:=decide (1≤s.length)&&(decide (s.length≤100)&&right ([97],s))
def typeN:List UInt8:=[67,111,110,116,101,110,116,45,84,121,112,101,58,32]
def rangeN:List UInt8:=[67,111,110,116,101,110,116,45,82,97,110,103,101,58,32]
section
variable (tot : Int) (kind bnd : List UInt8)
end
end Go.Proofs.YtflepnkpihfidaaGreatDoor
namespace Go.Proofs.YtflepnkpihfidaaGreatDoor
open Lib (hid)
open Go.RowKit
set_option maxHeartbeats 2000000 in
theorem spanRight_any (f t:Int) (w:World):Calls Tryz.prog 41 #[.agg #[.int .i64 f,.int .i64 t]] w fun e w'=>e=.returned (.bool (spanB f t))∧Gr w w':=by
 have HS:=hid (show spanB f t=(decide (0≤f)&&(decide (f≤t)&&decide (t≤4611686018427387904))) from rfl)
 by_cases h1:0≤f
 ·have k1:decide (0≤f)=true:=decide_eq_true h1
  by_cases h2:f≤t
  ·have k2:decide (f≤t)=true:=decide_eq_true h2
   go_enter Tryz.func41,Tryz.ntmps41
   go_wp2_with fail
   go_ret
   exact ⟨by rw [HS.out,k1,k2];rfl,Gr.al (Gr.refl w) _⟩
  ·have k2:decide (f≤t)=false:=decide_eq_false h2
   go_enter Tryz.func41,Tryz.ntmps41
   go_wp2_with fail
   go_ret
   exact ⟨by rw [HS.out,k1,k2];rfl,Gr.al (Gr.refl w) _⟩
 ·have k1:decide (0≤f)=false:=decide_eq_false h1
  go_enter Tryz.func41,Tryz.ntmps41
  go_wp2_with fail
  go_ret
  exact ⟨by rw [HS.out,k1];rfl,Gr.al (Gr.refl w) _⟩
set_option maxHeartbeats 4000000 in
set_option maxRecDepth 100000 in
theorem content_any (f t n:Int) (w:World) (hp:Pw w) (hf:-9223372036854775808≤f∧f≤9223372036854775807) (ht:-9223372036854775808≤t∧t≤9223372036854775807) (hn:-9223372036854775808≤n∧n≤9223372036854775807):Calls Tryz.prog 147 #[.agg #[.int .i64 f,.int .i64 t],.int .i64 n] w fun e w'=>e=.returned (str (contentL f t n))∧Gr w w':=by
 have hb:=Bk.new w 48 #[.int .i64 f,.int .i64 t] (0,0)
 have hG1:=Gr.al (Gr.refl w) (Obj.cells #[.int .i64 f,.int .i64 t] 48)
 have HP1:=hid (hp.gr hG1)
 clear hp
 have HS:=hid (fun (w:World)=>spanRight_any f t w)
 go_enter Tryz.func147,Tryz.ntmps147
 go_upto_region 1 with fail
 generalize w.alloc (Obj.cells #[.int .i64 f,.int .i64 t] 48)=w1 at *
 generalize w.heap.size=g at *
 have a0:w1.cell? ⟨g,0,none⟩=some (.int .i64 f):=hb.cell 0
 have a1:w1.cell? ⟨g,1,none⟩=some (.int .i64 t):=hb.cell 1
 have HB:=hid hb
 clear hb
 cases c1:spanB f t with
 | false=>
   rw [c1] at HS
   have HE:=hid (cont_span (n:=n) c1)
   go_wp2_with (go_at_call 41;refine (HS.out _).mono ?_;rintro e w2 ⟨rfl,hG2⟩;have b0:=hG2.cell a0;have b1:=hG2.cell a1)
   go_ret
   exact ⟨by rw [HE.out];rfl,Gr.tr hG1 hG2⟩
 | true=>
   rw [c1] at HS
   have hsb:=span_bounds c1
   by_cases g0:f=t
   ·have k0:(f==t)=true:=by simpa using g0
    have HE:=hid (cont_same (f:=f) (t:=t) (n:=n) g0)
    clear g0
    go_wp2_with (go_at_call 41;refine (HS.out _).mono ?_;rintro e w2 ⟨rfl,hG2⟩;have b0:=hG2.cell a0;have b1:=hG2.cell a1)
    go_ret
    exact ⟨by rw [HE.out];rfl,Gr.tr hG1 hG2⟩
   ·have k0:(f==t)=false:=by simpa using g0
    by_cases g1:t=4611686018427387904
    ·have k1:(t==4611686018427387904)=true:=by simpa using g1
     have HE:=hid (cont_open (f:=f) (t:=t) (n:=n) g1)
     clear g1
     go_wp2_with (go_at_call 41;refine (HS.out _).mono ?_;rintro e w2 ⟨rfl,hG2⟩;have b0:=hG2.cell a0;have b1:=hG2.cell a1)
     go_ret
     exact ⟨by rw [HE.out];rfl,Gr.tr hG1 hG2⟩
    ·have k1:(t==4611686018427387904)=false:=by simpa using g1
     by_cases g2:n < -1
     ·have k2:decide (n < -1)=true:=decide_eq_true g2
      have HE:=hid (cont_low (f:=f) (t:=t) (n:=n) g2)
      clear g2
      go_wp2_with (go_at_call 41;refine (HS.out _).mono ?_;rintro e w2 ⟨rfl,hG2⟩;have b0:=hG2.cell a0;have b1:=hG2.cell a1)
      go_ret
      exact ⟨by rw [HE.out];rfl,Gr.tr hG1 hG2⟩
     ·have k2:decide (n < -1)=false:=decide_eq_false g2
      by_cases g3:4611686018427387903 < n
      ·have k3:decide (4611686018427387903 < n)=true:=decide_eq_true g3
       have HE:=hid (cont_high (f:=f) (t:=t) (n:=n) g3)
       clear g3
       go_wp2_with (go_at_call 41;refine (HS.out _).mono ?_;rintro e w2 ⟨rfl,hG2⟩;have b0:=hG2.cell a0;have b1:=hG2.cell a1)
       go_ret
       exact ⟨by rw [HE.out];rfl,Gr.tr hG1 hG2⟩
      ·have k3:decide (4611686018427387903 < n)=false:=decide_eq_false g3
       by_cases g4:n= -1
       ·have k4:(n==-1)=true:=by simpa using g4
        have HE:=hid (cont_any c1 g0 g1 g2 g3 (.inl g4))
        rw [if_pos g4] at HE
        clear g4
        have lf:=itoa_len_int (x:=f) hsb.1 (by omega)
        have lt:=itoa_len_int (x:=t-1) (by omega) (by omega)
        go_upto_region 3 with (go_at_call 41;refine (HS.out _).mono ?_;rintro e w2 ⟨rfl,hG2⟩;have b0:=hG2.cell a0;have b1:=hG2.cell a1)
        have q0:∀i,(gw w2 i).cell? ⟨g,0,none⟩=some (.int .i64 f):=fun i=>(gw_gr w2 i).cell b0
        have q1:∀i,(gw w2 i).cell? ⟨g,1,none⟩=some (.int .i64 t):=fun i=>(gw_gr w2 i).cell b1
        have HG2:=hid (Gr.tr hG1 hG2)
        have HP2:=hid (HP1.out.gr hG2)
        clear hG2 hG1 a0 a1
        refine wp_region_gw (by kernel_rfl) (by kernel_rfl) ?_
        repeat (first | go_big_quiet_step ((go_at_call 119;exact gw_call (fmtInt_any _ _ (HP2.out.gr (gw_gr _ _)) (by omega) (by omega)))) | quiet_step ((go_at_call 119;exact gw_call (fmtInt_any _ _ (HP2.out.gr (gw_gr _ _)) (by omega) (by omega)))))
        refine wpQuiet_nil ?_;intro wq hwq;obtain ⟨iq,rfl⟩:=hwq
        have HG3:=hid (Gr.tr HG2.out (gw_gr w2 iq))
        have s1:=q1 iq
        have s0:=q0 iq
        have HP3:=hid (HP2.out.gr (gw_gr w2 iq))
        generalize gw w2 iq=w3 at *
        clear q0 q1
        go_wp2_with fail
        go_ret
        exact ⟨by rw [HE.out];simp [headC],HG3.out⟩
       ·have k4:(n==-1)=false:=by simpa using g4
        by_cases g5:n < t
        ·have k5:decide (n < t)=true:=decide_eq_true g5
         have HE:=hid (cont_behind (f:=f) (t:=t) (n:=n) g4 g5)
         clear g4
         have lf:=itoa_len_int (x:=f) hsb.1 (by omega)
         have lt:=itoa_len_int (x:=t-1) (by omega) (by omega)
         go_upto_region 3 with (go_at_call 41;refine (HS.out _).mono ?_;rintro e w2 ⟨rfl,hG2⟩;have b0:=hG2.cell a0;have b1:=hG2.cell a1)
         have q0:∀i,(gw w2 i).cell? ⟨g,0,none⟩=some (.int .i64 f):=fun i=>(gw_gr w2 i).cell b0
         have q1:∀i,(gw w2 i).cell? ⟨g,1,none⟩=some (.int .i64 t):=fun i=>(gw_gr w2 i).cell b1
         have HG2:=hid (Gr.tr hG1 hG2)
         have HP2:=hid (HP1.out.gr hG2)
         clear hG2 hG1 a0 a1
         refine wp_region_gw (by kernel_rfl) (by kernel_rfl) ?_
         repeat (first | go_big_quiet_step ((go_at_call 119;exact gw_call (fmtInt_any _ _ (HP2.out.gr (gw_gr _ _)) (by omega) (by omega)))) | quiet_step ((go_at_call 119;exact gw_call (fmtInt_any _ _ (HP2.out.gr (gw_gr _ _)) (by omega) (by omega)))))
         refine wpQuiet_nil ?_;intro wq hwq;obtain ⟨iq,rfl⟩:=hwq
         have HG3:=hid (Gr.tr HG2.out (gw_gr w2 iq))
         have s1:=q1 iq
         have s0:=q0 iq
         have HP3:=hid (HP2.out.gr (gw_gr w2 iq))
         generalize gw w2 iq=w3 at *
         clear q0 q1
         go_wp2_with fail
         go_ret
         exact ⟨by rw [HE.out];rfl,HG3.out⟩
        ·have k5:decide (n < t)=false:=decide_eq_false g5
         have HE:=hid (cont_any c1 g0 g1 g2 g3 (.inr (by omega)))
         rw [if_neg g4] at HE
         have hn1:-1 < n:=by omega
         have ln:=itoa_len_int (x:=n) (by omega) (by omega)
         clear g4
         have lf:=itoa_len_int (x:=f) hsb.1 (by omega)
         have lt:=itoa_len_int (x:=t-1) (by omega) (by omega)
         go_upto_region 3 with (go_at_call 41;refine (HS.out _).mono ?_;rintro e w2 ⟨rfl,hG2⟩;have b0:=hG2.cell a0;have b1:=hG2.cell a1)
         have q0:∀i,(gw w2 i).cell? ⟨g,0,none⟩=some (.int .i64 f):=fun i=>(gw_gr w2 i).cell b0
         have q1:∀i,(gw w2 i).cell? ⟨g,1,none⟩=some (.int .i64 t):=fun i=>(gw_gr w2 i).cell b1
         have HG2:=hid (Gr.tr hG1 hG2)
         have HP2:=hid (HP1.out.gr hG2)
         clear hG2 hG1 a0 a1
         refine wp_region_gw (by kernel_rfl) (by kernel_rfl) ?_
         repeat (first | go_big_quiet_step ((go_at_call 119;exact gw_call (fmtInt_any _ _ (HP2.out.gr (gw_gr _ _)) (by omega) (by omega)))) | quiet_step ((go_at_call 119;exact gw_call (fmtInt_any _ _ (HP2.out.gr (gw_gr _ _)) (by omega) (by omega)))))
         refine wpQuiet_nil ?_;intro wq hwq;obtain ⟨iq,rfl⟩:=hwq
         have HG3:=hid (Gr.tr HG2.out (gw_gr w2 iq))
         have s1:=q1 iq
         have s0:=q0 iq
         have HP3:=hid (HP2.out.gr (gw_gr w2 iq))
         generalize gw w2 iq=w3 at *
         clear q0 q1
         go_wp2_with (go_at_call 119;refine (fmtInt_any _ _ HP3.out (by omega) (by omega)).mono ?_;rintro e w4 ⟨rfl,hG4⟩)
         go_ret
         exact ⟨by rw [HE.out];simp [headC],Gr.tr HG3.out hG4⟩
end Go.Proofs.YtflepnkpihfidaaGreatDoor
namespace Go.Proofs.YtflepnkpihfidaaGreatDoor
open Lib (hid)
open Go.RowKit
def ErrC (w:World) (g:Nat):Prop:=∃ev,w.cell? ⟨g,0,none⟩=some ev∧(ev=.nilIface∨∃te pe,ev=.iface te pe)
structure Vars (w:World):Prop where
 es:ErrC w 2
 er:ErrC w 3
 ml:Ml w
 pw:Pw w
structure VarsW (w:World):Prop where
 ml:Ml w
 pw:Pw w
theorem VarsW.gr {w w':World} (h:VarsW w) (g:Gr w w'):VarsW w':=⟨h.ml.gr g,h.pw.gr g⟩
theorem Vars.w {w:World} (h:Vars w):VarsW w:=⟨h.ml,h.pw⟩
instance {w:World}:Coe (Vars w) (VarsW w):=⟨Vars.w⟩
theorem m_cut (l sep:List UInt8) (w:World) (hm:Ml w) (hl:l.length < 4294967281):Calls Tryz.prog 130 #[str l,str sep] w fun e w'=>e=.returned (.tuple #[str (Lib.cut l sep).1,str (Lib.cut l sep).2.1,.bool (Lib.cut l sep).2.2])∧Gr w w':=by
 obtain ⟨m,hm⟩:=hm
 exact (Tryz.strings_Cut ⟨l.toArray⟩ ⟨sep.toArray⟩ m w hl hm).mono fun _ _ ⟨h1,n,h2⟩=>⟨by rw [h1],by rw [h2];exact Gr.drN (Gr.refl w) n⟩
end Go.Proofs.YtflepnkpihfidaaGreatDoor
namespace Go.Proofs.YtflepnkpihfidaaGreatDoor
open Lib (hid)
open Go.RowKit
theorem Bk.cells2 {w:World} {g:Nat} {t:TypeId} {a b:Value} {fr:Nat×Nat} (h:Bk w g t #[a,b] fr):w.cell? ⟨g,0,none⟩=some a∧w.cell? ⟨g,1,none⟩=some b:=⟨h.cell 0,h.cell 1⟩
end Go.Proofs.YtflepnkpihfidaaGreatDoor
namespace Go.Proofs.YtflepnkpihfidaaGreatDoor
open Lib (hid)
open Go.RowKit
end Go.Proofs.YtflepnkpihfidaaGreatDoor
namespace Go.Proofs.YtflepnkpihfidaaGreatDoor
open Lib (hid)
open Go.RowKit
theorem bound_len {l:List UInt8} (h:l.length < 1∨70 < l.length):boundB l=false:=by
 unfold boundB
 rcases h with h | h
 ·rw [decide_eq_false (show ¬1≤l.length by omega)];simp
 ·rw [decide_eq_false (show ¬l.length≤70 by omega)];simp
theorem bound_no1 {l:List UInt8} (h:l.all letterC=false):boundB l=false:=by unfold boundB;rw [h];rfl
theorem bound_yes {l:List UInt8} (h:l.all letterC=true) (h1:1≤l.length) (h2:l.length≤70):boundB l=true:=by unfold boundB;rw [h,decide_eq_true h1,decide_eq_true h2];rfl
set_option maxHeartbeats 4000000 in
theorem bounds_any (l:List UInt8) (w:World) (_hl:l.length≤9223372036854775800):Calls Tryz.prog 50 #[str l] w fun e w'=>e=.returned (.bool (boundB l))∧Gr w w':=by
 by_cases hs:l.length < 1
 ·have d1:decide ((l.length:Int) < 1)=true:=decide_eq_true (by omega)
  go_enter Tryz.func50,Tryz.ntmps50
  go_wp2_with fail
  go_ret
  exact ⟨ret_bool (bound_len (by omega)).symm,Gr.refl _⟩
 have d1:decide ((l.length:Int) < 1)=false:=decide_eq_false (by omega)
 by_cases hs2:70 < l.length
 ·have d2:decide (70 < (l.length:Int))=true:=decide_eq_true (by omega)
  go_enter Tryz.func50,Tryz.ntmps50
  go_wp2_with fail
  go_ret
  exact ⟨ret_bool (bound_len (by omega)).symm,Gr.refl _⟩
 have d2:decide (70 < (l.length:Int))=false:=decide_eq_false (by omega)
 go_enter Tryz.func50,Tryz.ntmps50
 go_wp2_with fail
 go_loopw [2,3,4,15] (fun x0 x1 x2 i wr=>∃k:Nat,k≤l.length∧i=.int .i64 k∧Gr w wr∧(l.take k).all letterC=true) (fun _ _ _ i _=>l.length-(intOf i).toNat)
 case atStart=>exact ⟨0,Nat.zero_le _,rfl,Gr.refl _,rfl⟩
 case round=>
  obtain ⟨k,hk,rfl,hG,hE⟩:=hrel
  have HE:=hid hE;clear hE
  by_cases hlt:k < l.length
  ·have hx:=l[k].toNat_lt
   rcases (show (48≤l[k].toNat∧l[k].toNat≤57)∨(65≤l[k].toNat∧l[k].toNat≤90)∨(97≤l[k].toNat∧l[k].toNat≤122)∨(0≤l[k].toNat∧l[k].toNat≤47)∨(58≤l[k].toNat∧l[k].toNat≤64)∨(91≤l[k].toNat∧l[k].toNat≤96)∨(123≤l[k].toNat∧l[k].toNat≤255) by omega) with ⟨h1,h2⟩ | ⟨h1,h2⟩ | ⟨h1,h2⟩ | ⟨h1,h2⟩ | ⟨h1,h2⟩ | ⟨h1,h2⟩ | ⟨h1,h2⟩
   ·have ddlt48:decide (((l[k].toNat:Nat):Int) < 48)=false:=decide_eq_false (by omega)
    have ddgt57:decide (57 < ((l[k].toNat:Nat):Int))=false:=decide_eq_false (by omega)
    have ddlt97:decide (((l[k].toNat:Nat):Int) < 97)=true:=decide_eq_true (by omega)
    have ddgt122:decide (122 < ((l[k].toNat:Nat):Int))=false:=decide_eq_false (by omega)
    have ddlt65:decide (((l[k].toNat:Nat):Int) < 65)=true:=decide_eq_true (by omega)
    have ddgt90:decide (90 < ((l[k].toNat:Nat):Int))=false:=decide_eq_false (by omega)
    have hc:=hid (tokC_letter l[k] (by omega))
    clear hx
    go_wp2_with fail
    exact ⟨⟨k+1,by omega,by go_num,hG,all_take_succ _ l k hlt HE.out hc.out⟩,by simp [intOf];omega⟩
   ·have ddlt48:decide (((l[k].toNat:Nat):Int) < 48)=false:=decide_eq_false (by omega)
    have ddgt57:decide (57 < ((l[k].toNat:Nat):Int))=true:=decide_eq_true (by omega)
    have ddlt97:decide (((l[k].toNat:Nat):Int) < 97)=true:=decide_eq_true (by omega)
    have ddgt122:decide (122 < ((l[k].toNat:Nat):Int))=false:=decide_eq_false (by omega)
    have ddlt65:decide (((l[k].toNat:Nat):Int) < 65)=false:=decide_eq_false (by omega)
    have ddgt90:decide (90 < ((l[k].toNat:Nat):Int))=false:=decide_eq_false (by omega)
    have hc:=hid (tokC_letter l[k] (by omega))
    clear hx
    go_wp2_with fail
    exact ⟨⟨k+1,by omega,by go_num,hG,all_take_succ _ l k hlt HE.out hc.out⟩,by simp [intOf];omega⟩
   ·have ddlt48:decide (((l[k].toNat:Nat):Int) < 48)=false:=decide_eq_false (by omega)
    have ddgt57:decide (57 < ((l[k].toNat:Nat):Int))=true:=decide_eq_true (by omega)
    have ddlt97:decide (((l[k].toNat:Nat):Int) < 97)=false:=decide_eq_false (by omega)
    have ddgt122:decide (122 < ((l[k].toNat:Nat):Int))=false:=decide_eq_false (by omega)
    have ddlt65:decide (((l[k].toNat:Nat):Int) < 65)=false:=decide_eq_false (by omega)
    have ddgt90:decide (90 < ((l[k].toNat:Nat):Int))=true:=decide_eq_true (by omega)
    have hc:=hid (tokC_letter l[k] (by omega))
    clear hx
    go_wp2_with fail
    exact ⟨⟨k+1,by omega,by go_num,hG,all_take_succ _ l k hlt HE.out hc.out⟩,by simp [intOf];omega⟩
   ·have ddlt48:decide (((l[k].toNat:Nat):Int) < 48)=true:=decide_eq_true (by omega)
    have ddgt57:decide (57 < ((l[k].toNat:Nat):Int))=false:=decide_eq_false (by omega)
    have ddlt97:decide (((l[k].toNat:Nat):Int) < 97)=true:=decide_eq_true (by omega)
    have ddgt122:decide (122 < ((l[k].toNat:Nat):Int))=false:=decide_eq_false (by omega)
    have ddlt65:decide (((l[k].toNat:Nat):Int) < 65)=true:=decide_eq_true (by omega)
    have ddgt90:decide (90 < ((l[k].toNat:Nat):Int))=false:=decide_eq_false (by omega)
    have hc:=hid (letterC_no l[k] (by omega))
    clear hx
    go_wp2_with fail
    go_ret
    exact ⟨ret_bool (bound_no1 (all_no _ l k hlt hc.out)).symm,hG⟩
   ·have ddlt48:decide (((l[k].toNat:Nat):Int) < 48)=false:=decide_eq_false (by omega)
    have ddgt57:decide (57 < ((l[k].toNat:Nat):Int))=true:=decide_eq_true (by omega)
    have ddlt97:decide (((l[k].toNat:Nat):Int) < 97)=true:=decide_eq_true (by omega)
    have ddgt122:decide (122 < ((l[k].toNat:Nat):Int))=false:=decide_eq_false (by omega)
    have ddlt65:decide (((l[k].toNat:Nat):Int) < 65)=true:=decide_eq_true (by omega)
    have ddgt90:decide (90 < ((l[k].toNat:Nat):Int))=false:=decide_eq_false (by omega)
    have hc:=hid (letterC_no l[k] (by omega))
    clear hx
    go_wp2_with fail
    go_ret
    exact ⟨ret_bool (bound_no1 (all_no _ l k hlt hc.out)).symm,hG⟩
   ·have ddlt48:decide (((l[k].toNat:Nat):Int) < 48)=false:=decide_eq_false (by omega)
    have ddgt57:decide (57 < ((l[k].toNat:Nat):Int))=true:=decide_eq_true (by omega)
    have ddlt97:decide (((l[k].toNat:Nat):Int) < 97)=true:=decide_eq_true (by omega)
    have ddgt122:decide (122 < ((l[k].toNat:Nat):Int))=false:=decide_eq_false (by omega)
    have ddlt65:decide (((l[k].toNat:Nat):Int) < 65)=false:=decide_eq_false (by omega)
    have ddgt90:decide (90 < ((l[k].toNat:Nat):Int))=true:=decide_eq_true (by omega)
    have hc:=hid (letterC_no l[k] (by omega))
    clear hx
    go_wp2_with fail
    go_ret
    exact ⟨ret_bool (bound_no1 (all_no _ l k hlt hc.out)).symm,hG⟩
   ·have ddlt48:decide (((l[k].toNat:Nat):Int) < 48)=false:=decide_eq_false (by omega)
    have ddgt57:decide (57 < ((l[k].toNat:Nat):Int))=true:=decide_eq_true (by omega)
    have ddlt97:decide (((l[k].toNat:Nat):Int) < 97)=false:=decide_eq_false (by omega)
    have ddgt122:decide (122 < ((l[k].toNat:Nat):Int))=true:=decide_eq_true (by omega)
    have ddlt65:decide (((l[k].toNat:Nat):Int) < 65)=false:=decide_eq_false (by omega)
    have ddgt90:decide (90 < ((l[k].toNat:Nat):Int))=true:=decide_eq_true (by omega)
    have hc:=hid (letterC_no l[k] (by omega))
    clear hx
    go_wp2_with fail
    go_ret
    exact ⟨ret_bool (bound_no1 (all_no _ l k hlt hc.out)).symm,hG⟩
  ·go_wp2_with fail
   go_ret
   exact ⟨ret_bool (bound_yes (all_end _ l k hlt HE.out) (by omega) (by omega)).symm,hG⟩
theorem kind_name {n s:List UInt8} (h1:token n=true) (h2:n.length≤200):right (n,s)=right ([97],s):=by
 unfold right;rw [h1,decide_eq_true h2];rfl
theorem kind_len {l:List UInt8} (h:l.length < 1∨100 < l.length):kindB l=false:=by
 unfold kindB
 rcases h with h | h
 ·rw [decide_eq_false (show ¬1≤l.length by omega)];simp
 ·rw [decide_eq_false (show ¬l.length≤100 by omega)];simp
theorem kind_in {l:List UInt8} (h1:1≤l.length) (h2:l.length≤100):kindB l=right ([97],l):=by unfold kindB;rw [decide_eq_true h1,decide_eq_true h2];rfl
set_option maxHeartbeats 2000000 in
theorem kindly_any (l:List UInt8) (w:World) (_hl:l.length≤9223372036854775800):Calls Tryz.prog 111 #[str l] w fun e w'=>e=.returned (.bool (kindB l))∧Gr w w':=by
 have HR:=hid (fun (w:World)=>right_any [67,111,110,116,101,110,116,45,84,121,112,101] l w (by decide) (by omega))
 rw [kind_name (n:=[67,111,110,116,101,110,116,45,84,121,112,101]) (by decide) (by decide)] at HR
 by_cases hs:l.length < 1
 ·have d1:decide (1≤(l.length:Int))=false:=decide_eq_false (by omega)
  go_enter Tryz.func111,Tryz.ntmps111
  go_wp2_with fail
  go_ret
  exact ⟨ret_bool (kind_len (by omega)).symm,Gr.refl _⟩
 ·have d1:decide (1≤(l.length:Int))=true:=decide_eq_true (by omega)
  by_cases hs2:100 < l.length
  ·have d2:decide ((l.length:Int)≤100)=false:=decide_eq_false (by omega)
   go_enter Tryz.func111,Tryz.ntmps111
   go_wp2_with fail
   go_ret
   exact ⟨ret_bool (kind_len (by omega)).symm,Gr.refl _⟩
  ·have d2:decide ((l.length:Int)≤100)=true:=decide_eq_true (by omega)
   go_enter Tryz.func111,Tryz.ntmps111
   go_wp2_with (go_at_call 185;refine (HR.out _).mono ?_;rintro e w2 ⟨rfl,hG2⟩)
   go_ret
   exact ⟨ret_bool (kind_in (by omega) (by omega)).symm,hG2⟩
end Go.Proofs.YtflepnkpihfidaaGreatDoor
namespace Go.Proofs.YtflepnkpihfidaaGreatDoor
open Lib (hid)
open Go.RowKit
def hexD (d:Nat):UInt8:=if d < 10 then UInt8.ofNat (48+d) else UInt8.ofNat (87+d)
def hexW:Nat→Nat→List UInt8
 | 0,_=>[]
 | i+1,n=>hexD (n / 16 ^ i % 16)::hexW i n
theorem hexW_len:∀(i n:Nat),(hexW i n).length=i
 | 0,_=>rfl
 | i+1,n=>by rw [hexW,List.length_cons,hexW_len i n]
def u64N (k:Int):Nat:=(k % 18446744073709551616).toNat
theorem u64N_lt (k:Int):u64N k < 18446744073709551616:=by unfold u64N;omega
def sliceN:List UInt8:=[115,108,105,99,101]
def boundN (k:Int):List UInt8:=sliceN++hexW 16 (u64N k)
end Go.Proofs.YtflepnkpihfidaaGreatDoor
namespace Go.Proofs.YtflepnkpihfidaaGreatDoor
open Lib (hid)
open Go.RowKit
theorem hexW_pad:∀(i j n:Nat),j≤i→n < 16 ^ j→hexW i n=List.replicate (i-j) 48++hexW j n
 | 0,j,n,hj,_=>by
   have:j=0:=by omega
   subst this;rfl
 | i+1,j,n,hj,hn=>by
   rcases Nat.lt_or_ge i j with h | h
   ·have:j=i+1:=by omega
    subst this;simp
   ·have hz:n / 16 ^ i=0:=Nat.div_eq_of_lt (Nat.lt_of_lt_of_le hn (Nat.pow_le_pow_right (by omega) h))
    rw [hexW,hz,hexW_pad i j n h hn,show i+1-j=(i-j)+1 from by omega,List.replicate_succ]
    rfl
theorem hexD_letter {d:Nat} (h:d < 16):letterC (hexD d)=true:=by
 have:∀x:Fin 16,letterC (hexD x.1)=true:=by decide
 exact this ⟨d,h⟩
theorem hexW_letter:∀(i n:Nat),(hexW i n).all letterC=true
 | 0,_=>rfl
 | i+1,n=>by rw [hexW,List.all_cons,hexD_letter (Nat.mod_lt _ (by omega)),hexW_letter i n];rfl
theorem boundN_len (k:Int):(boundN k).length=21:=by unfold boundN;rw [List.length_append,hexW_len];rfl
theorem boundN_ok (k:Int):boundB (boundN k)=true:=by
 refine bound_yes ?_ (by rw [boundN_len];decide) (by rw [boundN_len];decide)
 unfold boundN
 rw [List.all_append,hexW_letter];rfl
end Go.Proofs.YtflepnkpihfidaaGreatDoor
namespace Go.Proofs.YtflepnkpihfidaaGreatDoor
open Lib (hid)
open Go.RowKit
theorem hexW_snoc:∀(i n:Nat),hexW (i+1) n=hexW i (n / 16)++[hexD (n % 16)]
 | 0,n=>by simp [hexW]
 | i+1,n=>by
   rw [hexW,hexW_snoc i n,hexW,List.cons_append,Nat.div_div_eq_div_mul,Nat.pow_succ,Nat.mul_comm]
def hexT (n:Nat):List UInt8:=if n < 16 then [hexD n] else hexT (n / 16)++[hexD (n % 16)]
termination_by n
decreasing_by omega
theorem hexT_of:∀(j n:Nat),n < 16 ^ (j+1)→(j=0∨16 ^ j≤n)→hexW (j+1) n=hexT n
 | 0,n,h,_=>by
   have h':n < 16:=by simpa using h
   rw [hexT,if_pos h'];simp [hexW,Nat.mod_eq_of_lt h']
 | j+1,n,h,h2=>by
   have h16:16≤n:=by
    rcases h2 with h2 | h2
    ·omega
    ·have:=Nat.pow_le_pow_right (n:=16) (by omega) (show 1≤j+1 by omega);omega
   have hd:n / 16 < 16 ^ (j+1):=by rw [Nat.div_lt_iff_lt_mul (by omega),←Nat.pow_succ];exact h
   rw [hexT,if_neg (by omega),hexW_snoc,hexT_of j (n / 16) hd (by
    rcases h2 with h2 | h2
    ·omega
    ·right;rw [Nat.le_div_iff_mul_le (by omega),←Nat.pow_succ];exact h2)]
theorem hexT_len (n:Nat) (j:Nat) (h:n < 16 ^ (j+1)) (h2:j=0∨16 ^ j≤n):(hexT n).length=j+1:=by rw [←hexT_of j n h h2,hexW_len]
theorem hexT_ex:∀(m n:Nat),n < 16 ^ (m+1)→∃j,j≤m∧n < 16 ^ (j+1)∧(j=0∨16 ^ j≤n)
 | 0,n,h=>⟨0,Nat.le_refl _,h,.inl rfl⟩
 | m+1,n,h=>by
   rcases Nat.lt_or_ge n (16 ^ (m+1)) with h1 | h1
   ·obtain ⟨j,hj,h2⟩:=hexT_ex m n h1
    exact ⟨j,by omega,h2⟩
   ·exact ⟨m+1,Nat.le_refl _,h,.inr h1⟩
theorem hexT_le (n:Nat) (h:n < 18446744073709551616):1≤(hexT n).length∧(hexT n).length≤16:=by
 obtain ⟨j,hj,h1,h2⟩:=hexT_ex 15 n h
 rw [hexT_len n j h1 h2];omega
theorem hexT_pad (n:Nat) (h:n < 18446744073709551616):hexW 16 n=List.replicate (16-(hexT n).length) 48++hexT n:=by
 obtain ⟨j,hj,h1,h2⟩:=hexT_ex 15 n h
 rw [hexT_len n j h1 h2,←hexT_of j n h1 h2]
 exact hexW_pad 16 (j+1) n (by omega) h1
end Go.Proofs.YtflepnkpihfidaaGreatDoor
namespace Go.Proofs.YtflepnkpihfidaaGreatDoor
open Lib (hid)
open Go.RowKit
def Tz (w:World):Prop:=w.cell? ⟨5,15,none⟩=some (.int .u8 4)
theorem Tz.gr {w w':World} (h:Tz w) (g:Gr w w'):Tz w':=Gr.cell g h
theorem tz64_16 (w:World) (h:Tz w):Calls Tryz.prog 282 #[.int .u64 16] w fun e w'=>e=.returned (.int .i64 4)∧w=w':=by
 unfold Tz at h
 have hx:IntKind.u64.wrap (bits BinOp.and IntKind.u64 16 (IntKind.u64.wrap (-16))*285870213051353865) / 288230376151711744=15:=by kernel_rfl
 go_enter Tryz.func282,Tryz.ntmps282
 go_wp2_with fail
 go_ret
 exact ⟨rfl,rfl⟩
theorem tz_16 (w:World) (h:Tz w):Calls Tryz.prog 248 #[.int .u64 16] w fun e w'=>e=.returned (.int .i64 4)∧w=w':=by
 go_enter Tryz.func248,Tryz.ntmps248
 go_wp2_with (go_at_call 282;refine (tz64_16 _ h).mono ?_;rintro e w' ⟨rfl,rfl⟩)
 go_ret
 exact ⟨rfl,rfl⟩
theorem pow2_16 (w:World):Calls Tryz.prog 247 #[.int .i64 16] w fun e w'=>e=.returned (.bool true)∧w=w':=by
 have hx:bits BinOp.and IntKind.i64 16 15=0:=by kernel_rfl
 go_enter Tryz.func247,Tryz.ntmps247
 go_wp2_with fail
 go_ret
 exact ⟨by rfl,rfl⟩
def hexRow (p j n:Nat):List UInt8:=List.replicate p 0++hexW j n
theorem hexRow_len (p j n:Nat):(hexRow p j n).length=p+j:=by unfold hexRow;rw [List.length_append,List.length_replicate,hexW_len]
theorem hexRow_step (p j n:Nat):(hexRow (p+1) j n).set p (hexD (n / 16 ^ j % 16))=hexRow p (j+1) n:=by
 unfold hexRow
 rw [hexW,List.replicate_succ',List.append_assoc,List.set_append_right _ _ (by simp)]
 simp
theorem hexRow_set {w:World} {g:Nat} {t:TypeId} {fr:Nat×Nat} (p j n:Nat) (hp:0 < p) (h:Bk w g t ((hexRow p j n).map byt).toArray fr) (c:UInt8) (hc:c=hexD (n / 16 ^ j % 16)):Bk (w.setCell ⟨g,p-1,none⟩ (.int .u8 (c.toNat:Int))) g t ((hexRow (p-1) (j+1) n).map byt).toArray fr:=by
 obtain ⟨p,rfl⟩:∃q,p=q+1:=⟨p-1,by omega⟩
 have:=h.set p (byt c)
 rw [Nat.add_sub_cancel,←hexRow_step p j n,List.map_set,←hc]
 simpa using this
theorem hexRow_cell {w:World} {g:Nat} {t:TypeId} {fr:Nat×Nat} (p j n:Nat) (hp:0 < p) (h:Bk w g t ((hexRow p j n).map byt).toArray fr):w.cell? ⟨g,p-1,none⟩=some (byt 0):=by
 rw [h.cell (p-1)]
 unfold hexRow
 simp only [List.map_append,List.map_replicate,List.getElem?_toArray]
 rw [List.getElem?_append_left (by rw [List.length_replicate];omega),List.getElem?_replicate,if_pos (by omega)]
theorem hexRow_drop (p j n:Nat):(hexRow p j n).drop p=hexW j n:=by
 unfold hexRow;rw [List.drop_append_of_le_length (by simp)];simp
theorem hexRow_zero (n:Nat):(hexRow 65 0 n)=List.replicate 65 0:=by unfold hexRow;simp [hexW]
theorem digL (d : Nat) (h : d < 16) (hd : d < 36) : ([48, 49, 50, 51, 52, 53, 54, 55, 56, 57, 97, 98, 99, 100, 101, 102, 103, 104, 105, 106, 107, 108, 109, 110, 111, 112, 113, 114, 115, 116, 117, 118, 119, 120, 121, 122] : List UInt8)[d]'(hd) = hexD d := by
 have:∀x:Fin 16,([48,49,50,51,52,53,54,55,56,57,97,98,99,100,101,102,103,104,105,106,107,108,109,110,111,112,113,114,115,116,117,118,119,120,121,122]:List UInt8)[x.1]?=some (hexD x.1):=by decide
 have:=this ⟨d,h⟩
 rw [List.getElem?_eq_getElem hd] at this
 exact Option.some.inj this
theorem and15 (m:Nat) (h:m < 18446744073709551616):bits .and .u64 (m:Int) 15=((m % 16:Nat):Int):=by
 have:=u64_and_nat m 15 h (by omega)
 rw [show (15:Nat)=2 ^ 4-1 from rfl,Nat.and_two_pow_sub_one_eq_mod] at this
 exact this
theorem pow_up (j n:Nat) (h:16≤n / 16 ^ j):16 ^ (j+1)≤n:=by
 rw [Nat.pow_succ,Nat.mul_comm];exact (Nat.le_div_iff_mul_le (Nat.pow_pos (by omega))).1 h
theorem pow_dn (j n:Nat) (h:n / 16 ^ j < 16):n < 16 ^ (j+1):=by
 rw [Nat.pow_succ,Nat.mul_comm];exact (Nat.div_lt_iff_lt_mul (Nat.pow_pos (by omega))).1 h
theorem pow_15 (j n:Nat) (hn:n < 18446744073709551616) (h:16 ^ (j+1)≤n):j < 15:=by
 rcases Nat.lt_or_ge j 15 with h1 | h1
 ·exact h1
 ·have:=Nat.pow_le_pow_right (n:=16) (by omega) (show 16≤j+1 by omega);omega
theorem arrT:Tryz.prog.underlying 319=some (.array (Tryz.prog.arrayLen 319) (Tryz.prog.elem 319)):=by kernel_rfl
theorem sizeArr (w:World):(sizeOf (Tryz.prog.elem 319)).run Tryz.prog w=.ok 1 w:=by
 simp [sizeOf,typeInfo];kernel_rfl
theorem arrLen:Tryz.prog.arrayLen 319=65:=by kernel_rfl
theorem wpList_slArr {ops:Array Oper} {rest:List Oper} {o:Oper} {a:Act} {Q:Exit→Act→World→Prop} {w:World} {g:Nat} {l:List UInt8} {fr:Nat×Nat} {p:Nat} (x y:Operand) (hgd:o.guard=none) (ho:o.op=.slice 319 x (some y) none none) (hx:a.eval x=.pointer (some ⟨g,0,none⟩)) (hy:a.eval y=.int .i64 (p:Int))
  (hb:Bk w g 319 (l.map byt).toArray fr) (hl:l.length=65) (hk:p < 65)
  (h:Byts w (.slice (some ⟨g,p,none⟩) (65-p) (65-p)) (l.drop p)→wpList Tryz.prog ops Q rest (a.put o.dst (.slice (some ⟨g,p,none⟩) (65-p) (65-p))) w):wpList Tryz.prog ops Q (o::rest) a w:=by
 refine wpList_run hgd ?_ (h ⟨_,_,by rw [List.length_drop,hl],by rw [List.length_drop,hl];exact Nat.le_refl _,by rw [List.length_drop];omega,.inr ⟨g,p,rfl,hb.lt,fun j u hu=>?_⟩⟩)
 ·unfold execOp
  simp only [ho,hx,hy,Option.map_some,Option.map_none,Sem.run_bind,run_sliceAt_array_l w _ _ arrT .i64 (p:Int) (by omega) (by rw [arrLen];omega),sizeArr,Result.andThen_ok,Sem.run_pure,slicedAt,arrLen]
  rw [if_neg (by simp;omega)]
  simp [Addr.add];omega
 ·rw [hb.cell (p+j)]
  rw [List.map_drop,List.getElem?_drop] at hu
  simpa using hu
set_option maxHeartbeats 4000000 in
set_option maxRecDepth 100000 in
theorem formatBits_str (n:Nat) (w:World) (hn:n < 18446744073709551616) (hz:Tz w) :
  Calls Tryz.prog 190 #[.slice none 0 0,.int .u64 n,.int .i64 16,.bool false,.bool false] w fun e w'=>e=.returned (.tuple #[.slice none 0 0,str (hexT n)])∧Gr w w':=by
 go_enter Tryz.func190,Tryz.ntmps190
 go_wp2_with (first | (go_at_call 247;refine (pow2_16 _).mono ?_;rintro e w' ⟨rfl,rfl⟩) | (go_at_call 248;refine (tz_16 _ (hz.gr (Gr.al (Gr.refl w) _))).mono ?_;rintro e w' ⟨rfl,rfl⟩))
 go_loopw [1,13] (fun u i wr=>∃j p:Nat,p+j=65∧j≤15∧(j=0∨16 ^ j≤n)∧u=.int .u64 ((n / 16 ^ j:Nat):Int)∧i=.int .i64 (p:Int)∧Gr w wr∧Bk wr w.heap.size 319 ((hexRow p j n).map byt).toArray (0,0)) (fun u _ _=>(intOf u).toNat)
 case atStart=>exact ⟨0,65,rfl,by omega,.inl rfl,by simp,rfl,Gr.al (Gr.refl w) _,by rw [hexRow_zero];exact Bk.new w _ _ _⟩
 case round=>
  obtain ⟨j,p,hpj,hj,hp,rfl,rfl,hG,hB⟩:=hrel
  have hm:n / 16 ^ j < 18446744073709551616:=Nat.lt_of_le_of_lt (Nat.div_le_self _ _) hn
  have hc:=hexRow_cell p j n (by omega) hB
  have hf:=(hB.free (p-1) (.inr (Nat.zero_le _)))
  by_cases h16:16≤n / 16 ^ j
  ·have HU:=hid (pow_up j n h16)
   have hj15:=pow_15 j n hn HU.out
   have HM:=hid (show n / 16 ^ (j+1)=n / 16 ^ j / 16 by rw [Nat.pow_succ,Nat.div_div_eq_div_mul])
   have HB:=hid (fun c=>hexRow_set p j n (by omega) hB c)
   clear hp hB
   generalize n / 16 ^ j=m at *
   have ha:=and15 m hm
   have hlt:=Nat.mod_lt m (show 16 > 0 by omega)
   have HD:=hid (digL (m % 16) hlt)
   go_wp2_with fail
   refine ⟨⟨j+1,p-1,by omega,by omega,.inr HU.out,?_,by congr 1;omega,hG.st (Nat.le_refl _) _,HB.out _ (HD.out _)⟩,by simp [intOf];omega⟩
   rw [HM.out];simp
  ·have HT:=hid (hexT_of j n (pow_dn j n (by omega)) hp)
   have HM:=hid (show n / 16 ^ j % 16=n / 16 ^ j from Nat.mod_eq_of_lt (by omega))
   have HB:=hid (fun c=>hexRow_set p j n (by omega) hB c)
   clear hp hB
   rw [HM.out] at HB
   clear HM
   generalize n / 16 ^ j=m at *
   have HD:=hid (digL m (by omega))
   have HI:=hid (show (p:Int)-1=((p-1:Nat):Int) by omega)
   go_wp2_with (first
    | (refine wpList_slArr (l:=hexRow (p-1) (j+1) n) (p:=p-1) _ _ rfl rfl rfl ?_ (HB.out _ (HD.out _)) ?_ ?_ ?_;exact congrArg (Value.int IntKind.i64) HI.out;rw [hexRow_len];omega;omega;intro hA2;have HA2:=hid hA2;clear hA2)
    | (refine wpList_toStr _ rfl rfl rfl HA2.out ?_))
   go_ret2
   rw [hexRow_drop,HT.out]
   exact ⟨rfl,hG.st (Nat.le_refl _) _⟩
end Go.Proofs.YtflepnkpihfidaaGreatDoor
namespace Go.Proofs.YtflepnkpihfidaaGreatDoor
open Lib (hid)
open Go.RowKit
set_option maxHeartbeats 4000000 in
theorem formatUintI_16 (n:Nat) (w:World) (hn:n < 18446744073709551616) (hz:Tz w):Calls Tryz.prog 113 #[.int .u64 n,.int .i64 16] w fun e w'=>e=.returned (str (hexT n))∧Gr w w':=by
 go_enter Tryz.func113,Tryz.ntmps113
 go_wp2_with (go_at_call 190;refine (formatBits_str _ _ hn hz).mono ?_;rintro e w' ⟨rfl,hG⟩)
 go_ret
 exact ⟨rfl,hG⟩
theorem formatUint_16 (n:Nat) (w:World) (hn:n < 18446744073709551616) (hz:Tz w):Calls Tryz.prog 54 #[.int .u64 n,.int .i64 16] w fun e w'=>e=.returned (str (hexT n))∧Gr w w':=by
 go_enter Tryz.func54,Tryz.ntmps54
 go_wp2_with (go_at_call 113;refine (formatUintI_16 _ _ hn hz).mono ?_;rintro e w' ⟨rfl,hG⟩)
 go_ret
 exact ⟨rfl,hG⟩
theorem andM (m:Nat) (h:m < 4294967296):bits .and .u64 (m:Int) 4294967295=(m:Int):=by
 have:=u64_and_nat m 4294967295 (by omega) (by omega)
 rw [show (4294967295:Nat)=2 ^ 32-1 from rfl,Nat.and_two_pow_sub_one_eq_mod,Nat.mod_eq_of_lt (by omega)] at this
 exact this
theorem mul64_small (c:Nat) (w:World) (hc:c≤100):Calls Tryz.prog 192 #[.int .u64 1,.int .u64 c] w fun e w'=>e=.returned (.tuple #[.int .u64 0,.int .u64 c])∧w=w':=by
 have h0:bits .and .u64 0 4294967295=0:=andM 0 (by omega)
 have h1:bits .and .u64 1 4294967295=1:=andM 1 (by omega)
 have h2:=andM c (by omega)
 have h3:(c:Int) / 4294967296=0:=by omega
 go_enter Tryz.func192,Tryz.ntmps192
 go_wp2_with fail
 go_ret2
 exact ⟨rfl,rfl⟩
theorem mul_small (c:Nat) (w:World) (hc:c≤100):Calls Tryz.prog 114 #[.int .u64 1,.int .u64 c] w fun e w'=>e=.returned (.tuple #[.int .u64 0,.int .u64 c])∧w=w':=by
 go_enter Tryz.func114,Tryz.ntmps114
 go_wp2_with (go_at_call 192;refine (mul64_small _ _ hc).mono ?_;rintro e w' ⟨rfl,rfl⟩)
 go_ret2
 exact ⟨rfl,rfl⟩
theorem hp_zero (s:ByteArray) (b:Bool) (hb:Lib.hasPrefix s.data.toList [48]=b) (w:World):Calls Tryz.prog 115 #[.string s,str [48]] w fun e w'=>e=.returned (.bool b)∧w=w':=
 (Tryz.strings_HasPrefix s ⟨#[48]⟩ w).mono fun _ _ ⟨h1,h2⟩=>⟨by rw [h1];exact congrArg (fun b=>Ending.returned (.bool b)) hb,h2.symm⟩
set_option maxHeartbeats 4000000 in
set_option maxRecDepth 100000 in
theorem repeat_zero (c:Nat) (w:World) (hc:c≤15):Calls Tryz.prog 55 #[str [48],.int .i64 c] w fun e w'=>e=.returned (str (List.replicate c 48))∧Gr w w':=by
 rcases (show c=0∨c=1∨2≤c by omega) with rfl | rfl | h2
 ·go_enter Tryz.func55,Tryz.ntmps55
  go_wp2_with fail
  go_ret
  exact ⟨rfl,Gr.refl _⟩
 ·go_enter Tryz.func55,Tryz.ntmps55
  go_wp2_with fail
  go_ret
  exact ⟨rfl,Gr.refl _⟩
 ·have e0:((c:Int)==0)=false:=by simp;omega
  have e1:((c:Int)==1)=false:=by simp;omega
  go_enter Tryz.func55,Tryz.ntmps55
  go_wp2_with (first | (go_at_call 114;refine (mul_small _ _ (by omega)).mono ?_;rintro e w' ⟨rfl,rfl⟩) | (go_at_call 115;(first | refine (hp_zero _ false (by rfl) _).mono ?_ | refine (hp_zero _ true (by rfl) _).mono ?_);rintro e w' ⟨rfl,rfl⟩))
  go_ret
  refine ⟨?_,Gr.refl _⟩
  have ht:List.take c (List.replicate 64 (48:UInt8))=List.replicate c 48:=by rw [List.take_replicate,Nat.min_eq_left (by omega)]
  rw [←ht]
  rfl
set_option maxHeartbeats 4000000 in
theorem boundary_any (k:Int) (w:World) (hz:Tz w):Calls Tryz.prog 20 #[.int .i64 k] w fun e w'=>e=.returned (str (boundN k))∧Gr w w':=by
 have hwr:IntKind.u64.wrap k=((u64N k:Nat):Int):=by unfold u64N;simp [IntKind.wrap,IntKind.bits,IntKind.signed];omega
 have hn:=u64N_lt k
 have hl:=hexT_le _ hn
 have HP:=hid (hexT_pad _ hn)
 have hB:boundN k=sliceN++(List.replicate (16-(hexT (u64N k)).length) 48++hexT (u64N k)):=by rw [←HP.out];rfl
 have HB:=hid hB
 clear hB HP
 generalize u64N k=n at *
 have hc:(16:Int)-((hexT n).length:Int)=((16-(hexT n).length:Nat):Int):=by omega
 have HC:=hid hc
 clear hc
 go_enter Tryz.func20,Tryz.ntmps20
 go_upto_region 2 with (go_at_call 54;refine (formatUint_16 _ _ hn hz).mono ?_;rintro e w1 ⟨rfl,hG1⟩)
 have HR:=hid (fun w=>repeat_zero (16-(hexT n).length) w (by omega))
 rw [←HC.out] at HR
 generalize hexT n=t at *
 go_wp2_with (go_at_call 55;refine (HR.out _).mono ?_;rintro e w2 ⟨rfl,hG2⟩)
 go_ret
 refine ⟨?_,Gr.tr hG1 hG2⟩
 rw [HB.out]
 refine congrArg (fun b=>Ending.returned (.string b)) ?_
 apply ByteArray.ext
 simp [sliceN]
end Go.Proofs.YtflepnkpihfidaaGreatDoor
namespace Go.Proofs.YtflepnkpihfidaaGreatDoor
open Lib (hid)
open Go.RowKit
end Go.Proofs.YtflepnkpihfidaaGreatDoor
namespace Go.Proofs.YtflepnkpihfidaaGreatDoor
open Lib (hid)
open Go.RowKit
section
variable (first : Bool) (tot : Int) (l : List UInt8) (e : Nat)
end
end Go.Proofs.YtflepnkpihfidaaGreatDoor
namespace Go.Proofs.YtflepnkpihfidaaGreatDoor
open Lib (hid)
open Go.RowKit
theorem own_base {W0 W1 w:World} {e:TypeId} {size n:Nat} {v:Value} {xs:List Value} (h:Own W1 w e size v n xs) (hb:W0.heap.size≤W1.heap.size):Own W0 w e size v n xs:=by
 refine ⟨h.1,?_⟩
 rcases h.2 with hn | ⟨b,cap,cur,hv,hbb,r⟩
 ·exact .inl hn
 ·exact .inr ⟨b,cap,cur,hv,Nat.le_trans hb hbb,r⟩
end Go.Proofs.YtflepnkpihfidaaGreatDoor
namespace Go.Proofs.YtflepnkpihfidaaGreatDoor
open Lib (hid)
open Go.RowKit
end Go.Proofs.YtflepnkpihfidaaGreatDoor
namespace Go.Proofs.YtflepnkpihfidaaGreatDoor
open Lib (hid)
open Go.RowKit
def spansV (l:List (Int×Int)):List Value:=l.flatMap fun s=>[.int .i64 s.1,.int .i64 s.2]
def Spans (w:World) (v:Value) (l:List (Int×Int)):Prop:=Sl w v l.length (spansV l)
theorem spansV_at (l:List (Int×Int)) (k:Nat) (h:k < l.length):(spansV l)[k*2]?=some (.int .i64 l[k].1)∧(spansV l)[k*2+1]?=some (.int .i64 l[k].2):=by
 induction l generalizing k with
 | nil=>simp at h
 | cons f fs ih=>
   have hc:spansV (f::fs)=.int .i64 f.1::.int .i64 f.2::spansV fs:=rfl
   rw [hc]
   cases k with
   | zero=>simp
   | succ k=>
     have:=ih k (by simpa using h)
     rw [show (k+1)*2=k*2+1+1 from by omega]
     simpa using this
theorem Spans.open {w:World} {v:Value} {xs:List (Int×Int)} (h:Spans w v xs):∃A c,v=.slice A xs.length c∧xs.length≤c∧xs.length≤9223372036854775807∧∀(k:Nat) (hk:k < xs.length),∃b o,A=some ⟨b,o,none⟩∧b < w.heap.size∧w.cell? ⟨b,o+k*2,none⟩=some (.int .i64 xs[k].1)∧w.cell? ⟨b,o+k*2+1,none⟩=some (.int .i64 xs[k].2):=by
 obtain ⟨A,c,hv,hc,hm,ho⟩:=Sl.open h
 refine ⟨A,c,hv,hc,hm,fun k hk=>?_⟩
 obtain ⟨e1,e2⟩:=spansV_at xs k hk
 obtain ⟨b,o,hA,hb,hj⟩:=ho _ _ e1
 exact ⟨b,o,hA,hb,hj _ _ e1,by rw [Nat.add_assoc];exact hj _ _ e2⟩
abbrev PartT:=List UInt8×Int×Int
def partsV (l:List PartT):List Value:=l.flatMap fun p=>[str p.1,.int .i64 p.2.1,.int .i64 p.2.2]
def Parts (w:World) (v:Value) (l:List PartT):Prop:=Sl w v l.length (partsV l)
theorem Parts.gr {w w':World} {v:Value} {l} (h:Parts w v l) (g:Gr w w'):Parts w' v l:=Sl.gr h g
theorem partsV_at (l:List PartT) (k:Nat) (h:k < l.length):(partsV l)[k*3]?=some (str l[k].1)∧(partsV l)[k*3+1]?=some (.int .i64 l[k].2.1)∧(partsV l)[k*3+2]?=some (.int .i64 l[k].2.2):=by
 induction l generalizing k with
 | nil=>simp at h
 | cons f fs ih=>
   have hc:partsV (f::fs)=str f.1::.int .i64 f.2.1::.int .i64 f.2.2::partsV fs:=rfl
   rw [hc]
   cases k with
   | zero=>simp
   | succ k=>
     have:=ih k (by simpa using h)
     rw [show (k+1)*3=k*3+1+1+1 from by omega]
     simpa using this
theorem Parts.open {w:World} {v:Value} {xs:List PartT} (h:Parts w v xs):∃A c,v=.slice A xs.length c∧xs.length≤c∧xs.length≤9223372036854775807∧∀(k:Nat) (hk:k < xs.length),∃b o,A=some ⟨b,o,none⟩∧b < w.heap.size∧w.cell? ⟨b,o+k*3,none⟩=some (str xs[k].1)∧w.cell? ⟨b,o+k*3+1,none⟩=some (.int .i64 xs[k].2.1)∧w.cell? ⟨b,o+k*3+2,none⟩=some (.int .i64 xs[k].2.2):=by
 obtain ⟨A,c,hv,hc,hm,ho⟩:=Sl.open h
 refine ⟨A,c,hv,hc,hm,fun k hk=>?_⟩
 obtain ⟨e1,e2,e3⟩:=partsV_at xs k hk
 obtain ⟨b,o,hA,hb,hj⟩:=ho _ _ e1
 exact ⟨b,o,hA,hb,hj _ _ e1,by rw [Nat.add_assoc];exact hj _ _ e2,by rw [Nat.add_assoc];exact hj _ _ e3⟩
section
variable (tot : Int) (kind bnd : List UInt8)
def ptext (ah:List UInt8) (s:Int×Int):List UInt8:=ah++[45,45]++bnd++[13,10]++typeN++kind++[13,10]++rangeN++contentL s.1 s.2 tot++[13,10]++[13,10]
def endL:List UInt8:=[13,10,45,45]++bnd++[45,45]++[13,10]
def partsB:List (Int×Int)→List UInt8→List PartT
 | [],_=>[]
 | s::l,ah=>(ptext tot kind bnd ah s,0,0)::([],s.1,s.2)::partsB l [13,10]
def partsL (l:List (Int×Int)):List PartT:=partsB tot kind bnd l []++[(endL bnd,0,0)]
def partsOk (l:List (Int×Int)):Bool:=!l.isEmpty&&(l.all (fun s=>contB s.1 s.2 tot)&&(kindB kind&&boundB bnd))
end
theorem partsB_len (tot:Int) (kind bnd:List UInt8) (l:List (Int×Int)) (ah:List UInt8):(partsB tot kind bnd l ah).length=2*l.length:=by
 induction l generalizing ah with
 | nil=>rfl
 | cons s l ih=>simp only [partsB,List.length_cons,ih];omega
def ahAt (k:Nat):List UInt8:=if k=0 then [] else [13,10]
theorem partsB_snoc (tot:Int) (kind bnd:List UInt8) (l:List (Int×Int)) (s:Int×Int) (ah:List UInt8):partsB tot kind bnd (l++[s]) ah=partsB tot kind bnd l ah++[(ptext tot kind bnd (if l=[] then ah else [13,10]) s,0,0),([],s.1,s.2)]:=by
 induction l generalizing ah with
 | nil=>rfl
 | cons x l ih=>
   rw [List.cons_append,partsB,ih,partsB]
   simp only [List.cons_append]
   congr 3
   cases l <;> simp
theorem cont_empty {f t n:Int}:contentL f t n=[]↔contB f t n=false:=by
 unfold contentL
 cases h:contB f t n with
 | false=>simp
 | true=>simp [headC]
theorem elemPart:ElemOk Tryz.prog 35 51 (.agg #[str [],.int .i64 0,.int .i64 0]) 3 32:=⟨Tryz.underlying35,by kernel_rfl,rfl,by omega⟩
theorem partsV_app (a b:List PartT):partsV (a++b)=partsV a++partsV b:=by simp [partsV]
def PartsEnd (w:World) (ok:Bool) (ps:List PartT) (e:Ending) (w':World):Prop:=Gr w w'∧if ok then ∃v,e=.returned (.tuple #[v,.int .i64 0])∧Parts w' v ps else e=.returned (.tuple #[.slice none 0 0,.int .i64 1])
theorem partsOk_bad {tot:Int} {kind bnd:List UInt8} {l:List (Int×Int)} (h:(l.all fun s=>contB s.1 s.2 tot)=false):partsOk tot kind bnd l=false:=by unfold partsOk;rw [h];simp
theorem partsOk_rest {tot:Int} {kind bnd:List UInt8} {l:List (Int×Int)} (hn:l≠[]) (h:(l.all fun s=>contB s.1 s.2 tot)=true):partsOk tot kind bnd l=(kindB kind&&boundB bnd):=by
 unfold partsOk;rw [h];cases l with
 | nil=>exact absurd rfl hn
 | cons=>simp
theorem one_part2 (a b:List UInt8) (c d e f:Int):∀u∈[str a,.int .i64 c,.int .i64 d,str b,.int .i64 e,.int .i64 f],u.oneCell'=true:=by
 intro u hu
 simp only [List.mem_cons,List.not_mem_nil,or_false] at hu
 rcases hu with rfl | rfl | rfl | rfl | rfl | rfl <;> rfl
theorem one_part (a:List UInt8) (c d:Int):∀u∈[str a,.int .i64 c,.int .i64 d],u.oneCell'=true:=by
 intro u hu
 simp only [List.mem_cons,List.not_mem_nil,or_false] at hu
 rcases hu with rfl | rfl | rfl <;> rfl
set_option maxHeartbeats 8000000 in
set_option maxRecDepth 100000 in
theorem parts_any (u:Value) (l:List (Int×Int)) (tot:Int) (kind bnd:List UInt8) (w:World) (hv:VarsW w) (hu:Spans w u l) (hll:l.length≤1000000) (hi:∀s∈l,(-9223372036854775808≤s.1∧s.1≤9223372036854775807)∧(-9223372036854775808≤s.2∧s.2≤9223372036854775807)) (ht:-9223372036854775808≤tot∧tot≤9223372036854775807) (hk:kind.length≤1000000) (hb:bnd.length≤1000000) :
  Calls Tryz.prog 148 #[u,.int .i64 tot,str kind,str bnd] w (PartsEnd w (partsOk tot kind bnd l) (partsL tot kind bnd l)):=by
 have HV:=hid (fun (x:World) (h:Gr w x)=>hv.gr h);clear hv
 obtain ⟨A,c,rfl,hc,hm,ho⟩:=hu.open
 have HO:=hid ho;have HU:=hid hu;clear ho hu
 have HIB:=hid hi;clear hi
 by_cases hl0:l=[]
 ·subst hl0
  go_enter Tryz.func148,Tryz.ntmps148
  go_wp2_with fail
  go_ret2
  exact ⟨Gr.refl _,rfl⟩
 ·have hln:0 < l.length:=List.length_pos_iff.2 hl0
  have dl0:((l.length:Int)==0)=false:=by simpa using hl0
  have HNE:=hid hl0
  clear hl0
  go_enter Tryz.func148,Tryz.ntmps148
  go_wp2_with fail
  go_loopw [8,9,11,22] (fun x8 x9 x11 i wr=>∃k:Nat,k≤l.length∧i=.int .i64 k∧Gr w wr∧((l.take k).all fun s=>contB s.1 s.2 tot)=true) (fun _ _ _ i _=>l.length-(intOf i).toNat)
  case atStart=>exact ⟨0,Nat.zero_le _,rfl,Gr.refl _,rfl⟩
  case round=>
   obtain ⟨k,hk0,rfl,hG,hE⟩:=hrel
   have HE:=hid hE;clear hE
   by_cases hlt:k < l.length
   ·obtain ⟨b1,o1,rfl,hb1,hc1,hc1'⟩:=HO.out k hlt
    have hc2:=Gr.cell hG hc1
    have hc2':=Gr.cell hG hc1'
    have hbb:=HIB.out _ (List.getElem_mem hlt)
    have HC:=hid (fun (w:World) (hp:Pw w)=>content_any l[k].1 l[k].2 tot w hp hbb.1 hbb.2 ht)
    clear hbb
    go_upto_region 6 with fail
    obtain ⟨hGb,cf0,cf1⟩:=box2 wr (.int .i64 l[k].1) (.int .i64 l[k].2) 48
    have hG:=Gr.tr hG hGb
    generalize wr.alloc (Obj.cells #[.int .i64 l[k].1,.int .i64 l[k].2] 48)=wb at *
    clear hGb hc2 hc2'
    cases hcb:contB l[k].1 l[k].2 tot with
    | false=>
      have hce:=cont_empty.2 hcb
      have kz:(contentL l[k].1 l[k].2 tot).isEmpty=true:=by rw [hce];rfl
      have HP:=hid (partsOk_bad (kind:=kind) (bnd:=bnd) (all_no (fun s:Int×Int=>contB s.1 s.2 tot) l k hlt hcb))
      clear hce hcb
      go_wp2_with (go_at_call 147;refine (HC.out _ (HV.out _ hG).pw).mono ?_;rintro e w1 ⟨rfl,hG1⟩)
      go_ret2
      unfold PartsEnd
      rw [HP.out]
      exact ⟨Gr.tr hG hG1,rfl⟩
    | true=>
      have hce:contentL l[k].1 l[k].2 tot≠[]:=fun h=>by rw [cont_empty.1 h] at hcb;cases hcb
      have kz:(contentL l[k].1 l[k].2 tot).isEmpty=false:=by simpa using hce
      have HN:=hid (all_take_succ (fun s:Int×Int=>contB s.1 s.2 tot) l k hlt HE.out hcb)
      clear hce hcb
      go_wp2_with (go_at_call 147;refine (HC.out _ (HV.out _ hG).pw).mono ?_;rintro e w1 ⟨rfl,hG1⟩)
      exact ⟨⟨k+1,by omega,by go_num,Gr.tr hG hG1,HN.out⟩,by simp [intOf];omega⟩
   ·have HA:=hid (all_end (fun s:Int×Int=>contB s.1 s.2 tot) l k hlt HE.out)
    have HP:=hid (partsOk_rest (kind:=kind) (bnd:=bnd) HNE.out HA.out)
    have HKD:=hid (fun (w:World)=>kindly_any kind w (by omega))
    have HBN:=hid (fun (w:World)=>bounds_any bnd w (by omega))
    cases hk1:kindB kind with
    | false=>
      rw [hk1] at HKD HP
      go_wp2_with (go_at_call 111;refine (HKD.out _).mono ?_;rintro e w1 ⟨rfl,hG1⟩)
      go_ret2
      unfold PartsEnd
      rw [HP.out]
      exact ⟨Gr.tr hG hG1,rfl⟩
    | true=>
      rw [hk1] at HKD HP
      cases hb1:boundB bnd with
      | false=>
        rw [hb1] at HBN HP
        go_wp2_with (first | (go_at_call 111;refine (HKD.out _).mono ?_;rintro e w1 ⟨rfl,hG1⟩) | (go_at_call 50;refine (HBN.out _).mono ?_;rintro e w2 ⟨rfl,hG2⟩))
        go_ret2
        unfold PartsEnd
        rw [HP.out]
        exact ⟨Gr.tr (Gr.tr hG hG1) hG2,rfl⟩
      | true=>
        rw [hb1] at HBN HP
        go_upto_region 12 with (first | (go_at_call 111;refine (HKD.out _).mono ?_;rintro e w1 ⟨rfl,hG1⟩) | (go_at_call 50;refine (HBN.out _).mono ?_;rintro e w2 ⟨rfl,hG2⟩) | (at_make;refine wpList_mk0 (W0:=w2) (2*l.length+1) elemPart rfl _ _ rfl rfl rfl ?_ ?_ ?_ ?_ ?_;omega;omega;omega;exact Nat.le_refl _;intro w3 hown3 hG3))
        have hGw2:=Gr.tr (Gr.tr hG hG1) hG2
        have HO3:=hid hown3
        generalize hv3:Value.slice (some ⟨w2.heap.size,0,none⟩) 0 (2*l.length+1)=v3 at *
        clear hv3 hown3 HE HKD HBN hG hG1 hG2
        go_wp2_with fail
        go_loopw [12,13,15,16,46] (fun v s13 x15 x16 i wr=>∃k:Nat,k≤l.length∧i=.int .i64 k∧Gr w2 wr∧s13=str (ahAt k)∧Own w2 wr 51 3 v (2*k) (partsV (partsB tot kind bnd (l.take k) []))) (fun _ _ _ _ i _=>l.length-(intOf i).toNat)
        case atStart=>exact ⟨0,Nat.zero_le _,rfl,hG3,rfl,HO3.out⟩
        case round=>
         obtain ⟨k,hk0,rfl,hG,rfl,hO⟩:=hrel
         have HOW:=hid hO
         obtain ⟨A7,c7,hrow⟩:=hO.form
         subst hrow
         clear hO hG3 HO3
         by_cases hlt:k < l.length
         ·obtain ⟨b1,o1,rfl,hb1,hc1,hc1'⟩:=HO.out k hlt
          have hc2:=Gr.cell (Gr.tr hGw2 hG) hc1
          have hc2':=Gr.cell (Gr.tr hGw2 hG) hc1'
          have hbb:=HIB.out _ (List.getElem_mem hlt)
          have HC:=hid (fun (w:World) (hp:Pw w)=>content_any l[k].1 l[k].2 tot w hp hbb.1 hbb.2 ht)
          have hcl:=cont_len l[k].1 l[k].2 tot
          have hal:(ahAt k).length≤2:=by unfold ahAt;split <;> simp
          clear hbb
          go_upto_region 16 with fail
          obtain ⟨hGb,cf0,cf1⟩:=box2 wr (.int .i64 l[k].1) (.int .i64 l[k].2) 48
          have hOb:=hid (HOW.out.gr hGb)
          have hG:=Gr.tr hG hGb
          generalize wr.alloc (Obj.cells #[.int .i64 l[k].1,.int .i64 l[k].2] 48)=wb at *
          clear hGb hc2 hc2' HOW
          go_wp2_with (first
           | (go_at_call 147;refine (HC.out _ (HV.out _ (Gr.tr hGw2 hG)).pw).mono ?_;rintro e w5 ⟨rfl,hG5⟩;have cf0:=hG5.cell cf0;have cf1:=hG5.cell cf1;have HO5:=hid (hOb.out.gr hG5);have hGt:=Gr.tr hG hG5)
           | (at_builtin;refine wpList_appS (W0:=w2) (n:=2*k) (m:=2) elemPart rfl _ _ rfl rfl rfl (Gr.al hGt _).size (HO5.out.al _) (sl_lit _ _ _ 2 (by decide)) rfl (one_part2 _ _ _ _ _ _) (by omega) (by omega) ?_;intro v8 w8 hown8 happ8))
          refine ⟨⟨k+1,by omega,by go_num,happ8.gr (Gr.al hGt _) (HO5.out.al _),rfl,?_⟩,by simp [intOf];omega⟩
          rw [show 2*(k+1)=2*k+2 from by omega,List.take_succ_eq_append_getElem hlt,partsB_snoc,partsV_app]
          have hx:(if l.take k=[] then [] else [13,10])=ahAt k:=by
           unfold ahAt
           by_cases h:k=0
           ·rw [if_pos h,if_pos (by rw [h];rfl)]
           ·rw [if_neg h,if_neg];intro hh;have:=congrArg List.length hh;rw [List.length_take,List.length_nil] at this;omega
          rw [hx]
          have ht:ptext tot kind bnd (ahAt k) l[k]=ahAt k++[45,45]++bnd++[13,10]++[67,111,110,116,101,110,116,45,84,121,112,101,58,32]++kind++[13,10]++[67,111,110,116,101,110,116,45,82,97,110,103,101,58,32]++contentL l[k].1 l[k].2 tot++[13,10]++[13,10]:=rfl
          rw [ht]
          simpa [partsV] using hown8
         ·have hkl:k=l.length:=by omega
          go_wp2_with (at_builtin;refine wpList_appS (W0:=w2) (n:=2*k) (m:=1) elemPart rfl _ _ rfl rfl rfl (Gr.al hG _).size (HOW.out.al _) (sl_lit _ _ _ 1 (by decide)) rfl (one_part _ _ _) (by omega) (by omega) ?_;intro v8 w8 hown8 happ8)
          go_ret2
          unfold PartsEnd
          rw [HP.out]
          refine ⟨Gr.tr hGw2 (happ8.gr (Gr.al hG _) (HOW.out.al _)),_,rfl,?_⟩
          unfold Parts partsL
          rw [List.length_append,partsB_len,partsV_app]
          have hs:=hown8.sl (by decide)
          rw [show l.take k=l from List.take_of_length_le (by omega),hkl] at hs
          simpa [partsV,endL] using hs
end Go.Proofs.YtflepnkpihfidaaGreatDoor
namespace Go.Proofs.YtflepnkpihfidaaGreatDoor
open Lib (hid)
open Go.RowKit
end Go.Proofs.YtflepnkpihfidaaGreatDoor
