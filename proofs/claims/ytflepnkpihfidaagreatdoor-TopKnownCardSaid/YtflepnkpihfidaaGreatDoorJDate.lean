/- Parts. No conditions but those that each theorem names. -/
import Derived.Test.YtflepnkpihfidaaGreatDoorJBytes
import Derived.OwnWalk
import Derived.Lib.AppendStr
import Derived.Test.YtflepnkpihfidaaGreatDoorJReq
import Derived.Test.YtflepnkpihfidaaGreatDoorJField2
set_option linter.unusedVariables false
set_option linter.unusedSimpArgs false
namespace Go.Proofs.YtflepnkpihfidaaGreatDoor
open Lib (hid)
open Go.RowKit
theorem wpList_mk0 {P:Program} {ops:Array Oper} {rest:List Oper} {o:Oper} {a:Act} {Q:Exit→Act→World→Prop} {W0 w:World} {t e:TypeId} {z:Value} {size bytes:Nat} {kl kc:IntKind} {C:Int} (m:Nat)
  (hE:ElemOk P t e z size bytes) (hgd:o.guard=none) (l c:Operand) (ho:o.op=.makeSlice t l c) (hl:a.eval l=.int kl 0) (hc:a.eval c=.int kc C) (hC:C=(m:Int)) (hb:bytes*m≤281474976710656) (hm:m≤9223372036854775807) (hB:W0.heap.size≤w.heap.size)
  (h:∀w',Own W0 w' e size (.slice (some ⟨w.heap.size,0,none⟩) 0 m) 0 []→Gr w w'→wpList P ops Q rest (a.put o.dst (.slice (some ⟨w.heap.size,0,none⟩) 0 m)) w'):wpList P ops Q (o::rest) a w:=by
 obtain ⟨i,hi,hz0,hz1,hz2⟩:=info_parts hE.hi
 exact wpList_make_own w hgd l c t ho W0.heap.size e i z size hE.ht hi hz0 hz1 kl kc C m hl hc hC (by rw [hz2];exact hb) (by unfold maxLen;omega) hB fun w' h1 h2=>h w' h1 (gr_none h2)
theorem sl_lit (w:World) (t:TypeId) (cs:List Value) (n:Nat) (hn:n≤1000):Sl (w.alloc (.cells cs.toArray t)) (.slice (some ⟨w.heap.size,0,none⟩) n n) n cs:=by
 refine ⟨_,_,rfl,Nat.le_refl _,by omega,.inr ⟨w.heap.size,0,rfl,(Bk.new w t cs.toArray (0,0)).lt,fun j u hu=>?_⟩⟩
 rw [Nat.zero_add,(Bk.new w t cs.toArray (0,0)).cell j];simpa using hu
theorem strCells_byt (l:List UInt8):Lib.strCells ⟨l.toArray⟩=l.map byt:=by
 simp [Lib.strCells]
theorem wpList_appT {ops:Array Oper} {rest:List Oper} {o:Oper} {a:Act} {Q:Exit→Act→World→Prop} {W0 W:World} {v:Value} {n:Nat} {xs:List Value} {s:List UInt8}
  (hgd:o.guard=none) (sl x:Operand) (ho:o.op=.call { callee:=.builtin .append,args:=#[sl,x],argTypes:=#[30,9] })
  (hs:a.eval sl=v) (hx:a.eval x=str s) (hB:W0.heap.size≤W.heap.size) (hown:Own W0 W 5 1 v n xs) (hn:n+s.length≤1000000000)
  (h:∀v' w',Own W0 w' 5 1 v' (n+s.length) (xs++s.map byt)→W.grownBy w' v.ownBlock→wpList Tryz.prog ops Q rest (a.put o.dst v') w'):wpList Tryz.prog ops Q (o::rest) a W:=by
 obtain ⟨i,hi,hz0,hz1,hz2⟩:=info_parts elemByte.hi
 refine Lib.wpList_append_own_string _ hgd sl x 30 9 ho W0.heap.size 5 i Tryz.underlying30 Tryz.underlying9 hi hz0 hz1 hz2 v n xs hs hown ⟨s.toArray⟩ hx ?_ ?_ hB ?_
 ·show n+s.length≤maxLen;unfold maxLen;omega
 ·show n+s.length≤140737488355328;omega
 ·intro v' w' h1 h2 _
  rw [strCells_byt] at h1
  exact h v' w' h1 h2
theorem own_byts {W0 w:World} {v:Value} {l:List UInt8} (h:Own W0 w 5 1 v l.length (l.map byt)):Byts w v l:=h.sl (by decide)
end Go.Proofs.YtflepnkpihfidaaGreatDoor
namespace Go.Proofs.YtflepnkpihfidaaGreatDoor
open Lib (hid)
open Go.RowKit
theorem leapD_any (y:Nat) (w:World) (_h:y≤1000000):Calls Tryz.prog 262 #[.int .i64 y] w fun e w'=>e=.returned (.bool (leapN y))∧w=w':=by
 have HL:=hid (show leapN y=((y % 4==0&&y % 100 != 0)||y % 400==0) from rfl)
 by_cases h4:y % 4=0
 ·have e4:((y:Int) % 4==0)=true:=by simp;omega
  by_cases h1:y % 100=0
  ·have e1:((y:Int) % 100 != 0)=false:=by simp;omega
   by_cases h5:y % 400=0
   ·have e5:((y:Int) % 400==0)=true:=by simp;omega
    have HV:=hid (show leapN y=true from by rw [HL.out];simp [h4,h1,h5])
    clear h4 h1 h5
    go_enter Tryz.func262,Tryz.ntmps262
    go_wp2_with fail
    go_ret
    exact ⟨ret_bool HV.out.symm,rfl⟩
   ·have e5:((y:Int) % 400==0)=false:=by simp;omega
    have HV:=hid (show leapN y=false from by rw [HL.out];simp [h4,h1,h5])
    clear h4 h1 h5
    go_enter Tryz.func262,Tryz.ntmps262
    go_wp2_with fail
    go_ret
    exact ⟨ret_bool HV.out.symm,rfl⟩
  ·have e1:((y:Int) % 100 != 0)=true:=by simp;omega
   have HV:=hid (show leapN y=true from by rw [HL.out];simp [h4,h1])
   clear h4 h1
   go_enter Tryz.func262,Tryz.ntmps262
   go_wp2_with fail
   go_ret
   exact ⟨ret_bool HV.out.symm,rfl⟩
 ·have e4:((y:Int) % 4==0)=false:=by simp;omega
  have e5:((y:Int) % 400==0)=false:=by simp;omega
  have HV:=hid (show leapN y=false from by rw [HL.out];have:¬y % 400=0:=by omega
                                           simp [h4,this])
  clear h4
  go_enter Tryz.func262,Tryz.ntmps262
  go_wp2_with fail
  go_ret
  exact ⟨ret_bool HV.out.symm,rfl⟩
theorem leapR_any (y:Nat) (w:World) (_h:y≤1000000):Calls Tryz.prog 305 #[.int .i64 y] w fun e w'=>e=.returned (.bool (leapN y))∧w=w':=by
 have HL:=hid (show leapN y=((y % 4==0&&y % 100 != 0)||y % 400==0) from rfl)
 by_cases h4:y % 4=0
 ·have e4:((y:Int) % 4==0)=true:=by simp;omega
  by_cases h1:y % 100=0
  ·have e1:((y:Int) % 100 != 0)=false:=by simp;omega
   by_cases h5:y % 400=0
   ·have e5:((y:Int) % 400==0)=true:=by simp;omega
    have HV:=hid (show leapN y=true from by rw [HL.out];simp [h4,h1,h5])
    clear h4 h1 h5
    go_enter Tryz.func305,Tryz.ntmps305
    go_wp2_with fail
    go_ret
    exact ⟨ret_bool HV.out.symm,rfl⟩
   ·have e5:((y:Int) % 400==0)=false:=by simp;omega
    have HV:=hid (show leapN y=false from by rw [HL.out];simp [h4,h1,h5])
    clear h4 h1 h5
    go_enter Tryz.func305,Tryz.ntmps305
    go_wp2_with fail
    go_ret
    exact ⟨ret_bool HV.out.symm,rfl⟩
  ·have e1:((y:Int) % 100 != 0)=true:=by simp;omega
   have HV:=hid (show leapN y=true from by rw [HL.out];simp [h4,h1])
   clear h4 h1
   go_enter Tryz.func305,Tryz.ntmps305
   go_wp2_with fail
   go_ret
   exact ⟨ret_bool HV.out.symm,rfl⟩
 ·have e4:((y:Int) % 4==0)=false:=by simp;omega
  have e5:((y:Int) % 400==0)=false:=by simp;omega
  have HV:=hid (show leapN y=false from by rw [HL.out];have:¬y % 400=0:=by omega
                                           simp [h4,this])
  clear h4
  go_enter Tryz.func305,Tryz.ntmps305
  go_wp2_with fail
  go_ret
  exact ⟨ret_bool HV.out.symm,rfl⟩
theorem longD_any (y m:Nat) (w:World) (_h:y≤1000000):Calls Tryz.prog 222 #[.int .i64 y,.int .i64 m] w fun e w'=>e=.returned (.int .i64 (longN y m:Nat))∧w=w':=by
 rcases (show m=4∨m=6∨m=9∨m=11∨m=2∨(m≠4∧m≠6∧m≠9∧m≠11∧m≠2) by omega) with rfl | rfl | rfl | rfl | rfl | ⟨h4,h6,h9,h11,h2⟩
 ·go_enter Tryz.func222,Tryz.ntmps222
  go_wp2_with fail
  go_ret
  exact ⟨rfl,rfl⟩
 ·go_enter Tryz.func222,Tryz.ntmps222
  go_wp2_with fail
  go_ret
  exact ⟨rfl,rfl⟩
 ·go_enter Tryz.func222,Tryz.ntmps222
  go_wp2_with fail
  go_ret
  exact ⟨rfl,rfl⟩
 ·go_enter Tryz.func222,Tryz.ntmps222
  go_wp2_with fail
  go_ret
  exact ⟨rfl,rfl⟩
 ·have HL:=hid (fun (w:World)=>leapD_any y w _h)
  cases hl:leapN y with
  | true=>
    rw [hl] at HL
    have HV:=hid (show longN y 2=29 from by unfold longN;simp [hl])
    clear hl
    go_enter Tryz.func222,Tryz.ntmps222
    go_wp2_with (go_at_call 262;refine (HL.out _).mono ?_;rintro e w1 ⟨rfl,rfl⟩)
    go_ret
    exact ⟨by rw [HV.out];rfl,rfl⟩
  | false=>
    rw [hl] at HL
    have HV:=hid (show longN y 2=28 from by unfold longN;simp [hl])
    clear hl
    go_enter Tryz.func222,Tryz.ntmps222
    go_wp2_with (go_at_call 262;refine (HL.out _).mono ?_;rintro e w1 ⟨rfl,rfl⟩)
    go_ret
    exact ⟨by rw [HV.out];rfl,rfl⟩
 ·have HV:=hid (show longN y m=31 from by unfold longN;simp [h4,h6,h9,h11,h2])
  have e4:((m:Int)==4)=false:=by simp;omega
  have e6:((m:Int)==6)=false:=by simp;omega
  have e9:((m:Int)==9)=false:=by simp;omega
  have e11:((m:Int)==11)=false:=by simp;omega
  have e2:((m:Int)==2)=false:=by simp;omega
  clear h4 h6 h9 h11 h2
  go_enter Tryz.func222,Tryz.ntmps222
  go_wp2_with fail
  go_ret
  exact ⟨by rw [HV.out];rfl,rfl⟩
theorem daysR_any (y m:Nat) (w:World) (_h:y≤1000000):Calls Tryz.prog 273 #[.int .i64 y,.int .i64 m] w fun e w'=>e=.returned (.int .i64 (longN y m:Nat))∧w=w':=by
 rcases (show m=4∨m=6∨m=9∨m=11∨m=2∨(m≠4∧m≠6∧m≠9∧m≠11∧m≠2) by omega) with rfl | rfl | rfl | rfl | rfl | ⟨h4,h6,h9,h11,h2⟩
 ·go_enter Tryz.func273,Tryz.ntmps273
  go_wp2_with fail
  go_ret
  exact ⟨rfl,rfl⟩
 ·go_enter Tryz.func273,Tryz.ntmps273
  go_wp2_with fail
  go_ret
  exact ⟨rfl,rfl⟩
 ·go_enter Tryz.func273,Tryz.ntmps273
  go_wp2_with fail
  go_ret
  exact ⟨rfl,rfl⟩
 ·go_enter Tryz.func273,Tryz.ntmps273
  go_wp2_with fail
  go_ret
  exact ⟨rfl,rfl⟩
 ·have HL:=hid (fun (w:World)=>leapR_any y w _h)
  cases hl:leapN y with
  | true=>
    rw [hl] at HL
    have HV:=hid (show longN y 2=29 from by unfold longN;simp [hl])
    clear hl
    go_enter Tryz.func273,Tryz.ntmps273
    go_wp2_with (go_at_call 305;refine (HL.out _).mono ?_;rintro e w1 ⟨rfl,rfl⟩)
    go_ret
    exact ⟨by rw [HV.out];rfl,rfl⟩
  | false=>
    rw [hl] at HL
    have HV:=hid (show longN y 2=28 from by unfold longN;simp [hl])
    clear hl
    go_enter Tryz.func273,Tryz.ntmps273
    go_wp2_with (go_at_call 305;refine (HL.out _).mono ?_;rintro e w1 ⟨rfl,rfl⟩)
    go_ret
    exact ⟨by rw [HV.out];rfl,rfl⟩
 ·have HV:=hid (show longN y m=31 from by unfold longN;simp [h4,h6,h9,h11,h2])
  have e4:((m:Int)==4)=false:=by simp;omega
  have e6:((m:Int)==6)=false:=by simp;omega
  have e9:((m:Int)==9)=false:=by simp;omega
  have e11:((m:Int)==11)=false:=by simp;omega
  have e2:((m:Int)==2)=false:=by simp;omega
  clear h4 h6 h9 h11 h2
  go_enter Tryz.func273,Tryz.ntmps273
  go_wp2_with fail
  go_ret
  exact ⟨by rw [HV.out];rfl,rfl⟩
theorem nat_down (y:Nat) (h:y < 9999):(9999-intOf (.int .i64 ((y:Int)+1))).toNat < (9999-intOf (.int .i64 (y:Int))).toNat:=by
 simp only [intOf];omega
theorem leaps_any (y:Nat) (w:World) (_h:y≤1000000):Calls Tryz.prog 263 #[.int .i64 y] w fun e w'=>e=.returned (.int .i64 ((y:Int) / 4-(y:Int) / 100+(y:Int) / 400))∧w=w':=by
 go_enter Tryz.func263,Tryz.ntmps263
 go_wp2_with fail
 go_ret
 exact ⟨rfl,rfl⟩
theorem leaps_69 (w:World):Calls Tryz.prog 263 #[.int .i64 1969] w fun e w'=>e=.returned (.int .i64 477)∧w=w':=by
 go_enter Tryz.func263,Tryz.ntmps263
 go_wp2_with fail
 go_ret
 exact ⟨rfl,rfl⟩
theorem aheadN_int (y:Nat) (h:1970≤y):(aheadN y:Int)=365*((y:Int)-1970)+(((y:Int)-1) / 4-((y:Int)-1) / 100+((y:Int)-1) / 400)-477:=by
 rw [aheadN_eq]
 have g1:(y-1) / 100≤(y-1) / 4:=by omega
 have g2:477≤(y-1) / 4-(y-1) / 100+(y-1) / 400:=by
  have a1:(1969:Nat) / 4≤(y-1) / 4:=Nat.div_le_div_right (by omega)
  have a2:(1969:Nat) / 400≤(y-1) / 400:=Nat.div_le_div_right (by omega)
  have a3:(y-1) / 100*25≤(y-1) / 4:=by rw [Nat.le_div_iff_mul_le (by omega)];omega
  simp at a1 a2;omega
 have e1:((y:Int)-1) / 4=((y-1) / 4:Nat):=by omega
 have e2:((y:Int)-1) / 100=((y-1) / 100:Nat):=by omega
 have e3:((y:Int)-1) / 400=((y-1) / 400:Nat):=by omega
 rw [e1,e2,e3]
 generalize (y-1) / 4=a at *
 generalize (y-1) / 100=b at *
 generalize (y-1) / 400=c at *
 omega
theorem aheadN_hi (y:Nat) (h:1970≤y) (h2:y≤10000):aheadN y≤2932897:=by
 have:=aheadN_mono (10000-y) y h
 rw [show y+(10000-y)=10000 by omega,ahead_100] at this;omega
theorem aheadD_any (y:Nat) (w:World) (h:1970≤y) (h2:y≤10000):Calls Tryz.prog 223 #[.int .i64 y] w fun e w'=>e=.returned (.int .i64 (aheadN y:Nat))∧w=w':=by
 have HV:=hid (aheadN_int y h)
 have H1:=hid (fun (w:World)=>leaps_any (y-1) w (by omega))
 have H2:=hid leaps_69
 rw [show ((y-1:Nat):Int)=(y:Int)-1 by omega] at H1
 go_enter Tryz.func223,Tryz.ntmps223
 go_wp2_with (go_at_call 263;first | ((with_reducible refine (H1.out _).mono ?_);rintro e w1 ⟨rfl,rfl⟩) | ((with_reducible refine (H2.out _).mono ?_);rintro e w1 ⟨rfl,rfl⟩))
 go_ret
 refine ⟨ret_int ?_,rfl⟩
 rw [HV.out]
theorem beforeR_any (y:Nat) (w:World) (h:1970≤y) (h2:y≤10000):Calls Tryz.prog 272 #[.int .i64 y] w fun e w'=>e=.returned (.int .i64 (aheadN y:Nat))∧w=w':=by
 have HV:=hid (aheadN_int y h)
 go_enter Tryz.func272,Tryz.ntmps272
 go_wp2_with fail
 go_ret
 refine ⟨ret_int ?_,rfl⟩
 rw [HV.out]
 omega
end Go.Proofs.YtflepnkpihfidaaGreatDoor
namespace Go.Proofs.YtflepnkpihfidaaGreatDoor
open Lib (hid)
open Go.RowKit
set_option maxHeartbeats 4000000 in
set_option maxRecDepth 100000 in
theorem ofR_any (t:Nat) (w:World) (ht:t≤253402300799):Calls Tryz.prog 230 #[.int .i64 t] w fun e w'=>e=.returned (.tuple #[.agg #[.int .i64 (yrN (t / 86400):Nat),.int .i64 (mnN (t / 86400):Nat),.int .i64 (dyN (t / 86400):Nat),.int .i64 ((t / 86400+4) % 7:Nat)],.int .i64 (t % 86400:Nat)])∧Gr w w':=by
 have hb2:=Bk.new w 304 #[.int .i64 0,.int .i64 0,.int .i64 0,.int .i64 0] (0,0)
 have hG0:=Gr.al (Gr.refl w) (Obj.cells #[.int .i64 0,.int .i64 0,.int .i64 0,.int .i64 0] 304)
 have hn1:t / 86400≤2932896:=by omega
 have hs1:t % 86400 < 86400:=Nat.mod_lt _ (by omega)
 have hq:(t:Int) / 86400=((t / 86400:Nat):Int):=by omega
 have hm:(t:Int) % 86400=((t % 86400:Nat):Int):=by omega
 have HD:=hid (day_is (t / 86400))
 generalize t / 86400=n at *
 generalize t % 86400=s at *
 have hg:(n:Int) / 366=((n / 366:Nat):Int):=by omega
 have hga:=ahead_guess n hn1
 have hgb:n / 366≤8013:=by omega
 generalize n / 366=g at *
 have d1:decide ((t:Int) < 0)=false:=decide_eq_false (by omega)
 have d2:decide (253402300799 < (t:Int))=false:=decide_eq_false (by omega)
 go_enter Tryz.func230,Tryz.ntmps230
 go_upto_region 1 with fail
 have hlt:=hb2.lt
 generalize w.alloc (Obj.cells #[.int .i64 0,.int .i64 0,.int .i64 0,.int .i64 0] 304)=w0 at *
 obtain ⟨g2,hgg⟩:∃g,g=w.heap.size:=⟨_,rfl⟩
 rw [←hgg] at hb2 hlt ⊢
 have hg2:w.heap.size≤g2:=Nat.le_of_eq hgg.symm
 clear hgg
 have HB2:=hid hb2
 clear hb2
 go_upto_region 5 with fail
 clear hg d1 d2 hq
 go_loop [5] (fun yv=>∃y:Nat,1970≤y∧y≤9999∧aheadN y≤n∧yv=.int .i64 y) (fun yv=>(9999-intOf yv).toNat)
 case atStart=>exact ⟨1970+g,by omega,by omega,hga,by go_num⟩
 case round=>
  clear hga hgb
  obtain ⟨y,hy1,hy2,hy3,rfl⟩:=hrel
  have H1:=hid (fun (w:World)=>beforeR_any (y+1) w (by omega) (by omega))
  rw [show ((y+1:Nat):Int)=(y:Int)+1 from by omega] at H1
  have hyb:=aheadN_hi (y+1) (by omega) (by omega)
  by_cases hc:y < 9999∧aheadN (y+1)≤n
  ·obtain ⟨hlt,hd⟩:=hc
   have d1:decide ((y:Int) < 9999)=true:=decide_eq_true (by omega)
   have d2:decide (((aheadN (y+1):Nat):Int)≤(n:Int))=true:=decide_eq_true (by omega)
   go_wp2_with (go_at_call 272;refine (H1.out _).mono ?_;rintro e w1 ⟨rfl,rfl⟩)
   go_round
   case rel=>exact ⟨y+1,by omega,by omega,hd,by go_num⟩
   case measure=>exact nat_down y hlt
  ·have hn2:n < aheadN (y+1):=by
    by_cases e:y=9999
    ·have h1:=ahead_100
     have h2:y+1=10000:=by omega
     rw [h2];omega
    ·omega
   have hsu:=aheadN_succ y hy1
   have H2:=hid (fun (w:World)=>beforeR_any y w (by omega) (by omega))
   have h13:=cumN_13 y
   have HY:=hid hy1
   obtain ⟨R,hR⟩:∃R,R=n-aheadN y:=⟨_,rfl⟩
   have hR2:(n:Int)-((aheadN y:Nat):Int)=(R:Int):=by omega
   have hRb:R < cumN y 13:=by rw [h13];omega
   have HRn:=hid (show aheadN y+R=n from by omega)
   have hRs:R≤366:=by rw [h13] at hRb;split at hRb <;> omega
   clear hR hsu h13 hc
   have d2:decide (((aheadN (y+1):Nat):Int)≤(n:Int))=false:=decide_eq_false (by omega)
   go_upto_region 9 with (go_at_call 272;first | ((with_reducible refine (H1.out _).mono ?_);rintro e w1 ⟨rfl,rfl⟩) | ((with_reducible refine (H2.out _).mono ?_);rintro e w1 ⟨rfl,rfl⟩))
   clear d2 hR2 hyb hn2
   go_loop [6,7] (fun rv mv=>∃m r:Nat,1≤m∧m≤12∧cumN y m+r=R∧rv=.int .i64 r∧mv=.int .i64 m) (fun _ mv=>(13-intOf mv).toNat)
   case atStart=>exact ⟨1,R,by omega,by omega,by rw [cumN_1];omega,rfl,rfl⟩
   case round=>
    obtain ⟨m,r,hm1,hm2,hE,rfl,rfl⟩:=hrel
    have H3:=hid (fun (w:World)=>daysR_any y m w (by omega))
    have hcs:=cumN_succ y m hm1
    have hlo:=longN_lo y m
    have hhi:=longN_hi y m
    by_cases hc:longN y m≤r
    ·have d1:decide (((longN y m:Nat):Int)≤(r:Int))=true:=decide_eq_true (by omega)
     have hm3:m < 12:=by
      rcases Nat.lt_or_ge m 12 with h | h
      ·exact h
      ·have:m=12:=by omega
       subst this
       have h12:cumN y 13=cumN y 12+longN y 12:=cumN_succ y 12 (by omega)
       omega
     have hrb:r≤366:=by omega
     have HE:=hid (show cumN y (m+1)+(r-longN y m)=R from by omega)
     clear hE hcs
     go_wp2_with (go_at_call 273;refine (H3.out _).mono ?_;rintro e w1 ⟨rfl,rfl⟩)
     go_round
     case rel=>exact ⟨m+1,r-longN y m,by omega,by omega,HE.out,by go_num,by go_num⟩
     case measure=>simp [intOf];omega
    ·have d1:decide (((longN y m:Nat):Int)≤(r:Int))=false:=decide_eq_false (by omega)
     have hday:DayOf n y m (r+1):=⟨HY.out,hm1,hm2,by omega,by omega,by have:=HRn.out;omega⟩
     obtain ⟨e1,e2,e3⟩:=hday.eq HD.out
     have E1:=hid e1;have E2:=hid e2;have E3:=hid e3
     clear e1 e2 e3 hday hE hcs
     have hrb:r≤366:=by omega
     have z0:w0.cell? ⟨g2,0,none⟩=some (.int .i64 0):=HB2.out.cell 0
     have z1:w0.cell? ⟨g2,1,none⟩=some (.int .i64 0):=HB2.out.cell 1
     have z2:w0.cell? ⟨g2,2,none⟩=some (.int .i64 0):=HB2.out.cell 2
     have z3:w0.cell? ⟨g2,3,none⟩=some (.int .i64 0):=HB2.out.cell 3
     have y0:=HB2.out.free 0 (.inr (Nat.zero_le _))
     have y1:=HB2.out.free 1 (.inr (Nat.zero_le _))
     have y2:=HB2.out.free 2 (.inr (Nat.zero_le _))
     have y3:=HB2.out.free 3 (.inr (Nat.zero_le _))
     go_wp2_with (go_at_call 273;refine (H3.out _).mono ?_;rintro e w1 ⟨rfl,rfl⟩)
     refine bodyPost_ret (v:=.tuple #[.agg #[.int .i64 y,.int .i64 m,.int .i64 ((r:Int)+1),.int .i64 (((n:Int)+4) % 7)],.int .i64 s]) (by simp [results,Tryz.results230,go_sem,z0,z1,z2,z3,hm]) rfl ⟨?_,Gr.st (Gr.st (Gr.st (Gr.st hG0 hg2 _) hg2 _) hg2 _) hg2 _⟩
     rw [←E1.out,←E2.out,←E3.out]
     have h7:((n:Int)+4) % 7=(((n+4) % 7:Nat):Int):=by omega
     rw [h7]
     rfl
set_option maxHeartbeats 4000000 in
set_option maxRecDepth 100000 in
theorem ofD_any (t:Nat) (w:World) (ht:t≤253402300799):Calls Tryz.prog 196 #[.int .i64 t] w fun e w'=>e=.returned (.tuple #[.agg #[.int .i64 (yrN (t / 86400):Nat),.int .i64 (mnN (t / 86400):Nat),.int .i64 (dyN (t / 86400):Nat),.int .i64 ((t / 86400+4) % 7:Nat)],.int .i64 (t % 86400:Nat)])∧Gr w w':=by
 have hb2:=Bk.new w 229 #[.int .i64 0,.int .i64 0,.int .i64 0,.int .i64 0] (0,0)
 have hG0:=Gr.al (Gr.refl w) (Obj.cells #[.int .i64 0,.int .i64 0,.int .i64 0,.int .i64 0] 229)
 have hn1:t / 86400≤2932896:=by omega
 have hs1:t % 86400 < 86400:=Nat.mod_lt _ (by omega)
 have hq:(t:Int) / 86400=((t / 86400:Nat):Int):=by omega
 have hm:(t:Int) % 86400=((t % 86400:Nat):Int):=by omega
 have HD:=hid (day_is (t / 86400))
 generalize t / 86400=n at *
 generalize t % 86400=s at *
 have hg:(n:Int) / 366=((n / 366:Nat):Int):=by omega
 have hga:=ahead_guess n hn1
 have hgb:n / 366≤8013:=by omega
 generalize n / 366=g at *
 have d1:decide ((t:Int) < 0)=false:=decide_eq_false (by omega)
 have d2:decide (253402300799 < (t:Int))=false:=decide_eq_false (by omega)
 go_enter Tryz.func196,Tryz.ntmps196
 go_upto_region 1 with fail
 have hlt:=hb2.lt
 generalize w.alloc (Obj.cells #[.int .i64 0,.int .i64 0,.int .i64 0,.int .i64 0] 229)=w0 at *
 obtain ⟨g2,hgg⟩:∃g,g=w.heap.size:=⟨_,rfl⟩
 rw [←hgg] at hb2 hlt ⊢
 have hg2:w.heap.size≤g2:=Nat.le_of_eq hgg.symm
 clear hgg
 have HB2:=hid hb2
 clear hb2
 go_upto_region 5 with fail
 clear hg d1 d2 hq
 go_loop [5] (fun yv=>∃y:Nat,1970≤y∧y≤9999∧aheadN y≤n∧yv=.int .i64 y) (fun yv=>(9999-intOf yv).toNat)
 case atStart=>exact ⟨1970+g,by omega,by omega,hga,by go_num⟩
 case round=>
  clear hga hgb
  obtain ⟨y,hy1,hy2,hy3,rfl⟩:=hrel
  have H1:=hid (fun (w:World)=>aheadD_any (y+1) w (by omega) (by omega))
  rw [show ((y+1:Nat):Int)=(y:Int)+1 from by omega] at H1
  have hyb:=aheadN_hi (y+1) (by omega) (by omega)
  by_cases hc:y < 9999∧aheadN (y+1)≤n
  ·obtain ⟨hlt,hd⟩:=hc
   have d1:decide ((y:Int) < 9999)=true:=decide_eq_true (by omega)
   have d2:decide (((aheadN (y+1):Nat):Int)≤(n:Int))=true:=decide_eq_true (by omega)
   go_wp2_with (go_at_call 223;refine (H1.out _).mono ?_;rintro e w1 ⟨rfl,rfl⟩)
   go_round
   case rel=>exact ⟨y+1,by omega,by omega,hd,by go_num⟩
   case measure=>exact nat_down y hlt
  ·have hn2:n < aheadN (y+1):=by
    by_cases e:y=9999
    ·have h1:=ahead_100
     have h2:y+1=10000:=by omega
     rw [h2];omega
    ·omega
   have hsu:=aheadN_succ y hy1
   have H2:=hid (fun (w:World)=>aheadD_any y w (by omega) (by omega))
   have h13:=cumN_13 y
   have HY:=hid hy1
   obtain ⟨R,hR⟩:∃R,R=n-aheadN y:=⟨_,rfl⟩
   have hR2:(n:Int)-((aheadN y:Nat):Int)=(R:Int):=by omega
   have hRb:R < cumN y 13:=by rw [h13];omega
   have HRn:=hid (show aheadN y+R=n from by omega)
   have hRs:R≤366:=by rw [h13] at hRb;split at hRb <;> omega
   clear hR hsu h13 hc
   have d2:decide (((aheadN (y+1):Nat):Int)≤(n:Int))=false:=decide_eq_false (by omega)
   rcases (show decide ((y:Int) < 9999)=true∨decide ((y:Int) < 9999)=false from by cases decide ((y:Int) < 9999) <;> simp) with d9 | d9
   all_goals
    go_upto_region 9 with (go_at_call 223;first | ((with_reducible refine (H1.out _).mono ?_);rintro e w1 ⟨rfl,rfl⟩) | ((with_reducible refine (H2.out _).mono ?_);rintro e w1 ⟨rfl,rfl⟩))
    clear d2 hR2 hyb hn2
    go_loop [6,7] (fun rv mv=>∃m r:Nat,1≤m∧m≤12∧cumN y m+r=R∧rv=.int .i64 r∧mv=.int .i64 m) (fun _ mv=>(13-intOf mv).toNat)
    case atStart=>exact ⟨1,R,by omega,by omega,by rw [cumN_1];omega,rfl,rfl⟩
    case round=>
     obtain ⟨m,r,hm1,hm2,hE,rfl,rfl⟩:=hrel
     have H3:=hid (fun (w:World)=>longD_any y m w (by omega))
     have hcs:=cumN_succ y m hm1
     have hlo:=longN_lo y m
     have hhi:=longN_hi y m
     by_cases hc:longN y m≤r
     ·have d1:decide (((longN y m:Nat):Int)≤(r:Int))=true:=decide_eq_true (by omega)
      have hm3:m < 12:=by
       rcases Nat.lt_or_ge m 12 with h | h
       ·exact h
       ·have:m=12:=by omega
        subst this
        have h12:cumN y 13=cumN y 12+longN y 12:=cumN_succ y 12 (by omega)
        omega
      have hrb:r≤366:=by omega
      have HE:=hid (show cumN y (m+1)+(r-longN y m)=R from by omega)
      clear hE hcs
      go_wp2_with (go_at_call 222;refine (H3.out _).mono ?_;rintro e w1 ⟨rfl,rfl⟩)
      go_round
      case rel=>exact ⟨m+1,r-longN y m,by omega,by omega,HE.out,by go_num,by go_num⟩
      case measure=>simp [intOf];omega
     ·have d1:decide (((longN y m:Nat):Int)≤(r:Int))=false:=decide_eq_false (by omega)
      have hday:DayOf n y m (r+1):=⟨HY.out,hm1,hm2,by omega,by omega,by have:=HRn.out;omega⟩
      obtain ⟨e1,e2,e3⟩:=hday.eq HD.out
      have E1:=hid e1;have E2:=hid e2;have E3:=hid e3
      clear e1 e2 e3 hday hE hcs
      have hrb:r≤366:=by omega
      have z0:w0.cell? ⟨g2,0,none⟩=some (.int .i64 0):=HB2.out.cell 0
      have z1:w0.cell? ⟨g2,1,none⟩=some (.int .i64 0):=HB2.out.cell 1
      have z2:w0.cell? ⟨g2,2,none⟩=some (.int .i64 0):=HB2.out.cell 2
      have z3:w0.cell? ⟨g2,3,none⟩=some (.int .i64 0):=HB2.out.cell 3
      have y0:=HB2.out.free 0 (.inr (Nat.zero_le _))
      have y1:=HB2.out.free 1 (.inr (Nat.zero_le _))
      have y2:=HB2.out.free 2 (.inr (Nat.zero_le _))
      have y3:=HB2.out.free 3 (.inr (Nat.zero_le _))
      go_wp2_with (go_at_call 222;refine (H3.out _).mono ?_;rintro e w1 ⟨rfl,rfl⟩)
      refine bodyPost_ret (v:=.tuple #[.agg #[.int .i64 y,.int .i64 m,.int .i64 ((r:Int)+1),.int .i64 (((n:Int)+4) % 7)],.int .i64 s]) (by simp [results,Tryz.results196,go_sem,z0,z1,z2,z3,hm]) rfl ⟨?_,Gr.st (Gr.st (Gr.st (Gr.st hG0 hg2 _) hg2 _) hg2 _) hg2 _⟩
      rw [←E1.out,←E2.out,←E3.out]
      have h7:((n:Int)+4) % 7=(((n+4) % 7:Nat):Int):=by omega
      rw [h7]
      rfl
end Go.Proofs.YtflepnkpihfidaaGreatDoor
namespace Go.Proofs.YtflepnkpihfidaaGreatDoor
open Lib (hid)
open Go.RowKit
def tkV:Option Nat→Value
 | some t=>.tuple #[.int .i64 t,.int .i64 0]
 | none=>.tuple #[.int .i64 0,.int .i64 1]
theorem tickN_no {y m d s:Int} (h:¬(1970≤y∧y≤9999∧1≤m∧m≤12∧1≤d∧d≤longN y.toNat m.toNat∧0≤s∧s < 86400)):tickN y m d s=none:=by unfold tickN;rw [if_neg h]
theorem tickN_yes {Y M:Nat} {d s:Int} (h1:1970≤Y) (h2:Y≤9999) (h3:1≤M) (h4:M≤12) (h5:1≤d) (h6:d≤longN Y M) (h7:0≤s) (h8:s < 86400):tickN Y M d s=some ((aheadN Y+cumN Y M+d.toNat-1)*86400+s.toNat):=by
 unfold tickN
 rw [if_pos (by simp only [Int.toNat_natCast];omega)]
 simp only [Int.toNat_natCast]
theorem box4 (w:World) (a b c d:Value) (t:TypeId):Gr w (w.alloc (Obj.cells #[a,b,c,d] t))∧(w.alloc (Obj.cells #[a,b,c,d] t)).cell? ⟨w.heap.size,0,none⟩=some a∧(w.alloc (Obj.cells #[a,b,c,d] t)).cell? ⟨w.heap.size,1,none⟩=some b∧(w.alloc (Obj.cells #[a,b,c,d] t)).cell? ⟨w.heap.size,2,none⟩=some c∧(w.alloc (Obj.cells #[a,b,c,d] t)).cell? ⟨w.heap.size,3,none⟩=some d:=
 ⟨Gr.al (Gr.refl w) _,by simp,by simp,by simp,by simp⟩
theorem of_same {P:Program} {f:FuncId} {args:Array Value} {w:World} {v:Value} (h:Calls P f args w fun e w'=>e=.returned v∧w=w'):Calls P f args w fun e w'=>e=.returned v∧Gr w w':=
 h.mono fun _ _ ⟨h1,h2⟩=>⟨h1,by rw [←h2];exact Gr.refl _⟩
theorem cumN_le (y j:Nat) (h1:1≤j) (h2:j≤13):cumN y j≤366:=by
 have:=cumN_mono y (13-j) j h1
 rw [show j+(13-j)=13 by omega,cumN_13] at this
 split at this <;> omega
set_option maxHeartbeats 8000000 in
set_option maxRecDepth 100000 in
theorem tickD_any (y m d k s:Int) (w:World) (_hy:-1000000000≤y∧y≤1000000000) (_hm:-1000000000≤m∧m≤1000000000) (_hd:-1000000000≤d∧d≤1000000000) (_hs:-1000000000≤s∧s≤1000000000) :
  Calls Tryz.prog 154 #[.agg #[.int .i64 y,.int .i64 m,.int .i64 d,.int .i64 k],.int .i64 s] w fun e w'=>e=.returned (tkV (tickN y m d s))∧Gr w w':=by
 obtain ⟨hG0,c0,c1,c2,c3⟩:=box4 w (.int .i64 y) (.int .i64 m) (.int .i64 d) (.int .i64 k) 229
 go_enter Tryz.func154,Tryz.ntmps154
 go_upto_region 1 with fail
 generalize w.alloc (Obj.cells #[.int .i64 y,.int .i64 m,.int .i64 d,.int .i64 k] 229)=w0 at *
 generalize w.heap.size=g at *
 by_cases h:1970≤y∧y≤9999∧1≤m∧m≤12
 ·obtain ⟨h1,h2,h3,h4⟩:=h
  have d1:decide (y < 1970)=false:=decide_eq_false (by omega)
  have d2:decide (9999 < y)=false:=decide_eq_false (by omega)
  have d3:decide (m < 1)=false:=decide_eq_false (by omega)
  have d4:decide (12 < m)=false:=decide_eq_false (by omega)
  obtain ⟨Y,rfl⟩:∃Y:Nat,y=Y:=⟨y.toNat,by omega⟩
  obtain ⟨M,rfl⟩:∃M:Nat,m=M:=⟨m.toNat,by omega⟩
  have HL:=hid (fun (w:World)=>of_same (longD_any Y M w (by omega)))
  have hhi:=longN_hi Y M
  go_upto_region 3 with fail
  clear d1 d2 d3 d4
  have gc0:=fun i=>(gw_gr w0 i).cell c0
  have gc1:=fun i=>(gw_gr w0 i).cell c1
  have gc2:=fun i=>(gw_gr w0 i).cell c2
  by_cases hok:1≤d∧d≤longN Y M∧0≤s∧s < 86400
  ·obtain ⟨h5,h6,h7,h8⟩:=hok
   have d5:decide (d < 1)=false:=decide_eq_false (by omega)
   have d6:decide (((longN Y M:Nat):Int) < d)=false:=decide_eq_false (by omega)
   have d7:decide (s < 0)=false:=decide_eq_false (by omega)
   have d8:decide (86400≤s)=false:=decide_eq_false (by omega)
   have h1:1970≤Y:=by omega
   have h2:Y≤9999:=by omega
   have h3:1≤M:=by omega
   have h4:M≤12:=by omega
   have hah:=aheadN_hi Y h1 (by omega)
   have HV:=hid (show tkV (tickN (Y:Int) (M:Int) d s)=.tuple #[.int .i64 (((aheadN Y+cumN Y M+d.toNat-1)*86400+s.toNat:Nat):Int),.int .i64 0] from by rw [tickN_yes h1 h2 h3 h4 h5 h6 h7 h8];rfl)
   have HA:=hid (fun (w:World)=>aheadD_any Y w h1 (by omega))
   refine wp_region_gw (by kernel_rfl) (by kernel_rfl) ?_
   repeat (first | go_big_quiet_step ((go_at_call 222;exact gw_call (HL.out _))) | quiet_step ((go_at_call 222;exact gw_call (HL.out _))))
   refine wpQuiet_nil ?_;intro wq hwq;obtain ⟨iq,rfl⟩:=hwq
   have hGq:=gw_gr w0 iq
   have hGW:=Gr.tr hG0 hGq
   have c0:=hGq.cell c0;have c1:=hGq.cell c1;have c2:=hGq.cell c2
   generalize gw w0 iq=wx at *
   clear gc0 gc1 gc2 hGq d5 d6 d7 d8
   generalize aheadN Y=a at *
   go_upto_region 7 with (go_at_call 223;refine (HA.out _).mono ?_;rintro e w5 ⟨rfl,rfl⟩)
   go_loop [6,7] (fun nv mv=>∃j:Nat,1≤j∧j≤M∧nv=.int .i64 ((a:Int)+((cumN Y j:Nat):Int))∧mv=.int .i64 j) (fun _ mv=>(13-intOf mv).toNat)
   case atStart=>exact ⟨1,Nat.le_refl _,h3,by rw [cumN_1];go_num,rfl⟩
   case round=>
    obtain ⟨j,hj1,hj2,rfl,rfl⟩:=hrel
    have HLj:=hid (fun (w:World)=>longD_any Y j w (by omega))
    have hcs:=cumN_succ Y j hj1
    have hlo:=longN_lo Y j
    have hhi:=longN_hi Y j
    have hcb:=cumN_le Y j hj1 (by omega)
    by_cases hlt:j < M
    ·have d1:decide ((j:Int) < (M:Int))=true:=decide_eq_true (by omega)
     go_wp2_with (go_at_call 222;refine (HLj.out _).mono ?_;rintro e w5 ⟨rfl,rfl⟩)
     go_round
     case rel=>exact ⟨j+1,by omega,by omega,by rw [hcs];go_num,by go_num⟩
     case measure=>simp [intOf];omega
    ·have hjM:j=M:=by omega
     subst hjM
     have d1:decide ((j:Int) < (j:Int))=false:=decide_eq_false (by omega)
     clear hcs
     generalize cumN Y j=cm at *
     go_wp2_with fail
     go_ret2
     refine ⟨?_,hGW⟩
     rw [HV.out]
     refine congrArg Ending.returned ?_
     show Value.tuple #[.int .i64 _,.int .i64 0]=Value.tuple #[.int .i64 _,.int .i64 0]
     congr 4
     omega
  ·have HV:=hid (show tkV (tickN (Y:Int) (M:Int) d s)=.tuple #[.int .i64 0,.int .i64 1] from by
    rw [tickN_no (fun hc=>hok ⟨hc.2.2.2.2.1,by simpa using hc.2.2.2.2.2.1,hc.2.2.2.2.2.2.1,hc.2.2.2.2.2.2.2⟩)];rfl)
   rcases (show d < 1∨(1≤d∧(longN Y M:Int) < d)∨(1≤d∧d≤longN Y M∧s < 0)∨(1≤d∧d≤longN Y M∧0≤s∧86400≤s) by omega) with g1 | ⟨g1,g2⟩ | ⟨g1,g2,g3⟩ | ⟨g1,g2,g3,g4⟩
   ·have d5:decide (d < 1)=true:=decide_eq_true (by omega)
    clear hok
    refine wp_region_gw (by kernel_rfl) (by kernel_rfl) ?_
    repeat (first | go_big_quiet_step ((go_at_call 222;exact gw_call (HL.out _))) | quiet_step ((go_at_call 222;exact gw_call (HL.out _))))
    refine wpQuiet_nil ?_;intro wq hwq;obtain ⟨iq,rfl⟩:=hwq
    have hGq:=gw_gr w0 iq
    generalize gw w0 iq=wx at *
    go_wp2_with fail
    go_ret2
    exact ⟨by rw [HV.out];rfl,Gr.tr hG0 hGq⟩
   ·have d5:decide (d < 1)=false:=decide_eq_false (by omega)
    have d6:decide (((longN Y M:Nat):Int) < d)=true:=decide_eq_true (by omega)
    clear hok
    refine wp_region_gw (by kernel_rfl) (by kernel_rfl) ?_
    repeat (first | go_big_quiet_step ((go_at_call 222;exact gw_call (HL.out _))) | quiet_step ((go_at_call 222;exact gw_call (HL.out _))))
    refine wpQuiet_nil ?_;intro wq hwq;obtain ⟨iq,rfl⟩:=hwq
    have hGq:=gw_gr w0 iq
    generalize gw w0 iq=wx at *
    go_wp2_with fail
    go_ret2
    exact ⟨by rw [HV.out];rfl,Gr.tr hG0 hGq⟩
   ·have d5:decide (d < 1)=false:=decide_eq_false (by omega)
    have d6:decide (((longN Y M:Nat):Int) < d)=false:=decide_eq_false (by omega)
    have d7:decide (s < 0)=true:=decide_eq_true (by omega)
    clear hok
    refine wp_region_gw (by kernel_rfl) (by kernel_rfl) ?_
    repeat (first | go_big_quiet_step ((go_at_call 222;exact gw_call (HL.out _))) | quiet_step ((go_at_call 222;exact gw_call (HL.out _))))
    refine wpQuiet_nil ?_;intro wq hwq;obtain ⟨iq,rfl⟩:=hwq
    have hGq:=gw_gr w0 iq
    generalize gw w0 iq=wx at *
    go_wp2_with fail
    go_ret2
    exact ⟨by rw [HV.out];rfl,Gr.tr hG0 hGq⟩
   ·have d5:decide (d < 1)=false:=decide_eq_false (by omega)
    have d6:decide (((longN Y M:Nat):Int) < d)=false:=decide_eq_false (by omega)
    have d7:decide (s < 0)=false:=decide_eq_false (by omega)
    have d8:decide (86400≤s)=true:=decide_eq_true (by omega)
    clear hok
    refine wp_region_gw (by kernel_rfl) (by kernel_rfl) ?_
    repeat (first | go_big_quiet_step ((go_at_call 222;exact gw_call (HL.out _))) | quiet_step ((go_at_call 222;exact gw_call (HL.out _))))
    refine wpQuiet_nil ?_;intro wq hwq;obtain ⟨iq,rfl⟩:=hwq
    have hGq:=gw_gr w0 iq
    generalize gw w0 iq=wx at *
    go_wp2_with fail
    go_ret2
    exact ⟨by rw [HV.out];rfl,Gr.tr hG0 hGq⟩
 ·have HV:=hid (show tkV (tickN y m d s)=.tuple #[.int .i64 0,.int .i64 1] from by rw [tickN_no (fun hc=>h ⟨hc.1,hc.2.1,hc.2.2.1,hc.2.2.2.1⟩)];rfl)
  rcases (show y < 1970∨(1970≤y∧9999 < y)∨(1970≤y∧y≤9999∧m < 1)∨(1970≤y∧y≤9999∧1≤m∧12 < m) by omega) with h1 | ⟨h1,h2⟩ | ⟨h1,h2,h3⟩ | ⟨h1,h2,h3,h4⟩
  ·have d1:decide (y < 1970)=true:=decide_eq_true (by omega)
   clear h
   go_wp2_with fail
   go_ret2
   exact ⟨by rw [HV.out];rfl,hG0⟩
  ·have d1:decide (y < 1970)=false:=decide_eq_false (by omega)
   have d2:decide (9999 < y)=true:=decide_eq_true (by omega)
   clear h
   go_wp2_with fail
   go_ret2
   exact ⟨by rw [HV.out];rfl,hG0⟩
  ·have d1:decide (y < 1970)=false:=decide_eq_false (by omega)
   have d2:decide (9999 < y)=false:=decide_eq_false (by omega)
   have d3:decide (m < 1)=true:=decide_eq_true (by omega)
   clear h
   go_wp2_with fail
   go_ret2
   exact ⟨by rw [HV.out];rfl,hG0⟩
  ·have d1:decide (y < 1970)=false:=decide_eq_false (by omega)
   have d2:decide (9999 < y)=false:=decide_eq_false (by omega)
   have d3:decide (m < 1)=false:=decide_eq_false (by omega)
   have d4:decide (12 < m)=true:=decide_eq_true (by omega)
   clear h
   go_wp2_with fail
   go_ret2
   exact ⟨by rw [HV.out];rfl,hG0⟩
end Go.Proofs.YtflepnkpihfidaaGreatDoor
namespace Go.Proofs.YtflepnkpihfidaaGreatDoor
open Lib (hid)
open Go.RowKit
theorem twoR_any (n:Nat) (w:World) (h:n≤1000000):Calls Tryz.prog 232 #[.int .i64 n] w fun e w'=>e=.returned (str (two n))∧Gr w w':=by
 have h1:48+(n:Int) / 10 % 10=((dig1 (n / 10)).toNat:Int):=by rw [dig1_val];omega
 have h2:48+(n:Int) % 10=((dig1 n).toNat:Int):=by rw [dig1_val];omega
 have b1:(dig1 (n / 10)).toNat≤255:=by have:=(dig1 (n / 10)).toNat_lt;omega
 have b2:(dig1 n).toNat≤255:=by have:=(dig1 n).toNat_lt;omega
 have HT:=hid (show two n=[dig1 (n / 10),dig1 n] from rfl)
 generalize dig1 (n / 10)=a at *
 generalize dig1 n=b at *
 have HS:=hid (show Byts (w.alloc (.cells #[byt a,byt b] 5)) (.slice (some ⟨w.heap.size,0,none⟩) 2 2) [a,b] from sl_lit w _ [byt a,byt b] 2 (by decide))
 go_enter Tryz.func232,Tryz.ntmps232
 go_wp2_with (refine wpList_toStr _ rfl rfl rfl HS.out ?_)
 go_ret
 exact ⟨by rw [HT.out];rfl,Gr.al (Gr.refl w) _⟩
theorem weeksR_any (w:World):Calls Tryz.prog 231 #[] w fun e w'=>e=.returned (str weekN)∧w=w':=by
 go_enter Tryz.func231,Tryz.ntmps231
 go_wp2_with fail
 go_ret
 exact ⟨rfl,rfl⟩
theorem monthsR_any (w:World):Calls Tryz.prog 233 #[] w fun e w'=>e=.returned (str yearN)∧w=w':=by
 go_enter Tryz.func233,Tryz.ntmps233
 go_wp2_with fail
 go_ret
 exact ⟨rfl,rfl⟩
theorem two_four (Y:Nat):two (Y / 100)++two (Y % 100)=four Y:=by
 have e1:dig1 (Y / 100 / 10)=dig1 (Y / 1000):=by unfold dig1;congr 2;omega
 have e2:dig1 (Y % 100 / 10)=dig1 (Y / 10):=by unfold dig1;congr 2;omega
 have e3:dig1 (Y % 100)=dig1 Y:=by unfold dig1;congr 2;omega
 unfold two four
 rw [e1,e2,e3];rfl
theorem weekN_len:weekN.length=21:=rfl
theorem yearN_len:yearN.length=36:=rfl
set_option maxHeartbeats 4000000 in
set_option maxRecDepth 100000 in
theorem textR_in (t:Nat) (w:World) (ht:t≤253402300799):Calls Tryz.prog 167 #[.int .i64 t] w fun e w'=>e=.returned (.tuple #[str (dateT t),.int .i64 0])∧Gr w w':=by
 have HO:=hid (fun (w:World)=>ofR_any t w ht)
 have HD:=hid (dateT_eq t)
 have d1:decide ((t:Int) < 0)=false:=decide_eq_false (by omega)
 have d2:decide (253402300799 < (t:Int))=false:=decide_eq_false (by omega)
 have hday:=day_is (t / 86400)
 have hY:=day_year hday (by omega)
 have hM1:=hday.m1;have hM2:=hday.m12;have hD:=hday.dl;have hDl:=longN_hi (yrN (t / 86400)) (mnN (t / 86400))
 have hW:(t / 86400+4) % 7 < 7:=Nat.mod_lt _ (by omega)
 have hs:t % 86400 < 86400:=Nat.mod_lt _ (by omega)
 have hD2:dyN (t / 86400)≤31:=by omega
 clear hday hD hDl
 generalize (t / 86400+4) % 7=W at *
 generalize yrN (t / 86400)=Y at *
 generalize mnN (t / 86400)=M at *
 generalize dyN (t / 86400)=D at *
 generalize t % 86400=s at *
 go_enter Tryz.func167,Tryz.ntmps167
 go_upto_region 4 with (go_at_call 230;refine (HO.out _).mono ?_;rintro e w1 ⟨rfl,hG1⟩)
 obtain ⟨hGb,c0,c1,c2,c3⟩:=box4 w1 (.int .i64 Y) (.int .i64 M) (.int .i64 D) (.int .i64 W) 304
 have hG2:=Gr.tr hG1 hGb
 generalize w1.alloc (Obj.cells #[.int .i64 (Y:Int),.int .i64 (M:Int),.int .i64 (D:Int),.int .i64 (W:Int)] 304)=w2 at *
 generalize w1.heap.size=g at *
 clear hG1 hGb d1 d2
 have gc0:=fun i=>(gw_gr w2 i).cell c0
 have gc1:=fun i=>(gw_gr w2 i).cell c1
 have gc2:=fun i=>(gw_gr w2 i).cell c2
 have gc3:=fun i=>(gw_gr w2 i).cell c3
 have HWk:=hid (fun (w:World)=>of_same (weeksR_any w))
 have HMo:=hid (fun (w:World)=>of_same (monthsR_any w))
 have HT1:=hid (fun (w:World)=>twoR_any D w (by omega))
 have HT2:=hid (fun (w:World)=>twoR_any (Y / 100) w (by omega))
 have HT3:=hid (fun (w:World)=>twoR_any (Y % 100) w (by omega))
 rw [show ((Y / 100:Nat):Int)=(Y:Int) / 100 from by omega] at HT2
 rw [show ((Y % 100:Nat):Int)=(Y:Int) % 100 from by omega] at HT3
 have wl:=weekN_len
 have yl:=yearN_len
 have tl1:(two D).length=2:=rfl
 have tl2:(two (Y / 100)).length=2:=rfl
 have tl3:(two (Y % 100)).length=2:=rfl
 have hA:(wkN W++[44,32]++two D++[32]++moN M++[32]++four Y).length=16:=by
  obtain ⟨a,b,c,e⟩:=wk_form W hW
  obtain ⟨a',b',c',e'⟩:=mo_form M hM1 hM2
  rw [e,e'];rfl
 have HAE:=hid (show dateT t=(wkN W++[44,32]++two D++[32]++moN M++[32]++four Y)++([32]++(two (s / 3600)++([58]++(two (s / 60 % 60)++([58]++(two (s % 60)++[32,71,77,84])))))) from by rw [HD.out];unfold dayT;simp only [List.append_assoc])
 obtain ⟨A,hAd⟩:∃A,A=wkN W++[44,32]++two D++[32]++moN M++[32]++four Y:=⟨_,rfl⟩
 rw [←hAd] at hA HAE
 have HAD:=hid hAd
 clear hAd
 go_cut [6] (fun s6 wx=>s6=str A∧Gr w2 wx)
 case first=>
  have HE:∀B:List UInt8,B=wkN W++[44,32]++two D++[32]++moN M++[32]++(two (Y / 100)++two (Y % 100))→str B=str A:=fun B h=>by rw [h,HAD.out,two_four]
  have HE:=hid HE
  clear hA HAE HAD
  refine wp_region_gw (by kernel_rfl) (by kernel_rfl) ?_
  repeat (first | go_big_quiet_step ((first | (go_at_call 231;exact gw_call (HWk.out _)) | (go_at_call 233;exact gw_call (HMo.out _)) | (go_at_call 232;first | (with_reducible exact gw_call (HT1.out _)) | (with_reducible exact gw_call (HT2.out _)) | (with_reducible exact gw_call (HT3.out _))))) | quiet_step ((first | (go_at_call 231;exact gw_call (HWk.out _)) | (go_at_call 233;exact gw_call (HMo.out _)) | (go_at_call 232;first | (with_reducible exact gw_call (HT1.out _)) | (with_reducible exact gw_call (HT2.out _)) | (with_reducible exact gw_call (HT3.out _))))))
  refine wpQuiet_nil ?_;intro wq hwq;obtain ⟨iq,rfl⟩:=hwq
  go_wp2_with fail
  go_meet
  refine ⟨HE.out _ ?_,gw_gr w2 iq⟩
  unfold wkN moN
  rw [show 3*M-(3*M-3)=3 by omega]
  simp
 case rest=>
  obtain ⟨rfl,hGc⟩:=hcut
  have HT4:=hid (fun (w:World)=>twoR_any (s / 3600) w (by omega))
  have HT5:=hid (fun (w:World)=>twoR_any (s / 60 % 60) w (by omega))
  have HT6:=hid (fun (w:World)=>twoR_any (s % 60) w (by omega))
  have tl4:(two (s / 3600)).length=2:=rfl
  have tl5:(two (s / 60 % 60)).length=2:=rfl
  have tl6:(two (s % 60)).length=2:=rfl
  rw [show ((s / 3600:Nat):Int)=(s:Int) / 3600 from by omega] at HT4
  rw [show ((s / 60 % 60:Nat):Int)=(s:Int) / 60 % 60 from by omega] at HT5
  rw [show ((s % 60:Nat):Int)=(s:Int) % 60 from by omega] at HT6
  generalize two (s / 3600)=A4 at *
  generalize two (s / 60 % 60)=A5 at *
  generalize two (s % 60)=A6 at *
  clear HWk HMo HT1 HT2 HT3 wl yl tl1 tl2 tl3 gc0 gc1 gc2 gc3 c0 c1 c2 c3 HAD
  go_wp2_with (go_at_call 232;first | ((with_reducible refine (HT4.out _).mono ?_);rintro e w3 ⟨rfl,hG3⟩) | ((with_reducible refine (HT5.out _).mono ?_);rintro e w4 ⟨rfl,hG4⟩) | ((with_reducible refine (HT6.out _).mono ?_);rintro e w5 ⟨rfl,hG5⟩))
  go_ret2
  refine ⟨?_,Gr.tr hG2 (Gr.tr hGc (Gr.tr hG3 (Gr.tr hG4 hG5)))⟩
  rw [HAE.out]
  refine congrArg (fun b=>Ending.returned (.tuple #[.string b,.int .i64 0])) ?_
  apply ByteArray.ext
  simp
theorem textR_out (t:Int) (w:World) (ht:¬(0≤t∧t≤253402300799)):Calls Tryz.prog 167 #[.int .i64 t] w fun e w'=>e=.returned (.tuple #[str [],.int .i64 1])∧Gr w w':=by
 rcases (show t < 0∨(0≤t∧253402300799 < t) by omega) with h | ⟨h,h2⟩
 ·have d1:decide (t < 0)=true:=decide_eq_true h
  clear ht
  go_enter Tryz.func167,Tryz.ntmps167
  go_wp2_with fail
  go_ret2
  exact ⟨rfl,Gr.refl _⟩
 ·have d1:decide (t < 0)=false:=decide_eq_false (by omega)
  have d2:decide (253402300799 < t)=true:=decide_eq_true h2
  clear ht
  go_enter Tryz.func167,Tryz.ntmps167
  go_wp2_with fail
  go_ret2
  exact ⟨rfl,Gr.refl _⟩
end Go.Proofs.YtflepnkpihfidaaGreatDoor
