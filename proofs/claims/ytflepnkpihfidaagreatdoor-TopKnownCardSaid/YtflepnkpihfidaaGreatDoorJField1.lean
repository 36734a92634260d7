/- Parts. No conditions but those that each theorem names. -/
import Derived.Test.YtflepnkpihfidaaGreatDoorProg
import Derived.Test.YtflepnkpihfidaaGreatDoorJWords
import Derived.Test.YtflepnkpihfidaaGreatDoorJLawA
import Derived.Test.YtflepnkpihfidaaGreatDoorShelf
import Derived.Lib.SlBytesConst
set_option linter.unusedVariables false
set_option linter.unusedSimpArgs false
namespace Go.Proofs.YtflepnkpihfidaaGreatDoor
open Lib (hid)
open Go.RowKit
theorem ret_int {k:IntKind} {a b:Int} (h:a=b):Ending.returned (.int k a)=.returned (.int k b):=by rw [h]
theorem ret_bool {a b:Bool} (h:a=b):Ending.returned (.bool a)=.returned (.bool b):=by rw [h]
theorem ret_str {a b:List UInt8} (h:a=b):Ending.returned (str a)=.returned (str b):=by rw [h]
set_option maxHeartbeats 400000 in
theorem small_any (c:UInt8) (w:World):Calls Tryz.prog 202 #[.int .u8 c.toNat] w fun e w'=>e=.returned (.int .u8 (lowN c).toNat)∧Gr w w':=by
 have hc:=c.toNat_lt
 go_enter Tryz.func202,Tryz.ntmps202
 go_wp2
 all_goals go_ret
 ·exact ⟨ret_int (lowN_up c (by assumption) (by assumption)),Gr.refl _⟩
 ·exact ⟨ret_int (lowN_no c (by omega)),Gr.refl _⟩
 ·exact ⟨ret_int (lowN_no c (by omega)),Gr.refl _⟩
set_option maxHeartbeats 400000 in
theorem alike_any (a b:List UInt8) (w:World) (_ha:a.length≤9223372036854775807)  (_hb:b.length≤9223372036854775807) :
  Calls Tryz.prog 133 #[str a,str b] w fun e w'=>e=.returned (.bool (alike a b))∧Gr w w':=by
 by_cases hl:a.length=b.length
 ·have HL:=hid hl
  have hne:((a.length:Int) != (b.length:Int))=false:=by simp [hl]
  have hle:a.length≤b.length:=by omega
  clear hl
  go_enter Tryz.func133,Tryz.ntmps133
  go_wp2_with fail
  go_loopw [4,5,13] (fun r x i wr=>∃k:Nat,k≤a.length∧i=.int .i64 k∧r=.bool false∧Gr w wr∧low (a.take k)=low (b.take k)) (fun _ _ i _=>a.length-(intOf i).toNat)
  case atStart=>exact ⟨0,Nat.zero_le _,rfl,rfl,Gr.refl _,rfl⟩
  case round=>
   obtain ⟨k,hk,rfl,rfl,hG,hE⟩:=hrel
   have HE:=hid hE;clear hE
   by_cases hlt:k < a.length
   ·have hlb:k < b.length:=by omega
    go_wp2_with fail
    refine wp_region_gw (by kernel_rfl) (by kernel_rfl) ?_
    repeat (first | go_big_quiet_step ((go_at_call 202;exact gw_call (small_any _ _))) | quiet_step ((go_at_call 202;exact gw_call (small_any _ _))))
    refine wpQuiet_nil ?_;intro wq hwq;obtain ⟨iq,rfl⟩:=hwq
    have hG1:=Gr.tr hG (gw_gr wr iq)
    generalize gw wr iq=w1 at *
    clear iq hG
    go_wp2_with fail
    ·go_ret
     exact ⟨ret_bool (alike_ne hlt hlb (by assumption)).symm,hG1⟩
    ·exact ⟨⟨k+1,by omega,by go_num,rfl,hG1,alike_step hlt hlb (by assumption) HE.out⟩,by simp [intOf];omega⟩
   ·go_wp2_with fail
    go_ret
    exact ⟨ret_bool (alike_end hlt HL.out HE.out).symm,hG⟩
 ·have hne:((a.length:Int) != (b.length:Int))=true:=by simp;omega
  go_enter Tryz.func133,Tryz.ntmps133
  go_wp2_with fail
  go_ret
  exact ⟨ret_bool (alike_len hl).symm,Gr.refl _⟩
theorem indexByte_any (l:List UInt8) (c:UInt8) (w:World):Calls Tryz.prog 275 #[str l,.int .u8 c.toNat] w fun e w'=>e=.returned (.int .i64 (Lib.indexByte l c))∧Gr w w':=
 (Tryz.strings_IndexByte ⟨l.toArray⟩ (c.toNat:Int) w).mono fun e w' ⟨h1,h2⟩=>⟨by rw [h1];simp,by rw [h2];exact Gr.refl _⟩
set_option maxHeartbeats 1000000 in
theorem token_any (l:List UInt8) (w:World) (_hl:l.length≤9223372036854775807):Calls Tryz.prog 242 #[str l] w fun e w'=>e=.returned (.bool (token l))∧Gr w w':=by
 cases hl:l with
 | nil=>
   go_enter Tryz.func242,Tryz.ntmps242
   go_wp2_with fail
   go_ret
   exact ⟨rfl,Gr.refl _⟩
 | cons c0 l0=>
   have hne:l.isEmpty=false:=by rw [hl];rfl
   have hpos:0 < l.length:=by rw [hl];simp
   rw [←hl];clear hl c0 l0
   go_enter Tryz.func242,Tryz.ntmps242
   go_wp2_with fail
   go_loopw [2,3,4,5,10] (fun r x y z i wr=>∃k:Nat,k≤l.length∧i=.int .i64 k∧r=.bool false∧Gr w wr∧(l.take k).all tokC=true) (fun _ _ _ _ i _=>l.length-(intOf i).toNat)
   case atStart=>exact ⟨0,Nat.zero_le _,rfl,rfl,Gr.refl _,rfl⟩
   case round=>
    obtain ⟨k,hk,rfl,rfl,hG,hE⟩:=hrel
    have HE:=hid hE;clear hE
    by_cases hlt:k < l.length
    ·have hs:((97≤(l[k].toNat:Int)∧(l[k].toNat:Int)≤122)∨(65≤(l[k].toNat:Int)∧(l[k].toNat:Int)≤90)∨(48≤(l[k].toNat:Int)∧(l[k].toNat:Int)≤57))∨((l[k].toNat:Int) < 48∨(57 < (l[k].toNat:Int)∧(l[k].toNat:Int) < 65)∨(90 < (l[k].toNat:Int)∧(l[k].toNat:Int) < 97)∨122 < (l[k].toNat:Int)):=by omega
     rcases hs with hs | hs
     ·have hc:=hid (tokC_of_letter (tokC_letter _ hs))
      rcases hs with ⟨h1,h2⟩ | ⟨h1,h2⟩ | ⟨h1,h2⟩
      ·have ddge97:decide (97≤((l[k].toNat:Nat):Int))=true:=decide_eq_true (by omega)
       have ddle122:decide (((l[k].toNat:Nat):Int)≤122)=true:=decide_eq_true (by omega)
       have ddge65:decide (65≤((l[k].toNat:Nat):Int))=true:=decide_eq_true (by omega)
       have ddle90:decide (((l[k].toNat:Nat):Int)≤90)=false:=decide_eq_false (by omega)
       have ddge48:decide (48≤((l[k].toNat:Nat):Int))=true:=decide_eq_true (by omega)
       have ddle57:decide (((l[k].toNat:Nat):Int)≤57)=false:=decide_eq_false (by omega)
       go_wp2_with fail
       exact ⟨⟨k+1,by omega,by go_num,rfl,hG,all_take_succ _ l k hlt HE.out hc.out⟩,by simp [intOf];omega⟩
      ·have ddge97:decide (97≤((l[k].toNat:Nat):Int))=false:=decide_eq_false (by omega)
       have ddle122:decide (((l[k].toNat:Nat):Int)≤122)=true:=decide_eq_true (by omega)
       have ddge65:decide (65≤((l[k].toNat:Nat):Int))=true:=decide_eq_true (by omega)
       have ddle90:decide (((l[k].toNat:Nat):Int)≤90)=true:=decide_eq_true (by omega)
       have ddge48:decide (48≤((l[k].toNat:Nat):Int))=true:=decide_eq_true (by omega)
       have ddle57:decide (((l[k].toNat:Nat):Int)≤57)=false:=decide_eq_false (by omega)
       go_wp2_with fail
       exact ⟨⟨k+1,by omega,by go_num,rfl,hG,all_take_succ _ l k hlt HE.out hc.out⟩,by simp [intOf];omega⟩
      ·have ddge97:decide (97≤((l[k].toNat:Nat):Int))=false:=decide_eq_false (by omega)
       have ddle122:decide (((l[k].toNat:Nat):Int)≤122)=true:=decide_eq_true (by omega)
       have ddge65:decide (65≤((l[k].toNat:Nat):Int))=false:=decide_eq_false (by omega)
       have ddle90:decide (((l[k].toNat:Nat):Int)≤90)=true:=decide_eq_true (by omega)
       have ddge48:decide (48≤((l[k].toNat:Nat):Int))=true:=decide_eq_true (by omega)
       have ddle57:decide (((l[k].toNat:Nat):Int)≤57)=true:=decide_eq_true (by omega)
       go_wp2_with fail
       exact ⟨⟨k+1,by omega,by go_num,rfl,hG,all_take_succ _ l k hlt HE.out hc.out⟩,by simp [intOf];omega⟩
     ·have hn:=hid (letterC_no l[k] (by omega))
      have hx:(l[k].toNat:Int)≤255:=by have:=l[k].toNat_lt;omega
      by_cases hi:Lib.indexByte tokB l[k] < 0
      ·have hc:=hid (tokC_no hn.out hi)
       have hi2:decide (Lib.indexByte tokB l[k] < 0)=true:=by simp [hi]
       clear hn
       rcases hs with h1 | ⟨h1,h2⟩ | ⟨h1,h2⟩ | h1
       ·have ddge97:decide (97≤((l[k].toNat:Nat):Int))=false:=decide_eq_false (by omega)
        have ddle122:decide (((l[k].toNat:Nat):Int)≤122)=true:=decide_eq_true (by omega)
        have ddge65:decide (65≤((l[k].toNat:Nat):Int))=false:=decide_eq_false (by omega)
        have ddle90:decide (((l[k].toNat:Nat):Int)≤90)=true:=decide_eq_true (by omega)
        have ddge48:decide (48≤((l[k].toNat:Nat):Int))=false:=decide_eq_false (by omega)
        have ddle57:decide (((l[k].toNat:Nat):Int)≤57)=true:=decide_eq_true (by omega)
        go_wp2_with (go_at_call 275;refine (indexByte_any tokB _ _).mono ?_;rintro e w1 ⟨rfl,hG1⟩)
        go_ret
        exact ⟨ret_bool (token_no hlt hc.out).symm,Gr.tr hG hG1⟩
       ·have ddge97:decide (97≤((l[k].toNat:Nat):Int))=false:=decide_eq_false (by omega)
        have ddle122:decide (((l[k].toNat:Nat):Int)≤122)=true:=decide_eq_true (by omega)
        have ddge65:decide (65≤((l[k].toNat:Nat):Int))=false:=decide_eq_false (by omega)
        have ddle90:decide (((l[k].toNat:Nat):Int)≤90)=true:=decide_eq_true (by omega)
        have ddge48:decide (48≤((l[k].toNat:Nat):Int))=true:=decide_eq_true (by omega)
        have ddle57:decide (((l[k].toNat:Nat):Int)≤57)=false:=decide_eq_false (by omega)
        go_wp2_with (go_at_call 275;refine (indexByte_any tokB _ _).mono ?_;rintro e w1 ⟨rfl,hG1⟩)
        go_ret
        exact ⟨ret_bool (token_no hlt hc.out).symm,Gr.tr hG hG1⟩
       ·have ddge97:decide (97≤((l[k].toNat:Nat):Int))=false:=decide_eq_false (by omega)
        have ddle122:decide (((l[k].toNat:Nat):Int)≤122)=true:=decide_eq_true (by omega)
        have ddge65:decide (65≤((l[k].toNat:Nat):Int))=true:=decide_eq_true (by omega)
        have ddle90:decide (((l[k].toNat:Nat):Int)≤90)=false:=decide_eq_false (by omega)
        have ddge48:decide (48≤((l[k].toNat:Nat):Int))=true:=decide_eq_true (by omega)
        have ddle57:decide (((l[k].toNat:Nat):Int)≤57)=false:=decide_eq_false (by omega)
        go_wp2_with (go_at_call 275;refine (indexByte_any tokB _ _).mono ?_;rintro e w1 ⟨rfl,hG1⟩)
        go_ret
        exact ⟨ret_bool (token_no hlt hc.out).symm,Gr.tr hG hG1⟩
       ·have ddge97:decide (97≤((l[k].toNat:Nat):Int))=true:=decide_eq_true (by omega)
        have ddle122:decide (((l[k].toNat:Nat):Int)≤122)=false:=decide_eq_false (by omega)
        have ddge65:decide (65≤((l[k].toNat:Nat):Int))=true:=decide_eq_true (by omega)
        have ddle90:decide (((l[k].toNat:Nat):Int)≤90)=false:=decide_eq_false (by omega)
        have ddge48:decide (48≤((l[k].toNat:Nat):Int))=true:=decide_eq_true (by omega)
        have ddle57:decide (((l[k].toNat:Nat):Int)≤57)=false:=decide_eq_false (by omega)
        go_wp2_with (go_at_call 275;refine (indexByte_any tokB _ _).mono ?_;rintro e w1 ⟨rfl,hG1⟩)
        go_ret
        exact ⟨ret_bool (token_no hlt hc.out).symm,Gr.tr hG hG1⟩
      ·have hc:=hid (tokC_of_sign hi)
       have hi2:decide (Lib.indexByte tokB l[k] < 0)=false:=by simp;omega
       clear hn
       rcases hs with h1 | ⟨h1,h2⟩ | ⟨h1,h2⟩ | h1
       ·have ddge97:decide (97≤((l[k].toNat:Nat):Int))=false:=decide_eq_false (by omega)
        have ddle122:decide (((l[k].toNat:Nat):Int)≤122)=true:=decide_eq_true (by omega)
        have ddge65:decide (65≤((l[k].toNat:Nat):Int))=false:=decide_eq_false (by omega)
        have ddle90:decide (((l[k].toNat:Nat):Int)≤90)=true:=decide_eq_true (by omega)
        have ddge48:decide (48≤((l[k].toNat:Nat):Int))=false:=decide_eq_false (by omega)
        have ddle57:decide (((l[k].toNat:Nat):Int)≤57)=true:=decide_eq_true (by omega)
        go_wp2_with (go_at_call 275;refine (indexByte_any tokB _ _).mono ?_;rintro e w1 ⟨rfl,hG1⟩)
        exact ⟨⟨k+1,by omega,by go_num,rfl,Gr.tr hG hG1,all_take_succ _ l k hlt HE.out hc.out⟩,by simp [intOf];omega⟩
       ·have ddge97:decide (97≤((l[k].toNat:Nat):Int))=false:=decide_eq_false (by omega)
        have ddle122:decide (((l[k].toNat:Nat):Int)≤122)=true:=decide_eq_true (by omega)
        have ddge65:decide (65≤((l[k].toNat:Nat):Int))=false:=decide_eq_false (by omega)
        have ddle90:decide (((l[k].toNat:Nat):Int)≤90)=true:=decide_eq_true (by omega)
        have ddge48:decide (48≤((l[k].toNat:Nat):Int))=true:=decide_eq_true (by omega)
        have ddle57:decide (((l[k].toNat:Nat):Int)≤57)=false:=decide_eq_false (by omega)
        go_wp2_with (go_at_call 275;refine (indexByte_any tokB _ _).mono ?_;rintro e w1 ⟨rfl,hG1⟩)
        exact ⟨⟨k+1,by omega,by go_num,rfl,Gr.tr hG hG1,all_take_succ _ l k hlt HE.out hc.out⟩,by simp [intOf];omega⟩
       ·have ddge97:decide (97≤((l[k].toNat:Nat):Int))=false:=decide_eq_false (by omega)
        have ddle122:decide (((l[k].toNat:Nat):Int)≤122)=true:=decide_eq_true (by omega)
        have ddge65:decide (65≤((l[k].toNat:Nat):Int))=true:=decide_eq_true (by omega)
        have ddle90:decide (((l[k].toNat:Nat):Int)≤90)=false:=decide_eq_false (by omega)
        have ddge48:decide (48≤((l[k].toNat:Nat):Int))=true:=decide_eq_true (by omega)
        have ddle57:decide (((l[k].toNat:Nat):Int)≤57)=false:=decide_eq_false (by omega)
        go_wp2_with (go_at_call 275;refine (indexByte_any tokB _ _).mono ?_;rintro e w1 ⟨rfl,hG1⟩)
        exact ⟨⟨k+1,by omega,by go_num,rfl,Gr.tr hG hG1,all_take_succ _ l k hlt HE.out hc.out⟩,by simp [intOf];omega⟩
       ·have ddge97:decide (97≤((l[k].toNat:Nat):Int))=true:=decide_eq_true (by omega)
        have ddle122:decide (((l[k].toNat:Nat):Int)≤122)=false:=decide_eq_false (by omega)
        have ddge65:decide (65≤((l[k].toNat:Nat):Int))=true:=decide_eq_true (by omega)
        have ddle90:decide (((l[k].toNat:Nat):Int)≤90)=false:=decide_eq_false (by omega)
        have ddge48:decide (48≤((l[k].toNat:Nat):Int))=true:=decide_eq_true (by omega)
        have ddle57:decide (((l[k].toNat:Nat):Int)≤57)=false:=decide_eq_false (by omega)
        go_wp2_with (go_at_call 275;refine (indexByte_any tokB _ _).mono ?_;rintro e w1 ⟨rfl,hG1⟩)
        exact ⟨⟨k+1,by omega,by go_num,rfl,Gr.tr hG hG1,all_take_succ _ l k hlt HE.out hc.out⟩,by simp [intOf];omega⟩
    ·go_wp2_with fail
     go_ret
     exact ⟨ret_bool (token_yes hpos hlt HE.out).symm,hG⟩
end Go.Proofs.YtflepnkpihfidaaGreatDoor
namespace Go.Proofs.YtflepnkpihfidaaGreatDoor
open Lib (hid)
open Go.RowKit
end Go.Proofs.YtflepnkpihfidaaGreatDoor
namespace Go.Proofs.YtflepnkpihfidaaGreatDoor
open Lib (hid)
open Go.RowKit
theorem trim_any (l:List UInt8) (w:World) (_hl:l.length≤9223372036854775807):Calls Tryz.prog 138 #[str l,.string ⟨#[32,9]⟩] w fun e w'=>e=.returned (str (trim l))∧Gr w w':=
 Tryz.strings_Trim_ascii ⟨l.toArray⟩ ⟨#[32,9]⟩ w _hl (by decide) (ascii_of_all (by decide))
theorem box2 (w:World) (a b:Value) (t:TypeId):Gr w (w.alloc (Obj.cells #[a,b] t))∧(w.alloc (Obj.cells #[a,b] t)).cell? ⟨w.heap.size,0,none⟩=some a∧(w.alloc (Obj.cells #[a,b] t)).cell? ⟨w.heap.size,1,none⟩=some b:=
 ⟨Gr.al (Gr.refl w) _,by simp,by simp⟩
set_option maxHeartbeats 1000000 in
theorem right_any (n v:List UInt8) (w:World) (_hn:n.length≤9223372036854775800) (_hv:v.length≤9223372036854775800) :
  Calls Tryz.prog 185 #[.agg #[str n,str v]] w fun e w'=>e=.returned (.bool (right (n,v)))∧Gr w w':=by
 obtain ⟨hG0,c0,c1⟩:=box2 w (str n) (str v) 127
 by_cases h1:n.length≤200
 ·have d1:decide (200 < (n.length:Int))=false:=decide_eq_false (by omega)
  by_cases h2:v.length≤8192
  ·have d2:decide (8192 < (v.length:Int))=false:=decide_eq_false (by omega)
   cases h3:token n with
   | true=>
     cases h4:(trim v==v) with
     | true=>
       have HR:=hid (right_rest h3 h1 h2 h4)
       go_enter Tryz.func185,Tryz.ntmps185
       go_upto_region 1 with fail
       generalize w.alloc (Obj.cells #[str n,str v] 127)=w0 at *
       go_wp2_with (go_at_call 242;refine (token_any _ _ (by omega)).mono ?_;rintro e w1 ⟨rfl,hG1⟩;have c0:=Gr.cell hG1 c0;have c1:=Gr.cell hG1 c1)
       have hq1:=fun i=>Gr.cell (gw_gr w1 i) c1
       refine wp_region_gw (by kernel_rfl) (by kernel_rfl) ?_
       repeat (first | go_big_quiet_step ((go_at_call 138;exact gw_call (trim_any _ _ (by omega)))) | quiet_step ((go_at_call 138;exact gw_call (trim_any _ _ (by omega)))))
       refine wpQuiet_nil ?_;intro wq hwq;obtain ⟨iq,rfl⟩:=hwq
       have hG2:=Gr.tr (Gr.tr hG0 hG1) (gw_gr w1 iq)
       have c1':=Gr.cell (gw_gr w1 iq) c1
       generalize gw w1 iq=w2 at *
       clear iq hq1 hG0 hG1 c1 c0
       go_wp2_with fail
       go_loop [2,3,4,30] (fun r x y i=>∃k:Nat,k≤v.length∧i=.int .i64 k∧(v.take k).all visC=true) (fun _ _ _ i=>v.length-(intOf i).toNat)
       case atStart=>exact ⟨0,Nat.zero_le _,rfl,rfl⟩
       case round=>
        obtain ⟨k,hk,rfl,hE⟩:=hrel
        have HE:=hid hE;clear hE
        by_cases hlt:k < v.length
        ·have hs:((v[k].toNat:Int) < 9∨(9 < (v[k].toNat:Int)∧(v[k].toNat:Int) < 32)∨126 < (v[k].toNat:Int))∨((v[k].toNat:Int)=9∨(32≤(v[k].toNat:Int)∧(v[k].toNat:Int)≤126)):=by omega
         have hx:(v[k].toNat:Int)≤255:=by have:=v[k].toNat_lt;omega
         rcases hs with hs | hs
         ·have hc:=hid (visC_no v[k] (by omega))
          rcases hs with h | ⟨h,h'⟩ | h
          ·have ddlt32:decide (((v[k].toNat:Nat):Int) < 32)=true:=decide_eq_true (by omega)
           have ddgt126:decide (126 < ((v[k].toNat:Nat):Int))=false:=decide_eq_false (by omega)
           have ddne9:(((v[k].toNat:Nat):Int) != 9)=true:=by simp;omega
           go_wp2_with fail
           go_ret
           exact ⟨ret_bool (by rw [HR.out,all_no _ _ _ hlt hc.out]),hG2⟩
          ·have ddlt32:decide (((v[k].toNat:Nat):Int) < 32)=true:=decide_eq_true (by omega)
           have ddgt126:decide (126 < ((v[k].toNat:Nat):Int))=false:=decide_eq_false (by omega)
           have ddne9:(((v[k].toNat:Nat):Int) != 9)=true:=by simp;omega
           go_wp2_with fail
           go_ret
           exact ⟨ret_bool (by rw [HR.out,all_no _ _ _ hlt hc.out]),hG2⟩
          ·have ddlt32:decide (((v[k].toNat:Nat):Int) < 32)=false:=decide_eq_false (by omega)
           have ddgt126:decide (126 < ((v[k].toNat:Nat):Int))=true:=decide_eq_true (by omega)
           have ddne9:(((v[k].toNat:Nat):Int) != 9)=true:=by simp;omega
           go_wp2_with fail
           go_ret
           exact ⟨ret_bool (by rw [HR.out,all_no _ _ _ hlt hc.out]),hG2⟩
         ·have hc:=hid (visC_yes v[k] (by omega))
          rcases hs with h | ⟨h,h'⟩
          ·have ddlt32:decide (((v[k].toNat:Nat):Int) < 32)=true:=decide_eq_true (by omega)
           have ddgt126:decide (126 < ((v[k].toNat:Nat):Int))=false:=decide_eq_false (by omega)
           have ddne9:(((v[k].toNat:Nat):Int) != 9)=false:=by simp;omega
           clear h
           go_wp2_with fail
           exact ⟨⟨k+1,by omega,by go_num,all_take_succ _ v k hlt HE.out hc.out⟩,by simp [intOf];omega⟩
          ·have ddlt32:decide (((v[k].toNat:Nat):Int) < 32)=false:=decide_eq_false (by omega)
           have ddgt126:decide (126 < ((v[k].toNat:Nat):Int))=false:=decide_eq_false (by omega)
           have ddne9:(((v[k].toNat:Nat):Int) != 9)=true:=by simp;omega
           go_wp2_with fail
           exact ⟨⟨k+1,by omega,by go_num,all_take_succ _ v k hlt HE.out hc.out⟩,by simp [intOf];omega⟩
        ·go_wp2_with fail
         go_ret
         exact ⟨ret_bool (by rw [HR.out,all_end _ _ _ hlt HE.out]),hG2⟩
     | false=>
       have HR:=hid (right_head (n:=n) (v:=v) (fun h=>by simp [h4] at h))
       go_enter Tryz.func185,Tryz.ntmps185
       go_upto_region 1 with fail
       generalize w.alloc (Obj.cells #[str n,str v] 127)=w0 at *
       go_wp2_with (go_at_call 242;refine (token_any _ _ (by omega)).mono ?_;rintro e w1 ⟨rfl,hG1⟩;have c0:=Gr.cell hG1 c0;have c1:=Gr.cell hG1 c1)
       have hq1:=fun i=>Gr.cell (gw_gr w1 i) c1
       refine wp_region_gw (by kernel_rfl) (by kernel_rfl) ?_
       repeat (first | go_big_quiet_step ((go_at_call 138;exact gw_call (trim_any _ _ (by omega)))) | quiet_step ((go_at_call 138;exact gw_call (trim_any _ _ (by omega)))))
       refine wpQuiet_nil ?_;intro wq hwq;obtain ⟨iq,rfl⟩:=hwq
       have hG2:=Gr.tr (Gr.tr hG0 hG1) (gw_gr w1 iq)
       generalize gw w1 iq=w2 at *
       go_wp2_with fail
       go_ret
       exact ⟨ret_bool HR.out.symm,hG2⟩
   | false=>
     have HR:=hid (right_head (n:=n) (v:=v) (fun h=>by simp [h3] at h))
     go_enter Tryz.func185,Tryz.ntmps185
     go_upto_region 1 with fail
     generalize w.alloc (Obj.cells #[str n,str v] 127)=w0 at *
     go_wp2_with (go_at_call 242;refine (token_any _ _ (by omega)).mono ?_;rintro e w1 ⟨rfl,hG1⟩)
     go_ret
     exact ⟨ret_bool HR.out.symm,Gr.tr hG0 hG1⟩
  ·have d2:decide (8192 < (v.length:Int))=true:=decide_eq_true (by omega)
   have HR:=hid (right_head (n:=n) (v:=v) (fun h=>h2 h.2.2.1))
   go_enter Tryz.func185,Tryz.ntmps185
   go_upto_region 1 with fail
   generalize w.alloc (Obj.cells #[str n,str v] 127)=w0 at *
   go_wp2_with fail
   go_ret
   exact ⟨ret_bool HR.out.symm,hG0⟩
 ·have d1:decide (200 < (n.length:Int))=true:=decide_eq_true (by omega)
  have HR:=hid (right_head (n:=n) (v:=v) (fun h=>h1 h.2.1))
  go_enter Tryz.func185,Tryz.ntmps185
  go_upto_region 1 with fail
  generalize w.alloc (Obj.cells #[str n,str v] 127)=w0 at *
  go_wp2_with fail
  go_ret
  exact ⟨ret_bool HR.out.symm,hG0⟩
end Go.Proofs.YtflepnkpihfidaaGreatDoor
