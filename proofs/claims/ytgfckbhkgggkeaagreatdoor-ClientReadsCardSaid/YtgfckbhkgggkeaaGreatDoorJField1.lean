/- Several texts in one (their own heads say what each is). No conditions but those that each theorem names. -/
import Derived.Test.YtgfckbhkgggkeaaGreatDoorProg
import Derived.Test.YtgfckbhkgggkeaaGreatDoorJWords
import Derived.Test.YtgfckbhkgggkeaaGreatDoorJLawA
import Derived.Test.YtgfckbhkgggkeaaGreatDoorShelf
import Derived.Lib.SlBytesConst
set_option linter.unusedVariables false
set_option linter.unusedSimpArgs false
/- XField1 -/
namespace Go.Proofs.YtgfckbhkgggkeaaGreatDoor
open Lib (hid)
open Go.RowKit
theorem ret_int {k:IntKind} {a b:Int} (h:a=b):Ending.returned (.int k a)=.returned (.int k b):=by rw [h]
theorem ret_bool {a b:Bool} (h:a=b):Ending.returned (.bool a)=.returned (.bool b):=by rw [h]
theorem ret_str {a b:List UInt8} (h:a=b):Ending.returned (str a)=.returned (str b):=by rw [h]
set_option maxHeartbeats 400000 in
theorem small_any (c:UInt8) (w:World):Calls Tryz.prog 168 #[.int .u8 c.toNat] w fun e w'=>e=.returned (.int .u8 (lowN c).toNat)∧Gr w w':=by
 have hc:=c.toNat_lt
 go_enter Tryz.func168,Tryz.ntmps168
 go_wp2
 all_goals go_ret
 ·exact ⟨ret_int (lowN_up c (by assumption) (by assumption)),Gr.refl _⟩
 ·exact ⟨ret_int (lowN_no c (by omega)),Gr.refl _⟩
 ·exact ⟨ret_int (lowN_no c (by omega)),Gr.refl _⟩
set_option maxHeartbeats 400000 in
theorem alike_any (a b:List UInt8) (w:World) (_ha:a.length≤9223372036854775807)  (_hb:b.length≤9223372036854775807) :
  Calls Tryz.prog 144 #[str a,str b] w fun e w'=>e=.returned (.bool (alike a b))∧Gr w w':=by
 by_cases hl:a.length=b.length
 ·have HL:=hid hl
  have hne:((a.length:Int) != (b.length:Int))=false:=by simp [hl]
  have hle:a.length≤b.length:=by omega
  clear hl
  go_enter Tryz.func144,Tryz.ntmps144
  go_wp2_with fail
  go_loopw [4,5,13] (fun r x i wr=>∃k:Nat,k≤a.length∧i=.int .i64 k∧r=.bool false∧Gr w wr∧low (a.take k)=low (b.take k)) (fun _ _ i _=>a.length-(intOf i).toNat)
  case atStart=>exact ⟨0,Nat.zero_le _,rfl,rfl,Gr.refl _,rfl⟩
  case round=>
   obtain ⟨k,hk,rfl,rfl,hG,hE⟩:=hrel
   have HE:=hid hE;clear hE
   by_cases hlt:k < a.length
   ·have hlb:k < b.length:=by omega
    go_wp2_with fail
    refine wp_region_gw (by kernel_rfl) (by kernel_rfl) ?_
    repeat (first | go_big_quiet_step ((go_at_call 168;exact gw_call (small_any _ _))) | quiet_step ((go_at_call 168;exact gw_call (small_any _ _))))
    refine wpQuiet_nil ?_;intro wq hwq;obtain ⟨iq,rfl⟩:=hwq
    have hG1:=Gr.tr hG (gw_gr wr iq)
    generalize gw wr iq=w1 at *
    clear iq hG
    go_wp2_with fail
    ·go_ret
     exact ⟨ret_bool (alike_ne hlt hlb (by assumption)).symm,hG1⟩
    ·exact ⟨⟨k+1,by omega,by go_num,rfl,hG1,alike_step hlt hlb (by assumption) HE.out⟩,by simp [intOf];omega⟩
   ·go_wp2_with fail
    go_ret
    exact ⟨ret_bool (alike_end hlt HL.out HE.out).symm,hG⟩
 ·have hne:((a.length:Int) != (b.length:Int))=true:=by simp;omega
  go_enter Tryz.func144,Tryz.ntmps144
  go_wp2_with fail
  go_ret
  exact ⟨ret_bool (alike_len hl).symm,Gr.refl _⟩
set_option maxHeartbeats 400000 in
theorem blank_any (c:UInt8) (w:World):Calls Tryz.prog 135 #[.int .u8 c.toNat] w fun e w'=>e=.returned (.bool (blk c))∧Gr w w':=by
 have hc:=c.toNat_lt
 have hi:=hid (blk_iff c)
 cases hb:blk c with
 | true=>
   rw [hb] at hi
   have h2:=hi.out.1 rfl
   go_enter Tryz.func135,Tryz.ntmps135
   by_cases h9:(c.toNat:Int)=32
   ·go_wp2
    all_goals go_ret
    all_goals exact ⟨by simp,Gr.refl _⟩
   ·have h3:(c.toNat:Int)=9:=by omega
    go_wp2
    all_goals go_ret
    all_goals exact ⟨by simp,Gr.refl _⟩
 | false=>
   rw [hb] at hi
   have h1:((c.toNat:Int)==32)=false:=by rw [beq_eq_false_iff_ne];intro h;exact absurd (hi.out.2 (.inl h)) (by simp)
   have h2:((c.toNat:Int)==9)=false:=by rw [beq_eq_false_iff_ne];intro h;exact absurd (hi.out.2 (.inr h)) (by simp)
   clear hi
   go_enter Tryz.func135,Tryz.ntmps135
   go_wp2
   all_goals go_ret
   all_goals exact ⟨by simp,Gr.refl _⟩
set_option maxHeartbeats 400000 in
theorem refTrim_any (l:List UInt8) (w:World) (_hl:l.length≤9223372036854775807):Calls Tryz.prog 109 #[str l] w fun e w'=>e=.returned (str (trim l))∧Gr w w':=by
 go_enter Tryz.func109,Tryz.ntmps109
 go_wp2_with fail
 go_loopw [0] (fun v wr=>∃t:List UInt8,v=str t∧t.length≤l.length∧Gr w wr∧trimL t=trimL l) (fun v _=>Lib.strSize v)
 case atStart=>exact ⟨l,rfl,Nat.le_refl _,Gr.refl _,rfl⟩
 case round=>
  obtain ⟨t,rfl,htl,hG,hE⟩:=hrel
  have HE:=hid hE;clear hE
  have hs:(∃c t',t=c::t'∧blk c=true)∨(t=trimL t∧(t=[]∨∃c t',t=c::t'∧blk c=false)):=by
   cases t with
   | nil=>exact .inr ⟨rfl,.inl rfl⟩
   | cons c t'=>
     cases hb:blk c with
     | true=>exact .inl ⟨c,t',rfl,hb⟩
     | false=>exact .inr ⟨(trimL_no hb).symm,.inr ⟨c,t',rfl,hb⟩⟩
  rcases hs with ⟨c,t',rfl,hb⟩ | ⟨hT,hs⟩
  ·go_wp2_with (go_at_call 135;refine (blank_any _ _).mono ?_;rintro e w1 ⟨rfl,hG1⟩)
   simp only [List.length_cons] at htl
   exact ⟨⟨t',by simp,by omega,Gr.tr hG hG1,by rw [←HE.out,trimL_yes hb]⟩,by simp [strSize_str]⟩
  ·have HT:=hid (hT.trans HE.out);clear hT HE
   rcases hs with rfl | ⟨c,t',rfl,hb⟩
   all_goals
    go_wp2_with (go_at_call 135;refine (blank_any _ _).mono ?_;rintro e w1 ⟨rfl,hG1⟩)
    try (have hG2:=Gr.tr hG hG1;clear hG hG1;have hG:=hG2;clear hG2)
    go_loopw [0] (fun v wr=>∃u:List UInt8,v=str u∧u.length≤l.length∧Gr w wr∧trimR u=trim l) (fun v _=>Lib.strSize v)
    case atStart=>exact ⟨_,rfl,htl,hG,by rw [HT.out,trim_comm]⟩
    case round=>
     clear HT htl
     obtain ⟨u,rfl,hul,hG',hE⟩:=hrel
     have HE:=hid hE;clear hE hG
     rcases nil_or_snoc u with rfl | ⟨u',d,rfl⟩
     ·go_wp2_with fail
      go_ret
      exact ⟨ret_str HE.out,hG'⟩
     ·simp only [List.length_append,List.length_singleton] at hul
      cases hd:blk d with
      | true=>
        go_wp2_with (go_at_call 135;refine (blank_any _ _).mono ?_;rintro e w2 ⟨rfl,hG2⟩)
        exact ⟨⟨u',rfl,by omega,Gr.tr hG' hG2,by rw [←HE.out,trimR_yes hd]⟩,by simp [strSize_str]⟩
      | false=>
        go_wp2_with (go_at_call 135;refine (blank_any _ _).mono ?_;rintro e w2 ⟨rfl,hG2⟩)
        go_ret
        exact ⟨ret_str (by rw [←HE.out,trimR_no hd]),Gr.tr hG' hG2⟩
theorem indexByte_any (l:List UInt8) (c:UInt8) (w:World):Calls Tryz.prog 170 #[str l,.int .u8 c.toNat] w fun e w'=>e=.returned (.int .i64 (Lib.indexByte l c))∧Gr w w':=
 (Tryz.strings_IndexByte ⟨l.toArray⟩ (c.toNat:Int) w).mono fun e w' ⟨h1,h2⟩=>⟨by rw [h1];simp,by rw [h2];exact Gr.refl _⟩
set_option maxHeartbeats 1000000 in
theorem token_any (l:List UInt8) (w:World) (_hl:l.length≤9223372036854775807):Calls Tryz.prog 151 #[str l] w fun e w'=>e=.returned (.bool (token l))∧Gr w w':=by
 cases hl:l with
 | nil=>
   go_enter Tryz.func151,Tryz.ntmps151
   go_wp2_with fail
   go_ret
   exact ⟨rfl,Gr.refl _⟩
 | cons c0 l0=>
   have hne:l.isEmpty=false:=by rw [hl];rfl
   have hpos:0 < l.length:=by rw [hl];simp
   rw [←hl];clear hl c0 l0
   go_enter Tryz.func151,Tryz.ntmps151
   go_wp2_with fail
   go_loopw [2,3,4,5,10] (fun r x y z i wr=>∃k:Nat,k≤l.length∧i=.int .i64 k∧r=.bool false∧Gr w wr∧(l.take k).all tokC=true) (fun _ _ _ _ i _=>l.length-(intOf i).toNat)
   case atStart=>exact ⟨0,Nat.zero_le _,rfl,rfl,Gr.refl _,rfl⟩
   case round=>
    obtain ⟨k,hk,rfl,rfl,hG,hE⟩:=hrel
    have HE:=hid hE;clear hE
    by_cases hlt:k < l.length
    ·have hs:((97≤(l[k].toNat:Int)∧(l[k].toNat:Int)≤122)∨(65≤(l[k].toNat:Int)∧(l[k].toNat:Int)≤90)∨(48≤(l[k].toNat:Int)∧(l[k].toNat:Int)≤57))∨((l[k].toNat:Int) < 48∨(57 < (l[k].toNat:Int)∧(l[k].toNat:Int) < 65)∨(90 < (l[k].toNat:Int)∧(l[k].toNat:Int) < 97)∨122 < (l[k].toNat:Int)):=by omega
     rcases hs with hs | hs
     ·have hc:=hid (tokC_of_letter (tokC_letter _ hs))
      rcases hs with ⟨h1,h2⟩ | ⟨h1,h2⟩ | ⟨h1,h2⟩
      ·have ddge97:decide (97≤((l[k].toNat:Nat):Int))=true:=decide_eq_true (by omega)
       have ddle122:decide (((l[k].toNat:Nat):Int)≤122)=true:=decide_eq_true (by omega)
       have ddge65:decide (65≤((l[k].toNat:Nat):Int))=true:=decide_eq_true (by omega)
       have ddle90:decide (((l[k].toNat:Nat):Int)≤90)=false:=decide_eq_false (by omega)
       have ddge48:decide (48≤((l[k].toNat:Nat):Int))=true:=decide_eq_true (by omega)
       have ddle57:decide (((l[k].toNat:Nat):Int)≤57)=false:=decide_eq_false (by omega)
       go_wp2_with fail
       exact ⟨⟨k+1,by omega,by go_num,rfl,hG,all_take_succ _ l k hlt HE.out hc.out⟩,by simp [intOf];omega⟩
      ·have ddge97:decide (97≤((l[k].toNat:Nat):Int))=false:=decide_eq_false (by omega)
       have ddle122:decide (((l[k].toNat:Nat):Int)≤122)=true:=decide_eq_true (by omega)
       have ddge65:decide (65≤((l[k].toNat:Nat):Int))=true:=decide_eq_true (by omega)
       have ddle90:decide (((l[k].toNat:Nat):Int)≤90)=true:=decide_eq_true (by omega)
       have ddge48:decide (48≤((l[k].toNat:Nat):Int))=true:=decide_eq_true (by omega)
       have ddle57:decide (((l[k].toNat:Nat):Int)≤57)=false:=decide_eq_false (by omega)
       go_wp2_with fail
       exact ⟨⟨k+1,by omega,by go_num,rfl,hG,all_take_succ _ l k hlt HE.out hc.out⟩,by simp [intOf];omega⟩
      ·have ddge97:decide (97≤((l[k].toNat:Nat):Int))=false:=decide_eq_false (by omega)
       have ddle122:decide (((l[k].toNat:Nat):Int)≤122)=true:=decide_eq_true (by omega)
       have ddge65:decide (65≤((l[k].toNat:Nat):Int))=false:=decide_eq_false (by omega)
       have ddle90:decide (((l[k].toNat:Nat):Int)≤90)=true:=decide_eq_true (by omega)
       have ddge48:decide (48≤((l[k].toNat:Nat):Int))=true:=decide_eq_true (by omega)
       have ddle57:decide (((l[k].toNat:Nat):Int)≤57)=true:=decide_eq_true (by omega)
       go_wp2_with fail
       exact ⟨⟨k+1,by omega,by go_num,rfl,hG,all_take_succ _ l k hlt HE.out hc.out⟩,by simp [intOf];omega⟩
     ·have hn:=hid (letterC_no l[k] (by omega))
      have hx:(l[k].toNat:Int)≤255:=by have:=l[k].toNat_lt;omega
      by_cases hi:Lib.indexByte tokB l[k] < 0
      ·have hc:=hid (tokC_no hn.out hi)
       have hi2:decide (Lib.indexByte tokB l[k] < 0)=true:=by simp [hi]
       clear hn
       rcases hs with h1 | ⟨h1,h2⟩ | ⟨h1,h2⟩ | h1
       ·have ddge97:decide (97≤((l[k].toNat:Nat):Int))=false:=decide_eq_false (by omega)
        have ddle122:decide (((l[k].toNat:Nat):Int)≤122)=true:=decide_eq_true (by omega)
        have ddge65:decide (65≤((l[k].toNat:Nat):Int))=false:=decide_eq_false (by omega)
        have ddle90:decide (((l[k].toNat:Nat):Int)≤90)=true:=decide_eq_true (by omega)
        have ddge48:decide (48≤((l[k].toNat:Nat):Int))=false:=decide_eq_false (by omega)
        have ddle57:decide (((l[k].toNat:Nat):Int)≤57)=true:=decide_eq_true (by omega)
        go_wp2_with (go_at_call 170;refine (indexByte_any tokB _ _).mono ?_;rintro e w1 ⟨rfl,hG1⟩)
        go_ret
        exact ⟨ret_bool (token_no hlt hc.out).symm,Gr.tr hG hG1⟩
       ·have ddge97:decide (97≤((l[k].toNat:Nat):Int))=false:=decide_eq_false (by omega)
        have ddle122:decide (((l[k].toNat:Nat):Int)≤122)=true:=decide_eq_true (by omega)
        have ddge65:decide (65≤((l[k].toNat:Nat):Int))=false:=decide_eq_false (by omega)
        have ddle90:decide (((l[k].toNat:Nat):Int)≤90)=true:=decide_eq_true (by omega)
        have ddge48:decide (48≤((l[k].toNat:Nat):Int))=true:=decide_eq_true (by omega)
        have ddle57:decide (((l[k].toNat:Nat):Int)≤57)=false:=decide_eq_false (by omega)
        go_wp2_with (go_at_call 170;refine (indexByte_any tokB _ _).mono ?_;rintro e w1 ⟨rfl,hG1⟩)
        go_ret
        exact ⟨ret_bool (token_no hlt hc.out).symm,Gr.tr hG hG1⟩
       ·have ddge97:decide (97≤((l[k].toNat:Nat):Int))=false:=decide_eq_false (by omega)
        have ddle122:decide (((l[k].toNat:Nat):Int)≤122)=true:=decide_eq_true (by omega)
        have ddge65:decide (65≤((l[k].toNat:Nat):Int))=true:=decide_eq_true (by omega)
        have ddle90:decide (((l[k].toNat:Nat):Int)≤90)=false:=decide_eq_false (by omega)
        have ddge48:decide (48≤((l[k].toNat:Nat):Int))=true:=decide_eq_true (by omega)
        have ddle57:decide (((l[k].toNat:Nat):Int)≤57)=false:=decide_eq_false (by omega)
        go_wp2_with (go_at_call 170;refine (indexByte_any tokB _ _).mono ?_;rintro e w1 ⟨rfl,hG1⟩)
        go_ret
        exact ⟨ret_bool (token_no hlt hc.out).symm,Gr.tr hG hG1⟩
       ·have ddge97:decide (97≤((l[k].toNat:Nat):Int))=true:=decide_eq_true (by omega)
        have ddle122:decide (((l[k].toNat:Nat):Int)≤122)=false:=decide_eq_false (by omega)
        have ddge65:decide (65≤((l[k].toNat:Nat):Int))=true:=decide_eq_true (by omega)
        have ddle90:decide (((l[k].toNat:Nat):Int)≤90)=false:=decide_eq_false (by omega)
        have ddge48:decide (48≤((l[k].toNat:Nat):Int))=true:=decide_eq_true (by omega)
        have ddle57:decide (((l[k].toNat:Nat):Int)≤57)=false:=decide_eq_false (by omega)
        go_wp2_with (go_at_call 170;refine (indexByte_any tokB _ _).mono ?_;rintro e w1 ⟨rfl,hG1⟩)
        go_ret
        exact ⟨ret_bool (token_no hlt hc.out).symm,Gr.tr hG hG1⟩
      ·have hc:=hid (tokC_of_sign hi)
       have hi2:decide (Lib.indexByte tokB l[k] < 0)=false:=by simp;omega
       clear hn
       rcases hs with h1 | ⟨h1,h2⟩ | ⟨h1,h2⟩ | h1
       ·have ddge97:decide (97≤((l[k].toNat:Nat):Int))=false:=decide_eq_false (by omega)
        have ddle122:decide (((l[k].toNat:Nat):Int)≤122)=true:=decide_eq_true (by omega)
        have ddge65:decide (65≤((l[k].toNat:Nat):Int))=false:=decide_eq_false (by omega)
        have ddle90:decide (((l[k].toNat:Nat):Int)≤90)=true:=decide_eq_true (by omega)
        have ddge48:decide (48≤((l[k].toNat:Nat):Int))=false:=decide_eq_false (by omega)
        have ddle57:decide (((l[k].toNat:Nat):Int)≤57)=true:=decide_eq_true (by omega)
        go_wp2_with (go_at_call 170;refine (indexByte_any tokB _ _).mono ?_;rintro e w1 ⟨rfl,hG1⟩)
        exact ⟨⟨k+1,by omega,by go_num,rfl,Gr.tr hG hG1,all_take_succ _ l k hlt HE.out hc.out⟩,by simp [intOf];omega⟩
       ·have ddge97:decide (97≤((l[k].toNat:Nat):Int))=false:=decide_eq_false (by omega)
        have ddle122:decide (((l[k].toNat:Nat):Int)≤122)=true:=decide_eq_true (by omega)
        have ddge65:decide (65≤((l[k].toNat:Nat):Int))=false:=decide_eq_false (by omega)
        have ddle90:decide (((l[k].toNat:Nat):Int)≤90)=true:=decide_eq_true (by omega)
        have ddge48:decide (48≤((l[k].toNat:Nat):Int))=true:=decide_eq_true (by omega)
        have ddle57:decide (((l[k].toNat:Nat):Int)≤57)=false:=decide_eq_false (by omega)
        go_wp2_with (go_at_call 170;refine (indexByte_any tokB _ _).mono ?_;rintro e w1 ⟨rfl,hG1⟩)
        exact ⟨⟨k+1,by omega,by go_num,rfl,Gr.tr hG hG1,all_take_succ _ l k hlt HE.out hc.out⟩,by simp [intOf];omega⟩
       ·have ddge97:decide (97≤((l[k].toNat:Nat):Int))=false:=decide_eq_false (by omega)
        have ddle122:decide (((l[k].toNat:Nat):Int)≤122)=true:=decide_eq_true (by omega)
        have ddge65:decide (65≤((l[k].toNat:Nat):Int))=true:=decide_eq_true (by omega)
        have ddle90:decide (((l[k].toNat:Nat):Int)≤90)=false:=decide_eq_false (by omega)
        have ddge48:decide (48≤((l[k].toNat:Nat):Int))=true:=decide_eq_true (by omega)
        have ddle57:decide (((l[k].toNat:Nat):Int)≤57)=false:=decide_eq_false (by omega)
        go_wp2_with (go_at_call 170;refine (indexByte_any tokB _ _).mono ?_;rintro e w1 ⟨rfl,hG1⟩)
        exact ⟨⟨k+1,by omega,by go_num,rfl,Gr.tr hG hG1,all_take_succ _ l k hlt HE.out hc.out⟩,by simp [intOf];omega⟩
       ·have ddge97:decide (97≤((l[k].toNat:Nat):Int))=true:=decide_eq_true (by omega)
        have ddle122:decide (((l[k].toNat:Nat):Int)≤122)=false:=decide_eq_false (by omega)
        have ddge65:decide (65≤((l[k].toNat:Nat):Int))=true:=decide_eq_true (by omega)
        have ddle90:decide (((l[k].toNat:Nat):Int)≤90)=false:=decide_eq_false (by omega)
        have ddge48:decide (48≤((l[k].toNat:Nat):Int))=true:=decide_eq_true (by omega)
        have ddle57:decide (((l[k].toNat:Nat):Int)≤57)=false:=decide_eq_false (by omega)
        go_wp2_with (go_at_call 170;refine (indexByte_any tokB _ _).mono ?_;rintro e w1 ⟨rfl,hG1⟩)
        exact ⟨⟨k+1,by omega,by go_num,rfl,Gr.tr hG hG1,all_take_succ _ l k hlt HE.out hc.out⟩,by simp [intOf];omega⟩
    ·go_wp2_with fail
     go_ret
     exact ⟨ret_bool (token_yes hpos hlt HE.out).symm,hG⟩
set_option maxHeartbeats 1000000 in
theorem line_any (l:List UInt8) (i:Nat) (w:World) (_hl:l.length≤9223372036854775806) (_hi:i≤l.length):Calls Tryz.prog 102 #[str l,.int .i64 i] w fun e w'=>e=.returned (.int .i64 (lineAt l i))∧Gr w w':=by
 go_enter Tryz.func102,Tryz.ntmps102
 go_wp2_with fail
 go_loopw [4,5] (fun r j wr=>∃k:Nat,k≤l.length∧j=.int .i64 k∧Gr w wr∧lineAt l k=lineAt l i) (fun _ j _=>l.length-(intOf j).toNat)
 case atStart=>exact ⟨i,_hi,rfl,Gr.refl _,rfl⟩
 case round=>
  obtain ⟨k,hk,rfl,hG,hE⟩:=hrel
  have HE:=hid hE;clear hE
  by_cases hlt:k+1 < l.length
  ·by_cases h1:(l[k].toNat:Int)=13
   ·by_cases h2:(l[k+1].toNat:Int)=10
    ·have hb1:((l[k].toNat:Int)==13)=true:=by simp [h1]
     have hb2:((l[k+1].toNat:Int)==10)=true:=by simp [h2]
     have hit:=hid (lineAt_hit hlt h1 h2)
     clear h1 h2
     go_wp2_with fail
     go_ret
     exact ⟨ret_int (by rw [←HE.out,hit.out]),hG⟩
    ·have hb1:((l[k].toNat:Int)==13)=true:=by simp [h1]
     have hb2:((l[k+1].toNat:Int)==10)=false:=by simp [h2]
     have hit:=hid (lineAt_miss hlt (fun h=>h2 h.2))
     clear h1 h2
     go_wp2_with fail
     exact ⟨⟨k+1,by omega,by go_num,hG,by rw [←HE.out,hit.out]⟩,by simp [intOf];omega⟩
   ·have hb1:((l[k].toNat:Int)==13)=false:=by simp [h1]
    have hit:=hid (lineAt_miss hlt (fun h=>h1 h.1))
    clear h1
    go_wp2_with fail
    exact ⟨⟨k+1,by omega,by go_num,hG,by rw [←HE.out,hit.out]⟩,by simp [intOf];omega⟩
  ·have he:=hid (lineAt_end hlt)
   go_wp2_with fail
   go_ret
   exact ⟨ret_int (by rw [←HE.out,he.out]),hG⟩
end Go.Proofs.YtgfckbhkgggkeaaGreatDoor
/- XField2 -/
namespace Go.Proofs.YtgfckbhkgggkeaaGreatDoor
open Lib (hid)
open Go.RowKit
set_option maxHeartbeats 1000000 in
theorem itemEnd_any (l:List UInt8) (i:Nat) (w:World) (_hl:l.length≤9223372036854775800) (_hi:i≤l.length):Calls Tryz.prog 143 #[str l,.int .i64 i] w fun e w'=>e=.returned (.int .i64 (iendAt l i))∧Gr w w':=by
 go_enter Tryz.func143,Tryz.ntmps143
 go_wp2_with fail
 go_loopw [1,4,5,6] (fun j r qv x wr=>∃(k:Nat) (q:Bool),k≤l.length+1∧j=.int .i64 k∧qv=.bool q∧Gr w wr∧min (k+iend q false (l.drop k)) l.length=iendAt l i) (fun j _ _ _ _=>l.length+1-(intOf j).toNat)
 case atStart=>exact ⟨i,false,by omega,rfl,rfl,Gr.refl _,by have:=iendAt_le l i _hi;unfold iendAt at *;omega⟩
 case round=>
  obtain ⟨k,q,hk,rfl,rfl,hG,hE⟩:=hrel
  by_cases hlt:k < l.length
  ·rw [iend_at l q false k hlt] at hE
   have e92:(l[k]==92)=((l[k].toNat:Int)==92):=u8_eq (n:=92) (by decide)
   have e34:(l[k]==34)=((l[k].toNat:Int)==34):=u8_eq (n:=34) (by decide)
   have e44:(l[k]==44)=((l[k].toNat:Int)==44):=u8_eq (n:=44) (by decide)
   rw [e92,e34,e44] at hE
   clear e92 e34 e44
   cases q <;> cases h1:((l[k].toNat:Int)==92) <;> cases h2:((l[k].toNat:Int)==34) <;> cases h3:((l[k].toNat:Int)==44)
   all_goals
    simp only [h1,h2,h3,Bool.false_eq_true,if_false,if_true,Bool.and_true,Bool.and_false,Bool.not_true,Bool.not_false] at hE
    have HE:=hid hE;clear hE
    go_wp2_with fail
   all_goals first
    | (go_ret;exact ⟨ret_int (by have:=HE.out;omega),hG⟩)
    | exact ⟨⟨k+1,_,by omega,by go_num,rfl,hG,by have:=HE.out;omega⟩,by simp [intOf];omega⟩
    | exact ⟨⟨k+2,true,by omega,by go_num,rfl,hG,by
      have h:=HE.out
      by_cases hx:k+1 < l.length
      ·rw [iend_at l true true (k+1) hx,if_pos rfl,show k+1+1=k+2 from rfl] at h;omega
      ·rw [iend_past l true true (k+1) (by omega)] at h;rw [iend_past l true false (k+2) (by omega)];omega⟩,by simp [intOf];omega⟩
  ·rw [iend_past l q false k (by omega)] at hE
   have HE:=hid hE;clear hE
   go_wp2_with fail
   go_ret
   exact ⟨ret_int (by have:=HE.out;omega),hG⟩
def ndB (c:UInt8) (j:Nat):Bool:=letterC c||(tokB.take j).contains c
theorem ndB_zero (c:UInt8):ndB c 0=letterC c:=by simp [ndB]
theorem ndB_end (c:UInt8):ndB c 15=tokC c:=rfl
theorem ndB_succ (c:UInt8) (j:Nat) (h:j < tokB.length):ndB c (j+1)=(ndB c j||((c.toNat:Int)==(tokB[j].toNat:Int))):=by
 unfold ndB;rw [contains_take_succ _ _ h,Bool.or_assoc]
theorem tok_cells (j:Nat) (h:j < tokB.length):(tokB.map fun b=>Value.int .u8 (b.toNat:Int)).toArray[j]?=some (.int .u8 (tokB[j].toNat:Int)):=by
 simp [List.getElem?_eq_getElem h]
set_option maxHeartbeats 1000000 in
theorem refToken_any (l:List UInt8) (w:World) (_hl:l.length≤9223372036854775800):Calls Tryz.prog 108 #[str l] w fun e w'=>e=.returned (.bool (token l))∧Gr w w':=by
 have kc:=fun (w:World) (C:Array Value) (n c:Nat)=>Lib.run_convert_bytes_const (P:=Tryz.prog) w 30 5 C n c Tryz.underlying30 Tryz.underlying5
 go_enter Tryz.func108,Tryz.ntmps108
 go_wp2_with fail
 go_loopw [2,3,4,5] (fun r i x y wr=>∃k:Nat,k≤l.length∧i=.int .i64 k∧Gr w wr∧(l.take k).all tokC=true) (fun _ i _ _ _=>l.length-(intOf i).toNat)
 case atStart=>exact ⟨0,Nat.zero_le _,rfl,Gr.refl _,rfl⟩
 case round=>
  obtain ⟨k,hk,rfl,hG,hE⟩:=hrel
  have HE:=hid hE;clear hE
  by_cases hlt:k < l.length
  ·have hs:((97≤(l[k].toNat:Int)∧(l[k].toNat:Int)≤122)∨(65≤(l[k].toNat:Int)∧(l[k].toNat:Int)≤90)∨(48≤(l[k].toNat:Int)∧(l[k].toNat:Int)≤57))∨((l[k].toNat:Int) < 48∨(57 < (l[k].toNat:Int)∧(l[k].toNat:Int) < 65)∨(90 < (l[k].toNat:Int)∧(l[k].toNat:Int) < 97)∨122 < (l[k].toNat:Int)):=by omega
   go_upto_region 5 with fail
   go_cut [5] (fun s5 wx=>s5=.bool (letterC l[k])∧Gr w wx)
   case first=> 
    have hx:(l[k].toNat:Int)≤255:=by have:=l[k].toNat_lt;omega
    rcases hs with hs | hs
    ·have hc:=hid (tokC_letter _ hs)
     rcases hs with ⟨h1,h2⟩ | ⟨h1,h2⟩ | ⟨h1,h2⟩
     ·have ddge97:decide (97≤((l[k].toNat:Nat):Int))=true:=decide_eq_true (by omega)
      have ddle122:decide (((l[k].toNat:Nat):Int)≤122)=true:=decide_eq_true (by omega)
      have ddge65:decide (65≤((l[k].toNat:Nat):Int))=true:=decide_eq_true (by omega)
      have ddle90:decide (((l[k].toNat:Nat):Int)≤90)=false:=decide_eq_false (by omega)
      have ddge48:decide (48≤((l[k].toNat:Nat):Int))=true:=decide_eq_true (by omega)
      have ddle57:decide (((l[k].toNat:Nat):Int)≤57)=false:=decide_eq_false (by omega)
      go_wp2_with fail
      go_meet
      exact ⟨by rw [hc.out],hG⟩
     ·have ddge97:decide (97≤((l[k].toNat:Nat):Int))=false:=decide_eq_false (by omega)
      have ddle122:decide (((l[k].toNat:Nat):Int)≤122)=true:=decide_eq_true (by omega)
      have ddge65:decide (65≤((l[k].toNat:Nat):Int))=true:=decide_eq_true (by omega)
      have ddle90:decide (((l[k].toNat:Nat):Int)≤90)=true:=decide_eq_true (by omega)
      have ddge48:decide (48≤((l[k].toNat:Nat):Int))=true:=decide_eq_true (by omega)
      have ddle57:decide (((l[k].toNat:Nat):Int)≤57)=false:=decide_eq_false (by omega)
      go_wp2_with fail
      go_meet
      exact ⟨by rw [hc.out],hG⟩
     ·have ddge97:decide (97≤((l[k].toNat:Nat):Int))=false:=decide_eq_false (by omega)
      have ddle122:decide (((l[k].toNat:Nat):Int)≤122)=true:=decide_eq_true (by omega)
      have ddge65:decide (65≤((l[k].toNat:Nat):Int))=false:=decide_eq_false (by omega)
      have ddle90:decide (((l[k].toNat:Nat):Int)≤90)=true:=decide_eq_true (by omega)
      have ddge48:decide (48≤((l[k].toNat:Nat):Int))=true:=decide_eq_true (by omega)
      have ddle57:decide (((l[k].toNat:Nat):Int)≤57)=true:=decide_eq_true (by omega)
      go_wp2_with fail
      go_meet
      exact ⟨by rw [hc.out],hG⟩
    ·have hc:=hid (letterC_no l[k] (by omega))
     rcases hs with h1 | ⟨h1,h2⟩ | ⟨h1,h2⟩ | h1
     ·have ddge97:decide (97≤((l[k].toNat:Nat):Int))=false:=decide_eq_false (by omega)
      have ddle122:decide (((l[k].toNat:Nat):Int)≤122)=true:=decide_eq_true (by omega)
      have ddge65:decide (65≤((l[k].toNat:Nat):Int))=false:=decide_eq_false (by omega)
      have ddle90:decide (((l[k].toNat:Nat):Int)≤90)=true:=decide_eq_true (by omega)
      have ddge48:decide (48≤((l[k].toNat:Nat):Int))=false:=decide_eq_false (by omega)
      have ddle57:decide (((l[k].toNat:Nat):Int)≤57)=true:=decide_eq_true (by omega)
      go_wp2_with fail
      go_meet
      exact ⟨by rw [hc.out],hG⟩
     ·have ddge97:decide (97≤((l[k].toNat:Nat):Int))=false:=decide_eq_false (by omega)
      have ddle122:decide (((l[k].toNat:Nat):Int)≤122)=true:=decide_eq_true (by omega)
      have ddge65:decide (65≤((l[k].toNat:Nat):Int))=false:=decide_eq_false (by omega)
      have ddle90:decide (((l[k].toNat:Nat):Int)≤90)=true:=decide_eq_true (by omega)
      have ddge48:decide (48≤((l[k].toNat:Nat):Int))=true:=decide_eq_true (by omega)
      have ddle57:decide (((l[k].toNat:Nat):Int)≤57)=false:=decide_eq_false (by omega)
      go_wp2_with fail
      go_meet
      exact ⟨by rw [hc.out],hG⟩
     ·have ddge97:decide (97≤((l[k].toNat:Nat):Int))=false:=decide_eq_false (by omega)
      have ddle122:decide (((l[k].toNat:Nat):Int)≤122)=true:=decide_eq_true (by omega)
      have ddge65:decide (65≤((l[k].toNat:Nat):Int))=true:=decide_eq_true (by omega)
      have ddle90:decide (((l[k].toNat:Nat):Int)≤90)=false:=decide_eq_false (by omega)
      have ddge48:decide (48≤((l[k].toNat:Nat):Int))=true:=decide_eq_true (by omega)
      have ddle57:decide (((l[k].toNat:Nat):Int)≤57)=false:=decide_eq_false (by omega)
      go_wp2_with fail
      go_meet
      exact ⟨by rw [hc.out],hG⟩
     ·have ddge97:decide (97≤((l[k].toNat:Nat):Int))=true:=decide_eq_true (by omega)
      have ddle122:decide (((l[k].toNat:Nat):Int)≤122)=false:=decide_eq_false (by omega)
      have ddge65:decide (65≤((l[k].toNat:Nat):Int))=true:=decide_eq_true (by omega)
      have ddle90:decide (((l[k].toNat:Nat):Int)≤90)=false:=decide_eq_false (by omega)
      have ddge48:decide (48≤((l[k].toNat:Nat):Int))=true:=decide_eq_true (by omega)
      have ddle57:decide (((l[k].toNat:Nat):Int)≤57)=false:=decide_eq_false (by omega)
      go_wp2_with fail
      go_meet
      exact ⟨by rw [hc.out],hG⟩
   case rest=>
    obtain ⟨rfl,hG2⟩:=hcut
    clear hs hG
    go_wp2_with fail
    have hcell:=hid (fun (j:Nat) (h:j < tokB.length)=>(World.cell?_alloc_mark wc (tokB.map fun b=>Value.int .u8 (b.toNat:Int)).toArray 5 (15,16) j).trans (tok_cells j h))
    have hG3:Gr w (wc.alloc (Obj.cells (tokB.map fun b=>Value.int .u8 (b.toNat:Int)).toArray 5 (15,16))):=Gr.al hG2 _
    generalize hw3:wc.alloc (Obj.cells (tokB.map fun b=>Value.int .u8 (b.toNat:Int)).toArray 5 (15,16))=w3 at hcell hG3
    change Code.wp _ _ _ _ (wc.alloc (Obj.cells (tokB.map fun b=>Value.int .u8 (b.toNat:Int)).toArray 5 (15,16)))
    rw [hw3];clear hw3
    go_loopw [5,7,42] (fun o x jv wr=>∃j:Nat,j≤15∧jv=.int .i64 j∧o=.bool (ndB l[k] j)∧wr=w3) (fun _ _ jv _=>15-(intOf jv).toNat)
    case atStart=>exact ⟨0,by omega,rfl,by rw [ndB_zero],rfl⟩
    case round=>
     obtain ⟨j,hj,rfl,rfl,rfl⟩:=hrel
     by_cases hjl:j < 15
     ·have hc:=hcell.out j hjl
      have hs:=hid (ndB_succ l[k] j hjl)
      cases h1:ndB l[k] j
      all_goals
       go_wp2_with fail
       exact ⟨⟨j+1,by omega,by go_num,by rw [hs.out,h1];simp,trivial⟩,by simp [intOf];omega⟩
     ·obtain rfl:j=15:=by omega
      rw [ndB_end]
      clear hcell
      cases h1:tokC l[k] with
      | true=>
        go_wp2_with fail
        exact ⟨⟨k+1,by omega,by go_num,hG3,all_take_succ _ l k hlt HE.out h1⟩,by simp [intOf];omega⟩
      | false=>
        go_wp2_with fail
        go_ret
        exact ⟨ret_bool (token_no hlt h1).symm,hG3⟩
  ·by_cases h0:0 < l.length
   ·have hd:decide (0 < (l.length:Int))=true:=by simp;omega
    have hd':decide (0 < l.length)=true:=by simp;omega
    go_wp2_with fail
    go_ret
    exact ⟨by rw [token_yes h0 hlt HE.out];simp,hG⟩
   ·have hn:l=[]:=List.eq_nil_of_length_eq_zero (by omega)
    subst hn
    go_wp2_with fail
    go_ret
    exact ⟨rfl,hG⟩
def LowRel (wr:World) (g:Nat) (l:List UInt8) (k:Nat):Prop:=
 (∀(j:Nat) (h:j < l.length),wr.cell? ⟨g,j,none⟩=some (.int .u8 ((if j < k then lowN l[j] else l[j]).toNat:Int)))∧∀j,j < l.length→wr.frozen? ⟨g,j,none⟩=false
theorem LowRel.start (w:World) (t:TypeId) (l:List UInt8) (cap:Nat) (n:Nat) (hn:l.length≤n):LowRel (w.alloc (.cells (bytesRow ⟨l.toArray⟩ cap) t (n,n+1))) w.heap.size l 0:=by
 refine ⟨fun j h=>?_,fun j h=>?_⟩
 ·rw [World.cell?_alloc_mark]
  simp [bytesRow,Array.getElem?_append,h]
 ·exact (Bk.new w t _ (n,n+1)).free j (.inl (by simp only;omega))
theorem LowRel.step {wr:World} {g:Nat} {l:List UInt8} {k:Nat} (h:LowRel wr g l k) (hk:k < l.length):LowRel (wr.setCell ⟨g,k,none⟩ (.int .u8 ((lowN l[k]).toNat:Int))) g l (k+1):=by
 refine ⟨fun j hj=>?_,fun j hj=>by rw [World.frozen?_setCell];exact h.2 j hj⟩
 by_cases e:j=k
 ·subst e
  rw [World.cell?_setCell_same _ _ _ (h.1 j hj),if_pos (by omega)]
 ·rw [World.cell?_setCell_other _ _ _ _ (h:=by intro hh;apply e;injection hh with _ h2;exact h2.symm),h.1 j hj]
  by_cases e2:j < k
  ·rw [if_pos e2,if_pos (by omega)]
  ·rw [if_neg e2,if_neg (by omega)]
theorem LowRel.same {wr:World} {g:Nat} {l:List UInt8} {k:Nat} (h:LowRel wr g l k) (hk:k < l.length) (hs:(l[k].toNat:Int)=((lowN l[k]).toNat:Int)):LowRel wr g l (k+1):=by
 refine ⟨fun j hj=>?_,h.2⟩
 rw [h.1 j hj]
 by_cases e:j=k
 ·subst e
  rw [if_neg (by omega),if_pos (by omega),hs]
 ·by_cases e2:j < k
  ·rw [if_pos e2,if_pos (by omega)]
  ·rw [if_neg e2,if_neg (by omega)]
set_option maxHeartbeats 1000000 in
theorem refLow_any (l:List UInt8) (w:World) (_hl:l.length≤9223372036854775800):Calls Tryz.prog 105 #[str l] w fun e w'=>e=.returned (str (low l))∧Gr w w':=by
 have hcv:=fun (w:World) (s:ByteArray)=>run_bytes_of_string (P:=Tryz.prog) w 9 30 5 s Tryz.underlying9 Tryz.underlying30 Tryz.underlying5
 have HR:=hid (fun (wr:World) (cap:Nat) (h:LowRel wr w.heap.size l l.length)=>run_convert_bytes_back (P:=Tryz.prog) wr 30 9 5 ⟨w.heap.size,0,none⟩ cap (low l) Tryz.underlying30 Tryz.underlying5 Tryz.underlying9 (fun j hj=>by
  have hj':j < l.length:=by rwa [low_len] at hj
  have:=h.1 j hj'
  rw [if_pos hj'] at this
  have e:(Addr.mk w.heap.size 0 none).add j=⟨w.heap.size,j,none⟩:=by unfold Addr.add;split <;> simp_all
  rw [e,this];simp [low]))
 go_enter Tryz.func105,Tryz.ntmps105
 go_wp2_with fail
 generalize hcap:grownCap w l.length 0 5=cap
 have hst:=LowRel.start w 5 l cap (bytesRow ⟨l.toArray⟩ cap).size (by simp [bytesRow])
 clear hcap
 go_loopw [4,9] (fun x i wr=>∃k:Nat,k≤l.length∧i=.int .i64 k∧Gr w wr∧LowRel wr w.heap.size l k) (fun _ i _=>l.length-(intOf i).toNat)
 case atStart=>exact ⟨0,Nat.zero_le _,rfl,Gr.dr (Gr.al (Gr.refl w) _),hst⟩
 case round=>
  clear hcv hst
  obtain ⟨k,hk,rfl,hG,hE⟩:=hrel
  have HE:=hid hE;clear hE
  by_cases hlt:k < l.length
  ·have hc:=HE.out.1 k hlt
   rw [if_neg (by omega)] at hc
   have hf:=HE.out.2 k hlt
   by_cases h1:65≤(l[k].toNat:Int)
   ·by_cases h2:(l[k].toNat:Int)≤90
    ·have e:=hid (show (l[k].toNat:Int)+32=((lowN l[k]).toNat:Int) from by rw [←lowN_up _ h1 h2];omega)
     have ddge65:decide (65≤((l[k].toNat:Nat):Int))=true:=decide_eq_true (by omega)
     have ddle90:decide (((l[k].toNat:Nat):Int)≤90)=true:=decide_eq_true (by omega)
     go_wp2_with fail
     exact ⟨⟨k+1,by omega,by go_num,Gr.st hG (Nat.le_refl _) _,by rw [e.out];exact HE.out.step hlt⟩,by simp [intOf];omega⟩
    ·have e:=hid (lowN_no l[k] (by omega))
     have hx:(l[k].toNat:Int)≤255:=by have:=l[k].toNat_lt;omega
     have ddge65:decide (65≤((l[k].toNat:Nat):Int))=true:=decide_eq_true (by omega)
     have ddle90:decide (((l[k].toNat:Nat):Int)≤90)=false:=decide_eq_false (by omega)
     go_wp2_with fail
     exact ⟨⟨k+1,by omega,by go_num,hG,HE.out.same hlt e.out⟩,by simp [intOf];omega⟩
   ·have e:=hid (lowN_no l[k] (by omega))
    have ddge65:decide (65≤((l[k].toNat:Nat):Int))=false:=decide_eq_false (by omega)
    have ddle90:decide (((l[k].toNat:Nat):Int)≤90)=true:=decide_eq_true (by omega)
    go_wp2_with fail
    exact ⟨⟨k+1,by omega,by go_num,hG,HE.out.same hlt e.out⟩,by simp [intOf];omega⟩
  ·obtain rfl:k=l.length:=by omega
   have hr:=HR.out wr cap HE.out
   simp only [low_len] at hr
   go_wp2_with fail
   go_ret
   exact ⟨rfl,hG⟩
set_option maxHeartbeats 1000000 in
theorem refAlike_any (a b:List UInt8) (w:World) (_ha:a.length≤9223372036854775800)  (_hb:b.length≤9223372036854775800) :
  Calls Tryz.prog 77 #[str a,str b] w fun e w'=>e=.returned (.bool (alike a b))∧Gr w w':=by
 go_enter Tryz.func77,Tryz.ntmps77
 go_wp2_with fail
 refine (refLow_any _ _ (by omega)).mono ?_;rintro e w1 ⟨rfl,hG1⟩
 go_wp2_with fail
 refine (refLow_any _ _ (by omega)).mono ?_;rintro e w2 ⟨rfl,hG2⟩
 go_wp2_with fail
 go_ret
 exact ⟨rfl,Gr.tr hG1 hG2⟩
end Go.Proofs.YtgfckbhkgggkeaaGreatDoor
/- XField3 -/
namespace Go.Proofs.YtgfckbhkgggkeaaGreatDoor
open Lib (hid)
open Go.RowKit
theorem trim_any (l:List UInt8) (w:World) (_hl:l.length≤9223372036854775807):Calls Tryz.prog 141 #[str l,.string ⟨#[32,9]⟩] w fun e w'=>e=.returned (str (trim l))∧Gr w w':=
 Tryz.strings_Trim_ascii ⟨l.toArray⟩ ⟨#[32,9]⟩ w _hl (by decide) (ascii_of_all (by decide))
theorem box2 (w:World) (a b:Value) (t:TypeId):Gr w (w.alloc (Obj.cells #[a,b] t))∧(w.alloc (Obj.cells #[a,b] t)).cell? ⟨w.heap.size,0,none⟩=some a∧(w.alloc (Obj.cells #[a,b] t)).cell? ⟨w.heap.size,1,none⟩=some b:=
 ⟨Gr.al (Gr.refl w) _,by simp,by simp⟩
set_option maxHeartbeats 1000000 in
theorem right_any (n v:List UInt8) (w:World) (_hn:n.length≤9223372036854775800) (_hv:v.length≤9223372036854775800) :
  Calls Tryz.prog 127 #[.agg #[str n,str v]] w fun e w'=>e=.returned (.bool (right (n,v)))∧Gr w w':=by
 obtain ⟨hG0,c0,c1⟩:=box2 w (str n) (str v) 90
 by_cases h1:n.length≤200
 ·have d1:decide (200 < (n.length:Int))=false:=decide_eq_false (by omega)
  by_cases h2:v.length≤8192
  ·have d2:decide (8192 < (v.length:Int))=false:=decide_eq_false (by omega)
   cases h3:token n with
   | true=>
     cases h4:(trim v==v) with
     | true=>
       have HR:=hid (right_rest h3 h1 h2 h4)
       go_enter Tryz.func127,Tryz.ntmps127
       go_upto_region 1 with fail
       generalize w.alloc (Obj.cells #[str n,str v] 90)=w0 at *
       go_wp2_with (go_at_call 151;refine (token_any _ _ (by omega)).mono ?_;rintro e w1 ⟨rfl,hG1⟩;have c0:=Gr.cell hG1 c0;have c1:=Gr.cell hG1 c1)
       have hq1:=fun i=>Gr.cell (gw_gr w1 i) c1
       refine wp_region_gw (by kernel_rfl) (by kernel_rfl) ?_
       repeat (first | go_big_quiet_step ((go_at_call 141;exact gw_call (trim_any _ _ (by omega)))) | quiet_step ((go_at_call 141;exact gw_call (trim_any _ _ (by omega)))))
       refine wpQuiet_nil ?_;intro wq hwq;obtain ⟨iq,rfl⟩:=hwq
       have hG2:=Gr.tr (Gr.tr hG0 hG1) (gw_gr w1 iq)
       have c1':=Gr.cell (gw_gr w1 iq) c1
       generalize gw w1 iq=w2 at *
       clear iq hq1 hG0 hG1 c1 c0
       go_wp2_with fail
       go_loop [2,3,4,30] (fun r x y i=>∃k:Nat,k≤v.length∧i=.int .i64 k∧(v.take k).all visC=true) (fun _ _ _ i=>v.length-(intOf i).toNat)
       case atStart=>exact ⟨0,Nat.zero_le _,rfl,rfl⟩
       case round=>
        obtain ⟨k,hk,rfl,hE⟩:=hrel
        have HE:=hid hE;clear hE
        by_cases hlt:k < v.length
        ·have hs:((v[k].toNat:Int) < 9∨(9 < (v[k].toNat:Int)∧(v[k].toNat:Int) < 32)∨126 < (v[k].toNat:Int))∨((v[k].toNat:Int)=9∨(32≤(v[k].toNat:Int)∧(v[k].toNat:Int)≤126)):=by omega
         have hx:(v[k].toNat:Int)≤255:=by have:=v[k].toNat_lt;omega
         rcases hs with hs | hs
         ·have hc:=hid (visC_no v[k] (by omega))
          rcases hs with h | ⟨h,h'⟩ | h
          ·have ddlt32:decide (((v[k].toNat:Nat):Int) < 32)=true:=decide_eq_true (by omega)
           have ddgt126:decide (126 < ((v[k].toNat:Nat):Int))=false:=decide_eq_false (by omega)
           have ddne9:(((v[k].toNat:Nat):Int) != 9)=true:=by simp;omega
           go_wp2_with fail
           go_ret
           exact ⟨ret_bool (by rw [HR.out,all_no _ _ _ hlt hc.out]),hG2⟩
          ·have ddlt32:decide (((v[k].toNat:Nat):Int) < 32)=true:=decide_eq_true (by omega)
           have ddgt126:decide (126 < ((v[k].toNat:Nat):Int))=false:=decide_eq_false (by omega)
           have ddne9:(((v[k].toNat:Nat):Int) != 9)=true:=by simp;omega
           go_wp2_with fail
           go_ret
           exact ⟨ret_bool (by rw [HR.out,all_no _ _ _ hlt hc.out]),hG2⟩
          ·have ddlt32:decide (((v[k].toNat:Nat):Int) < 32)=false:=decide_eq_false (by omega)
           have ddgt126:decide (126 < ((v[k].toNat:Nat):Int))=true:=decide_eq_true (by omega)
           have ddne9:(((v[k].toNat:Nat):Int) != 9)=true:=by simp;omega
           go_wp2_with fail
           go_ret
           exact ⟨ret_bool (by rw [HR.out,all_no _ _ _ hlt hc.out]),hG2⟩
         ·have hc:=hid (visC_yes v[k] (by omega))
          rcases hs with h | ⟨h,h'⟩
          ·have ddlt32:decide (((v[k].toNat:Nat):Int) < 32)=true:=decide_eq_true (by omega)
           have ddgt126:decide (126 < ((v[k].toNat:Nat):Int))=false:=decide_eq_false (by omega)
           have ddne9:(((v[k].toNat:Nat):Int) != 9)=false:=by simp;omega
           clear h
           go_wp2_with fail
           exact ⟨⟨k+1,by omega,by go_num,all_take_succ _ v k hlt HE.out hc.out⟩,by simp [intOf];omega⟩
          ·have ddlt32:decide (((v[k].toNat:Nat):Int) < 32)=false:=decide_eq_false (by omega)
           have ddgt126:decide (126 < ((v[k].toNat:Nat):Int))=false:=decide_eq_false (by omega)
           have ddne9:(((v[k].toNat:Nat):Int) != 9)=true:=by simp;omega
           go_wp2_with fail
           exact ⟨⟨k+1,by omega,by go_num,all_take_succ _ v k hlt HE.out hc.out⟩,by simp [intOf];omega⟩
        ·go_wp2_with fail
         go_ret
         exact ⟨ret_bool (by rw [HR.out,all_end _ _ _ hlt HE.out]),hG2⟩
     | false=>
       have HR:=hid (right_head (n:=n) (v:=v) (fun h=>by simp [h4] at h))
       go_enter Tryz.func127,Tryz.ntmps127
       go_upto_region 1 with fail
       generalize w.alloc (Obj.cells #[str n,str v] 90)=w0 at *
       go_wp2_with (go_at_call 151;refine (token_any _ _ (by omega)).mono ?_;rintro e w1 ⟨rfl,hG1⟩;have c0:=Gr.cell hG1 c0;have c1:=Gr.cell hG1 c1)
       have hq1:=fun i=>Gr.cell (gw_gr w1 i) c1
       refine wp_region_gw (by kernel_rfl) (by kernel_rfl) ?_
       repeat (first | go_big_quiet_step ((go_at_call 141;exact gw_call (trim_any _ _ (by omega)))) | quiet_step ((go_at_call 141;exact gw_call (trim_any _ _ (by omega)))))
       refine wpQuiet_nil ?_;intro wq hwq;obtain ⟨iq,rfl⟩:=hwq
       have hG2:=Gr.tr (Gr.tr hG0 hG1) (gw_gr w1 iq)
       generalize gw w1 iq=w2 at *
       go_wp2_with fail
       go_ret
       exact ⟨ret_bool HR.out.symm,hG2⟩
   | false=>
     have HR:=hid (right_head (n:=n) (v:=v) (fun h=>by simp [h3] at h))
     go_enter Tryz.func127,Tryz.ntmps127
     go_upto_region 1 with fail
     generalize w.alloc (Obj.cells #[str n,str v] 90)=w0 at *
     go_wp2_with (go_at_call 151;refine (token_any _ _ (by omega)).mono ?_;rintro e w1 ⟨rfl,hG1⟩)
     go_ret
     exact ⟨ret_bool HR.out.symm,Gr.tr hG0 hG1⟩
  ·have d2:decide (8192 < (v.length:Int))=true:=decide_eq_true (by omega)
   have HR:=hid (right_head (n:=n) (v:=v) (fun h=>h2 h.2.2.1))
   go_enter Tryz.func127,Tryz.ntmps127
   go_upto_region 1 with fail
   generalize w.alloc (Obj.cells #[str n,str v] 90)=w0 at *
   go_wp2_with fail
   go_ret
   exact ⟨ret_bool HR.out.symm,hG0⟩
 ·have d1:decide (200 < (n.length:Int))=true:=decide_eq_true (by omega)
  have HR:=hid (right_head (n:=n) (v:=v) (fun h=>h1 h.2.1))
  go_enter Tryz.func127,Tryz.ntmps127
  go_upto_region 1 with fail
  generalize w.alloc (Obj.cells #[str n,str v] 90)=w0 at *
  go_wp2_with fail
  go_ret
  exact ⟨ret_bool HR.out.symm,hG0⟩
set_option maxHeartbeats 2000000 in
theorem refRight_any (n v:List UInt8) (w:World) (_hn:n.length≤9223372036854775800) (_hv:v.length≤9223372036854775800) :
  Calls Tryz.prog 81 #[.agg #[str n,str v]] w fun e w'=>e=.returned (.bool (right (n,v)))∧Gr w w':=by
 obtain ⟨hG0,c0,c1⟩:=box2 w (str n) (str v) 90
 cases h3:token n with
 | true=>
   by_cases h1:n.length≤200
   ·have d1:decide (200 < (n.length:Int))=false:=decide_eq_false (by omega)
    by_cases h2:v.length≤8192
    ·have d2:decide (8192 < (v.length:Int))=false:=decide_eq_false (by omega)
     cases h4:(trim v==v) with
     | true=>
       have HR:=hid (right_rest h3 h1 h2 h4)
       go_enter Tryz.func81,Tryz.ntmps81
       go_upto_region 1 with fail
       generalize w.alloc (Obj.cells #[str n,str v] 90)=w0 at *
       have hq0:=fun i=>Gr.cell (gw_gr w0 i) c0
       have hq1:=fun i=>Gr.cell (gw_gr w0 i) c1
       refine wp_region_gw (by kernel_rfl) (by kernel_rfl) ?_
       repeat (first | go_big_quiet_step ((first | (go_at_call 108;exact gw_call (refToken_any _ _ (by omega))) | (go_at_call 109;exact gw_call (refTrim_any _ _ (by omega))))) | quiet_step ((first | (go_at_call 108;exact gw_call (refToken_any _ _ (by omega))) | (go_at_call 109;exact gw_call (refTrim_any _ _ (by omega))))))
       refine wpQuiet_nil ?_;intro wq hwq;obtain ⟨iq,rfl⟩:=hwq
       have hG2:=Gr.tr hG0 (gw_gr w0 iq)
       have c1':=Gr.cell (gw_gr w0 iq) c1
       generalize gw w0 iq=w2 at *
       clear iq hq1 hq0 hG0 c1 c0
       go_wp2_with fail
       go_loop [2,3] (fun r i=>∃k:Nat,k≤v.length∧i=.int .i64 k∧(v.take k).all visC=true) (fun _ i=>v.length-(intOf i).toNat)
       case atStart=>exact ⟨0,Nat.zero_le _,rfl,rfl⟩
       case round=>
        obtain ⟨k,hk,rfl,hE⟩:=hrel
        have HE:=hid hE;clear hE
        by_cases hlt:k < v.length
        ·have hs:((v[k].toNat:Int) < 9∨(9 < (v[k].toNat:Int)∧(v[k].toNat:Int) < 32)∨126 < (v[k].toNat:Int))∨((v[k].toNat:Int)=9∨(32≤(v[k].toNat:Int)∧(v[k].toNat:Int)≤126)):=by omega
         have hx:(v[k].toNat:Int)≤255:=by have:=v[k].toNat_lt;omega
         rcases hs with hs | hs
         ·have hc:=hid (visC_no v[k] (by omega))
          rcases hs with h | ⟨h,h'⟩ | h
          ·have ddlt32:decide (((v[k].toNat:Nat):Int) < 32)=true:=decide_eq_true (by omega)
           have ddgt126:decide (126 < ((v[k].toNat:Nat):Int))=false:=decide_eq_false (by omega)
           have ddne9:(((v[k].toNat:Nat):Int) != 9)=true:=by simp;omega
           go_wp2_with fail
           go_ret
           exact ⟨ret_bool (by rw [HR.out,all_no _ _ _ hlt hc.out]),hG2⟩
          ·have ddlt32:decide (((v[k].toNat:Nat):Int) < 32)=true:=decide_eq_true (by omega)
           have ddgt126:decide (126 < ((v[k].toNat:Nat):Int))=false:=decide_eq_false (by omega)
           have ddne9:(((v[k].toNat:Nat):Int) != 9)=true:=by simp;omega
           go_wp2_with fail
           go_ret
           exact ⟨ret_bool (by rw [HR.out,all_no _ _ _ hlt hc.out]),hG2⟩
          ·have ddlt32:decide (((v[k].toNat:Nat):Int) < 32)=false:=decide_eq_false (by omega)
           have ddgt126:decide (126 < ((v[k].toNat:Nat):Int))=true:=decide_eq_true (by omega)
           have ddne9:(((v[k].toNat:Nat):Int) != 9)=true:=by simp;omega
           go_wp2_with fail
           go_ret
           exact ⟨ret_bool (by rw [HR.out,all_no _ _ _ hlt hc.out]),hG2⟩
         ·have hc:=hid (visC_yes v[k] (by omega))
          rcases hs with h | ⟨h,h'⟩
          ·have ddlt32:decide (((v[k].toNat:Nat):Int) < 32)=true:=decide_eq_true (by omega)
           have ddgt126:decide (126 < ((v[k].toNat:Nat):Int))=false:=decide_eq_false (by omega)
           have ddne9:(((v[k].toNat:Nat):Int) != 9)=false:=by simp;omega
           clear h
           go_wp2_with fail
           exact ⟨⟨k+1,by omega,by go_num,all_take_succ _ v k hlt HE.out hc.out⟩,by simp [intOf];omega⟩
          ·have ddlt32:decide (((v[k].toNat:Nat):Int) < 32)=false:=decide_eq_false (by omega)
           have ddgt126:decide (126 < ((v[k].toNat:Nat):Int))=false:=decide_eq_false (by omega)
           have ddne9:(((v[k].toNat:Nat):Int) != 9)=true:=by simp;omega
           go_wp2_with fail
           exact ⟨⟨k+1,by omega,by go_num,all_take_succ _ v k hlt HE.out hc.out⟩,by simp [intOf];omega⟩
        ·go_wp2_with fail
         go_ret
         exact ⟨ret_bool (by rw [HR.out,all_end _ _ _ hlt HE.out]),hG2⟩
     | false=>
       have HR:=hid (right_head (n:=n) (v:=v) (fun h=>by simp [h4] at h))
       go_enter Tryz.func81,Tryz.ntmps81
       go_upto_region 1 with fail
       generalize w.alloc (Obj.cells #[str n,str v] 90)=w0 at *
       have hq0:=fun i=>Gr.cell (gw_gr w0 i) c0
       have hq1:=fun i=>Gr.cell (gw_gr w0 i) c1
       refine wp_region_gw (by kernel_rfl) (by kernel_rfl) ?_
       repeat (first | go_big_quiet_step ((first | (go_at_call 108;exact gw_call (refToken_any _ _ (by omega))) | (go_at_call 109;exact gw_call (refTrim_any _ _ (by omega))))) | quiet_step ((first | (go_at_call 108;exact gw_call (refToken_any _ _ (by omega))) | (go_at_call 109;exact gw_call (refTrim_any _ _ (by omega))))))
       refine wpQuiet_nil ?_;intro wq hwq;obtain ⟨iq,rfl⟩:=hwq
       have hG2:=Gr.tr hG0 (gw_gr w0 iq)
       generalize gw w0 iq=w2 at *
       go_wp2_with fail
       go_ret
       exact ⟨ret_bool HR.out.symm,hG2⟩
    ·have d2:decide (8192 < (v.length:Int))=true:=decide_eq_true (by omega)
     have HR:=hid (right_head (n:=n) (v:=v) (fun h=>h2 h.2.2.1))
     go_enter Tryz.func81,Tryz.ntmps81
     go_upto_region 1 with fail
     generalize w.alloc (Obj.cells #[str n,str v] 90)=w0 at *
     have hq0:=fun i=>Gr.cell (gw_gr w0 i) c0
     have hq1:=fun i=>Gr.cell (gw_gr w0 i) c1
     refine wp_region_gw (by kernel_rfl) (by kernel_rfl) ?_
     repeat (first | go_big_quiet_step ((first | (go_at_call 108;exact gw_call (refToken_any _ _ (by omega))) | (go_at_call 109;exact gw_call (refTrim_any _ _ (by omega))))) | quiet_step ((first | (go_at_call 108;exact gw_call (refToken_any _ _ (by omega))) | (go_at_call 109;exact gw_call (refTrim_any _ _ (by omega))))))
     refine wpQuiet_nil ?_;intro wq hwq;obtain ⟨iq,rfl⟩:=hwq
     have hG2:=Gr.tr hG0 (gw_gr w0 iq)
     generalize gw w0 iq=w2 at *
     go_wp2_with fail
     go_ret
     exact ⟨ret_bool HR.out.symm,hG2⟩
   ·have d1:decide (200 < (n.length:Int))=true:=decide_eq_true (by omega)
    have HR:=hid (right_head (n:=n) (v:=v) (fun h=>h1 h.2.1))
    go_enter Tryz.func81,Tryz.ntmps81
    go_upto_region 1 with fail
    generalize w.alloc (Obj.cells #[str n,str v] 90)=w0 at *
    have hq0:=fun i=>Gr.cell (gw_gr w0 i) c0
    have hq1:=fun i=>Gr.cell (gw_gr w0 i) c1
    refine wp_region_gw (by kernel_rfl) (by kernel_rfl) ?_
    repeat (first | go_big_quiet_step ((first | (go_at_call 108;exact gw_call (refToken_any _ _ (by omega))) | (go_at_call 109;exact gw_call (refTrim_any _ _ (by omega))))) | quiet_step ((first | (go_at_call 108;exact gw_call (refToken_any _ _ (by omega))) | (go_at_call 109;exact gw_call (refTrim_any _ _ (by omega))))))
    refine wpQuiet_nil ?_;intro wq hwq;obtain ⟨iq,rfl⟩:=hwq
    have hG2:=Gr.tr hG0 (gw_gr w0 iq)
    generalize gw w0 iq=w2 at *
    go_wp2_with fail
    go_ret
    exact ⟨ret_bool HR.out.symm,hG2⟩
 | false=>
   have HR:=hid (right_head (n:=n) (v:=v) (fun h=>by simp [h3] at h))
   go_enter Tryz.func81,Tryz.ntmps81
   go_upto_region 1 with fail
   generalize w.alloc (Obj.cells #[str n,str v] 90)=w0 at *
   have hq0:=fun i=>Gr.cell (gw_gr w0 i) c0
   have hq1:=fun i=>Gr.cell (gw_gr w0 i) c1
   refine wp_region_gw (by kernel_rfl) (by kernel_rfl) ?_
   repeat (first | go_big_quiet_step ((first | (go_at_call 108;exact gw_call (refToken_any _ _ (by omega))) | (go_at_call 109;exact gw_call (refTrim_any _ _ (by omega))))) | quiet_step ((first | (go_at_call 108;exact gw_call (refToken_any _ _ (by omega))) | (go_at_call 109;exact gw_call (refTrim_any _ _ (by omega))))))
   refine wpQuiet_nil ?_;intro wq hwq;obtain ⟨iq,rfl⟩:=hwq
   have hG2:=Gr.tr hG0 (gw_gr w0 iq)
   generalize gw w0 iq=w2 at *
   go_wp2_with fail
   go_ret
   exact ⟨ret_bool HR.out.symm,hG2⟩
end Go.Proofs.YtgfckbhkgggkeaaGreatDoor
