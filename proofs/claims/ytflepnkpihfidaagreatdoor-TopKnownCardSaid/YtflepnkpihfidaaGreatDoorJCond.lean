/- Parts. No conditions but those that each theorem names. -/
import Derived.Test.YtflepnkpihfidaaGreatDoorJReq
import Derived.Test.YtflepnkpihfidaaGreatDoorJTag
import Derived.Test.YtflepnkpihfidaaGreatDoorJDate2
import Derived.Test.YtflepnkpihfidaaGreatDoorJField2
set_option linter.unusedVariables false
set_option linter.unusedSimpArgs false
namespace Go.Proofs.YtflepnkpihfidaaGreatDoor
open Lib (hid)
open Go.RowKit
def condV (c:CondT) (vm vn:Value):Value:=.agg #[vm,vn,.bool c.am,.bool c.an,.int .i64 c.si,.int .i64 c.un,str c.rg.1,.bool c.rg.2]
theorem listB_any {l:List TagT} (h:l≠[]):listB l true=false:=by
 unfold listB
 cases l with
 | nil=>exact absurd rfl h
 | cons a t=>simp
theorem listB_many {l:List TagT} {any:Bool} (h:32 < l.length):listB l any=false:=by
 unfold listB;rw [decide_eq_false (by omega)];simp
theorem listB_bad {l:List TagT} {any:Bool} {k:Nat} (hk:k < l.length) (h:tagB l[k].1=false):listB l any=false:=by
 unfold listB
 have:l.all (fun t=>tagB t.1)=false:=by
  cases ha:l.all (fun t=>tagB t.1) with
  | false=>rfl
  | true=>
    have:=(List.all_eq_true.1 ha) _ (List.getElem_mem hk)
    rw [h] at this;cases this
 rw [this];simp
theorem listB_good {l:List TagT} {any:Bool} (h:¬32 < l.length) (ha:any=false∨l=[]) (hE:l.all (fun t=>tagB t.1)=true):listB l any=true:=by
 unfold listB
 rw [hE,decide_eq_true (by omega)]
 rcases ha with rfl | rfl <;> simp
set_option maxHeartbeats 2000000 in
theorem condList_any (u:Value) (l:List TagT) (any:Bool) (w:World) (hu:Tags w u l) (hs:ShortT l) (_hl:l.length≤1000000):Calls Tryz.prog 160 #[u,.bool any] w fun e w'=>e=.returned (.bool (listB l any))∧Gr w w':=by
 obtain ⟨A,c,rfl,hc,hx,hA⟩:=hu.open
 have HA:=hid hA;have HS:=hid hs;clear hA hu hs
 by_cases h32:32 < l.length
 ·have d1:decide (32 < (l.length:Int))=true:=decide_eq_true (by omega)
  have HN:=hid (listB_many (any:=any) h32)
  go_enter Tryz.func160,Tryz.ntmps160
  go_wp2_with fail
  go_ret
  exact ⟨ret_bool HN.out.symm,Gr.refl _⟩
 ·have d1:decide (32 < (l.length:Int))=false:=decide_eq_false (by omega)
  by_cases hb:any=true∧l≠[]
  ·obtain ⟨rfl,hne⟩:=hb
   have hp:=List.length_pos_iff.2 hne
   have d2:decide (0 < (l.length:Int))=true:=decide_eq_true (by omega)
   have HN:=hid (listB_any hne)
   clear hne
   go_enter Tryz.func160,Tryz.ntmps160
   go_wp2_with fail
   go_ret
   exact ⟨ret_bool HN.out.symm,Gr.refl _⟩
  ·have HAN:=hid (show any=false∨l=[] from by
    cases any with
    | false=>exact .inl rfl
    | true=>
      right
      apply Classical.byContradiction
      intro h;exact hb ⟨rfl,h⟩)
   have HLP:=hid (fun (h:any=true)=>show l.length=0 from by
    rcases HAN.out with h2 | h2
    ·rw [h] at h2;cases h2
    ·rw [h2];rfl)
   have H32:=hid h32
   clear hb h32
   go_enter Tryz.func160,Tryz.ntmps160
   cases any with
   | false=>
     go_upto_region 4 with fail
     go_loopw [6,20] (fun x i wr=>∃k:Nat,k≤l.length∧i=.int .i64 k∧Gr w wr∧(l.take k).all (fun t=>tagB t.1)=true) (fun _ i _=>l.length-(intOf i).toNat)
     case atStart=>exact ⟨0,Nat.zero_le _,rfl,Gr.refl _,rfl⟩
     case round=>
      obtain ⟨k,hk,rfl,hG,hE⟩:=hrel
      have HE:=hid hE;clear hE
      by_cases hlt:k < l.length
      ·obtain ⟨b1,o1,rfl,hb1,p0,p1⟩:=HA.out k hlt
       have hsx:=HS.out _ (List.getElem_mem hlt)
       have p0:=Gr.cell hG p0;have p1:=Gr.cell hG p1
       have HR:=hid (fun (w:World)=>tagRight_any l[k].1 l[k].2 w (by omega))
       have HGa:=hid (Gr.al hG (Obj.cells #[str l[k].1,.bool l[k].2] 25))
       cases hr:tagB l[k].1 with
       | false=>
         rw [hr] at HR
         have HN:=hid (listB_bad (any:=false) hlt hr)
         clear hr
         go_wp2_with (go_at_call 56;refine (HR.out _).mono ?_;rintro e w1 ⟨rfl,hG1⟩)
         go_ret
         exact ⟨ret_bool HN.out.symm,Gr.tr HGa.out hG1⟩
       | true=>
         rw [hr] at HR
         have HN:=hid (all_take_succ (fun t:TagT=>tagB t.1) l k hlt HE.out hr)
         clear hr
         go_wp2_with (go_at_call 56;refine (HR.out _).mono ?_;rintro e w1 ⟨rfl,hG1⟩)
         exact ⟨⟨k+1,by omega,by go_num,Gr.tr HGa.out hG1,HN.out⟩,by simp [intOf];omega⟩
      ·have HE:=hid (show l.all (fun t=>tagB t.1)=true from by have:=HE.out;rwa [List.take_of_length_le (by omega)] at this)
       have HN:=hid (listB_good (any:=false) H32.out (.inl rfl) HE.out)
       go_wp2_with fail
       go_ret
       exact ⟨ret_bool HN.out.symm,hG⟩
   | true=>
     have hl0:=HLP.out rfl
     have d2:decide (0 < (l.length:Int))=false:=decide_eq_false (by omega)
     have HN:=hid (show listB l true=true from listB_good H32.out HAN.out (by rw [List.eq_nil_of_length_eq_zero hl0];rfl))
     have hl0':l.length≤0:=by omega
     clear hl0
     go_upto_region 4 with fail
     go_loopw [6,20] (fun x i wr=>∃k:Nat,k≤l.length∧i=.int .i64 k∧Gr w wr) (fun _ i _=>l.length-(intOf i).toNat)
     case atStart=>exact ⟨0,Nat.zero_le _,rfl,Gr.refl _⟩
     case round=>
      obtain ⟨k,hk,rfl,hG⟩:=hrel
      have hlt:¬k < l.length:=by omega
      go_wp2_with fail
      go_ret
      exact ⟨ret_bool HN.out.symm,hG⟩
def tagsB (l:List TagT):Bool:=decide (l.length≤32)&&l.all (fun t=>tagB t.1)
theorem tagsB_bad {l:List TagT} {k:Nat} (hk:k < l.length) (h:tagB l[k].1=false):tagsB l=false:=by
 unfold tagsB
 have:l.all (fun t=>tagB t.1)=false:=by
  cases ha:l.all (fun t=>tagB t.1) with
  | false=>rfl
  | true=>
    have:=(List.all_eq_true.1 ha) _ (List.getElem_mem hk)
    rw [h] at this;cases this
 rw [this];simp
theorem tagsB_good {l:List TagT} (hE:l.all (fun t=>tagB t.1)=true):tagsB l=decide (l.length≤32):=by unfold tagsB;rw [hE];simp
theorem listB_tags {l:List TagT} {any:Bool} (h:any=false∨l=[]):listB l any=tagsB l:=by
 unfold listB tagsB
 rcases h with rfl | rfl <;> simp
set_option maxHeartbeats 2000000 in
theorem refCondTags_any (u:Value) (l:List TagT) (w:World) (hu:Tags w u l) (hs:ShortT l) (_hl:l.length≤1000000):Calls Tryz.prog 97 #[u] w fun e w'=>e=.returned (.bool (tagsB l))∧Gr w w':=by
 obtain ⟨A,c,rfl,hc,hx,hA⟩:=hu.open
 have HA:=hid hA;have HS:=hid hs;clear hA hu hs
 go_enter Tryz.func97,Tryz.ntmps97
 go_upto_region 2 with fail
 go_loopw [4,7] (fun x i wr=>∃k:Nat,k≤l.length∧i=.int .i64 k∧Gr w wr∧(l.take k).all (fun t=>tagB t.1)=true) (fun _ i _=>l.length-(intOf i).toNat)
 case atStart=>exact ⟨0,Nat.zero_le _,rfl,Gr.refl _,rfl⟩
 case round=>
  obtain ⟨k,hk,rfl,hG,hE⟩:=hrel
  have HE:=hid hE;clear hE
  by_cases hlt:k < l.length
  ·obtain ⟨b1,o1,rfl,hb1,p0,p1⟩:=HA.out k hlt
   have hsx:=HS.out _ (List.getElem_mem hlt)
   have p0:=Gr.cell hG p0;have p1:=Gr.cell hG p1
   have HR:=hid (fun (w:World)=>refTagRight_any l[k].1 l[k].2 w (by omega))
   have HGa:=hid (Gr.al hG (Obj.cells #[str l[k].1,.bool l[k].2] 25))
   cases hr:tagB l[k].1 with
   | false=>
     rw [hr] at HR
     have HN:=hid (tagsB_bad hlt hr)
     clear hr
     go_wp2_with (go_at_call 100;refine (HR.out _).mono ?_;rintro e w1 ⟨rfl,hG1⟩)
     go_ret
     exact ⟨ret_bool HN.out.symm,Gr.tr HGa.out hG1⟩
   | true=>
     rw [hr] at HR
     have HN:=hid (all_take_succ (fun t:TagT=>tagB t.1) l k hlt HE.out hr)
     clear hr
     go_wp2_with (go_at_call 100;refine (HR.out _).mono ?_;rintro e w1 ⟨rfl,hG1⟩)
     exact ⟨⟨k+1,by omega,by go_num,Gr.tr HGa.out hG1,HN.out⟩,by simp [intOf];omega⟩
  ·have HE:=hid (show l.all (fun t=>tagB t.1)=true from by have:=HE.out;rwa [List.take_of_length_le (by omega)] at this)
   have HN:=hid (tagsB_good HE.out)
   go_wp2_with fail
   go_ret
   exact ⟨ret_bool (by rw [HN.out,decide_eq_decide];omega),hG⟩
set_option maxHeartbeats 1000000 in
theorem condSince_any (t:Int) (w:World):Calls Tryz.prog 161 #[.int .i64 t] w fun e w'=>e=.returned (.bool (sinceB t))∧Gr w w':=by
 by_cases hin:0≤t∧t≤253402300799
 ·obtain ⟨m,rfl⟩:∃m:Nat,t=m:=⟨t.toNat,by omega⟩
  have HT:=hid (fun (w:World)=>textD_in m w (by omega))
  have HN:=hid (show sinceB (m:Int)=true from by unfold sinceB;simp <;> omega)
  have d1:((m:Int)==-1)=false:=by simp <;> omega
  clear hin
  go_enter Tryz.func161,Tryz.ntmps161
  go_wp2_with (go_at_call 122;refine (HT.out _).mono ?_;rintro e w1 ⟨rfl,hG1⟩)
  go_ret
  exact ⟨ret_bool HN.out.symm,hG1⟩
 ·have HT:=hid (fun (w:World)=>textD_out t w hin)
  by_cases h1:t= -1
  ·subst h1
   clear hin
   go_enter Tryz.func161,Tryz.ntmps161
   go_wp2_with (go_at_call 122;refine (HT.out _).mono ?_;rintro e w1 ⟨rfl,hG1⟩)
   go_ret
   exact ⟨rfl,hG1⟩
  ·have d1:(t==-1)=false:=by simpa using h1
   have HN:=hid (show sinceB t=false from by unfold sinceB;simp [h1];omega)
   clear hin h1
   go_enter Tryz.func161,Tryz.ntmps161
   go_wp2_with (go_at_call 122;refine (HT.out _).mono ?_;rintro e w1 ⟨rfl,hG1⟩)
   go_ret
   exact ⟨ret_bool HN.out.symm,hG1⟩
set_option maxHeartbeats 1000000 in
theorem refCondTick_any (t:Int) (w:World):Calls Tryz.prog 98 #[.int .i64 t] w fun e w'=>e=.returned (.bool (sinceB t))∧Gr w w':=by
 by_cases hin:0≤t∧t≤253402300799
 ·obtain ⟨m,rfl⟩:∃m:Nat,t=m:=⟨t.toNat,by omega⟩
  have HT:=hid (fun (w:World)=>textR_in m w (by omega))
  have HN:=hid (show sinceB (m:Int)=true from by unfold sinceB;simp <;> omega)
  have d1:((m:Int)==-1)=false:=by simp <;> omega
  clear hin
  go_enter Tryz.func98,Tryz.ntmps98
  go_wp2_with (go_at_call 167;refine (HT.out _).mono ?_;rintro e w1 ⟨rfl,hG1⟩)
  go_ret
  exact ⟨ret_bool HN.out.symm,hG1⟩
 ·have HT:=hid (fun (w:World)=>textR_out t w hin)
  by_cases h1:t= -1
  ·subst h1
   clear hin
   go_enter Tryz.func98,Tryz.ntmps98
   go_wp2_with (go_at_call 167;refine (HT.out _).mono ?_;rintro e w1 ⟨rfl,hG1⟩)
   go_ret
   exact ⟨rfl,hG1⟩
  ·have d1:(t==-1)=false:=by simpa using h1
   have HN:=hid (show sinceB t=false from by unfold sinceB;simp [h1];omega)
   clear hin h1
   go_enter Tryz.func98,Tryz.ntmps98
   go_wp2_with (go_at_call 167;refine (HT.out _).mono ?_;rintro e w1 ⟨rfl,hG1⟩)
   go_ret
   exact ⟨ret_bool HN.out.symm,hG1⟩
set_option maxHeartbeats 1000000 in
theorem refOdd_any (x:List UInt8) (wk:Bool) (w:World):Calls Tryz.prog 99 #[.agg #[str x,.bool wk]] w fun e w'=>e=.returned (.bool (x.isEmpty&&wk))∧Gr w w':=by
 obtain ⟨hG0,c0,c1⟩:=box2 w (str x) (.bool wk) 25
 cases x with
 | nil=>
   go_enter Tryz.func99,Tryz.ntmps99
   go_wp2_with fail
   go_ret
   exact ⟨ret_bool (by simp),hG0⟩
 | cons a t=>
   go_enter Tryz.func99,Tryz.ntmps99
   go_wp2_with fail
   go_ret
   exact ⟨ret_bool (by simp),hG0⟩
end Go.Proofs.YtflepnkpihfidaaGreatDoor
namespace Go.Proofs.YtflepnkpihfidaaGreatDoor
open Lib (hid)
open Go.RowKit
set_option maxHeartbeats 4000000 in
set_option maxRecDepth 100000 in
theorem condRight_any (c:CondT) (vm vn:Value) (w:World) (hm:Tags w vm c.mt) (hn:Tags w vn c.no) (hs1:ShortT c.mt) (hs2:ShortT c.no) (hl1:c.mt.length≤1000000) (hl2:c.no.length≤1000000) (hr:c.rg.1.length≤140737488355328) :
  Calls Tryz.prog 91 #[condV c vm vn] w fun e w'=>e=.returned (.bool (condB c))∧Gr w w':=by
 obtain ⟨mt,no,am,an,si,un,rx,rk⟩:=c
 unfold condV
 simp only at hm hn hs1 hs2 hl1 hl2 hr ⊢
 have hmm:=hm
 have hnn:=hn
 obtain ⟨A1,c1,rfl,_,_,_⟩:=hmm.open
 obtain ⟨A2,c2,rfl,_,_,_⟩:=hnn.open
 have hbk:=Bk.new w 27 #[.slice A1 mt.length c1,.slice A2 no.length c2,.bool am,.bool an,.int .i64 si,.int .i64 un,str rx,.bool rk] (0,0)
 have hG0:=Gr.al (Gr.refl w) (.cells #[.slice A1 mt.length c1,.slice A2 no.length c2,.bool am,.bool an,.int .i64 si,.int .i64 un,str rx,.bool rk] 27)
 have HM:=hid (fun (x:World) (g:Gr w x)=>hm.gr g)
 have HN:=hid (fun (x:World) (g:Gr w x)=>hn.gr g)
 clear hm hn hmm hnn
 have HL1:=hid (fun (x:World) (g:Gr w x)=>condList_any _ mt am x (HM.out x g) hs1 hl1)
 have HL2:=hid (fun (x:World) (g:Gr w x)=>condList_any _ no an x (HN.out x g) hs2 hl2)
 have HS1:=hid (fun (x:World)=>condSince_any si x)
 have HS2:=hid (fun (x:World)=>condSince_any un x)
 have HR:=hid (fun (x:World)=>tagRight_any rx rk x (by omega))
 clear hs1 hs2
 go_enter Tryz.func91,Tryz.ntmps91
 go_upto_region 1 with fail
 generalize w.alloc (.cells #[.slice A1 mt.length c1,.slice A2 no.length c2,.bool am,.bool an,.int .i64 si,.int .i64 un,str rx,.bool rk] 27)=w0 at *
 generalize w.heap.size=g at *
 have r0:∀x,Gr w0 x→x.cell? ⟨g,0,none⟩=some (.slice A1 mt.length c1):=fun x h=>(hbk.gr h).cell 0
 have r1:∀x,Gr w0 x→x.cell? ⟨g,1,none⟩=some (.slice A2 no.length c2):=fun x h=>(hbk.gr h).cell 1
 have r2:∀x,Gr w0 x→x.cell? ⟨g,2,none⟩=some (.bool am):=fun x h=>(hbk.gr h).cell 2
 have r3:∀x,Gr w0 x→x.cell? ⟨g,3,none⟩=some (.bool an):=fun x h=>(hbk.gr h).cell 3
 have r4:∀x,Gr w0 x→x.cell? ⟨g,4,none⟩=some (.int .i64 si):=fun x h=>(hbk.gr h).cell 4
 have r5:∀x,Gr w0 x→x.cell? ⟨g,5,none⟩=some (.int .i64 un):=fun x h=>(hbk.gr h).cell 5
 have r6:∀x,Gr w0 x→x.cell? ⟨g,6,none⟩=some (str rx):=fun x h=>(hbk.gr h).cell 6
 have r7:∀x,Gr w0 x→x.cell? ⟨g,7,none⟩=some (.bool rk):=fun x h=>(hbk.gr h).cell 7
 have h00:Gr w0 w0:=Gr.refl w0
 clear hbk
 have HL1:=hid (fun (x:World) (h:Gr w0 x)=>HL1.out x (Gr.tr hG0 h))
 have HL2:=hid (fun (x:World) (h:Gr w0 x)=>HL2.out x (Gr.tr hG0 h))
 cases h0:listB mt am with
 | false=>
   rw [h0] at HL1
   have HC:=hid (show condB ⟨mt,no,am,an,si,un,rx,rk⟩=false from by unfold condB;simp only [h0];rfl)
   clear h0
   go_wp2_with (first | (go_at_call 160;first | ((with_reducible refine (HL1.out _ (by assumption)).mono ?_);rintro e wn ⟨rfl,hgn⟩;have hgg:Gr w0 wn:=Gr.tr (by assumption) hgn;clear hgn) | ((with_reducible refine (HL2.out _ (by assumption)).mono ?_);rintro e wn ⟨rfl,hgn⟩;have hgg:Gr w0 wn:=Gr.tr (by assumption) hgn;clear hgn)) | (go_at_call 161;first | ((with_reducible refine (HS1.out _).mono ?_);rintro e wn ⟨rfl,hgn⟩;have hgg:Gr w0 wn:=Gr.tr (by assumption) hgn;clear hgn) | ((with_reducible refine (HS2.out _).mono ?_);rintro e wn ⟨rfl,hgn⟩;have hgg:Gr w0 wn:=Gr.tr (by assumption) hgn;clear hgn)) | (go_at_call 56;first | ((with_reducible refine (HR.out _).mono ?_);rintro e wn ⟨rfl,hgn⟩;have hgg:Gr w0 wn:=Gr.tr (by assumption) hgn;clear hgn)))
   go_ret
   exact ⟨ret_bool HC.out.symm,Gr.tr hG0 (by assumption)⟩
 | true=>
   rw [h0] at HL1
   cases h1:listB no an with
   | false=>
     rw [h1] at HL2
     have HC:=hid (show condB ⟨mt,no,am,an,si,un,rx,rk⟩=false from by unfold condB;simp only [h0,h1];rfl)
     clear h0 h1
     go_wp2_with (first | (go_at_call 160;first | ((with_reducible refine (HL1.out _ (by assumption)).mono ?_);rintro e wn ⟨rfl,hgn⟩;have hgg:Gr w0 wn:=Gr.tr (by assumption) hgn;clear hgn) | ((with_reducible refine (HL2.out _ (by assumption)).mono ?_);rintro e wn ⟨rfl,hgn⟩;have hgg:Gr w0 wn:=Gr.tr (by assumption) hgn;clear hgn)) | (go_at_call 161;first | ((with_reducible refine (HS1.out _).mono ?_);rintro e wn ⟨rfl,hgn⟩;have hgg:Gr w0 wn:=Gr.tr (by assumption) hgn;clear hgn) | ((with_reducible refine (HS2.out _).mono ?_);rintro e wn ⟨rfl,hgn⟩;have hgg:Gr w0 wn:=Gr.tr (by assumption) hgn;clear hgn)) | (go_at_call 56;first | ((with_reducible refine (HR.out _).mono ?_);rintro e wn ⟨rfl,hgn⟩;have hgg:Gr w0 wn:=Gr.tr (by assumption) hgn;clear hgn)))
     go_ret
     exact ⟨ret_bool HC.out.symm,Gr.tr hG0 (by assumption)⟩
   | true=>
     rw [h1] at HL2
     cases h2:sinceB si with
     | false=>
       rw [h2] at HS1
       have HC:=hid (show condB ⟨mt,no,am,an,si,un,rx,rk⟩=false from by unfold condB;simp only [h0,h1,h2];rfl)
       clear h0 h1 h2
       go_wp2_with (first | (go_at_call 160;first | ((with_reducible refine (HL1.out _ (by assumption)).mono ?_);rintro e wn ⟨rfl,hgn⟩;have hgg:Gr w0 wn:=Gr.tr (by assumption) hgn;clear hgn) | ((with_reducible refine (HL2.out _ (by assumption)).mono ?_);rintro e wn ⟨rfl,hgn⟩;have hgg:Gr w0 wn:=Gr.tr (by assumption) hgn;clear hgn)) | (go_at_call 161;first | ((with_reducible refine (HS1.out _).mono ?_);rintro e wn ⟨rfl,hgn⟩;have hgg:Gr w0 wn:=Gr.tr (by assumption) hgn;clear hgn) | ((with_reducible refine (HS2.out _).mono ?_);rintro e wn ⟨rfl,hgn⟩;have hgg:Gr w0 wn:=Gr.tr (by assumption) hgn;clear hgn)) | (go_at_call 56;first | ((with_reducible refine (HR.out _).mono ?_);rintro e wn ⟨rfl,hgn⟩;have hgg:Gr w0 wn:=Gr.tr (by assumption) hgn;clear hgn)))
       go_ret
       exact ⟨ret_bool HC.out.symm,Gr.tr hG0 (by assumption)⟩
     | true=>
       rw [h2] at HS1
       cases h3:sinceB un with
       | false=>
         rw [h3] at HS2
         have HC:=hid (show condB ⟨mt,no,am,an,si,un,rx,rk⟩=false from by unfold condB;simp only [h0,h1,h2,h3];rfl)
         clear h0 h1 h2 h3
         go_wp2_with (first | (go_at_call 160;first | ((with_reducible refine (HL1.out _ (by assumption)).mono ?_);rintro e wn ⟨rfl,hgn⟩;have hgg:Gr w0 wn:=Gr.tr (by assumption) hgn;clear hgn) | ((with_reducible refine (HL2.out _ (by assumption)).mono ?_);rintro e wn ⟨rfl,hgn⟩;have hgg:Gr w0 wn:=Gr.tr (by assumption) hgn;clear hgn)) | (go_at_call 161;first | ((with_reducible refine (HS1.out _).mono ?_);rintro e wn ⟨rfl,hgn⟩;have hgg:Gr w0 wn:=Gr.tr (by assumption) hgn;clear hgn) | ((with_reducible refine (HS2.out _).mono ?_);rintro e wn ⟨rfl,hgn⟩;have hgg:Gr w0 wn:=Gr.tr (by assumption) hgn;clear hgn)) | (go_at_call 56;first | ((with_reducible refine (HR.out _).mono ?_);rintro e wn ⟨rfl,hgn⟩;have hgg:Gr w0 wn:=Gr.tr (by assumption) hgn;clear hgn)))
         go_ret
         exact ⟨ret_bool HC.out.symm,Gr.tr hG0 (by assumption)⟩
       | true=>
         rw [h3] at HS2
         cases rx with
         | nil=>
           have HC:=hid (show condB ⟨mt,no,am,an,si,un,[],rk⟩=true from by unfold condB rangB;simp only [h0,h1,h2,h3];rfl)
           clear h0 h1 h2 h3
           go_wp2_with (first | (go_at_call 160;first | ((with_reducible refine (HL1.out _ (by assumption)).mono ?_);rintro e wn ⟨rfl,hgn⟩;have hgg:Gr w0 wn:=Gr.tr (by assumption) hgn;clear hgn) | ((with_reducible refine (HL2.out _ (by assumption)).mono ?_);rintro e wn ⟨rfl,hgn⟩;have hgg:Gr w0 wn:=Gr.tr (by assumption) hgn;clear hgn)) | (go_at_call 161;first | ((with_reducible refine (HS1.out _).mono ?_);rintro e wn ⟨rfl,hgn⟩;have hgg:Gr w0 wn:=Gr.tr (by assumption) hgn;clear hgn) | ((with_reducible refine (HS2.out _).mono ?_);rintro e wn ⟨rfl,hgn⟩;have hgg:Gr w0 wn:=Gr.tr (by assumption) hgn;clear hgn)) | (go_at_call 56;first | ((with_reducible refine (HR.out _).mono ?_);rintro e wn ⟨rfl,hgn⟩;have hgg:Gr w0 wn:=Gr.tr (by assumption) hgn;clear hgn)))
           go_ret
           exact ⟨ret_bool HC.out.symm,Gr.tr hG0 (by assumption)⟩
         | cons x0 x1=>
           cases h4:tagB (x0::x1) with
           | false=>
             rw [h4] at HR
             have HC:=hid (show condB ⟨mt,no,am,an,si,un,x0::x1,rk⟩=false from by unfold condB rangB;simp only [h0,h1,h2,h3,h4];rfl)
             clear h0 h1 h2 h3 h4
             go_wp2_with (first | (go_at_call 160;first | ((with_reducible refine (HL1.out _ (by assumption)).mono ?_);rintro e wn ⟨rfl,hgn⟩;have hgg:Gr w0 wn:=Gr.tr (by assumption) hgn;clear hgn) | ((with_reducible refine (HL2.out _ (by assumption)).mono ?_);rintro e wn ⟨rfl,hgn⟩;have hgg:Gr w0 wn:=Gr.tr (by assumption) hgn;clear hgn)) | (go_at_call 161;first | ((with_reducible refine (HS1.out _).mono ?_);rintro e wn ⟨rfl,hgn⟩;have hgg:Gr w0 wn:=Gr.tr (by assumption) hgn;clear hgn) | ((with_reducible refine (HS2.out _).mono ?_);rintro e wn ⟨rfl,hgn⟩;have hgg:Gr w0 wn:=Gr.tr (by assumption) hgn;clear hgn)) | (go_at_call 56;first | ((with_reducible refine (HR.out _).mono ?_);rintro e wn ⟨rfl,hgn⟩;have hgg:Gr w0 wn:=Gr.tr (by assumption) hgn;clear hgn)))
             go_ret
             exact ⟨ret_bool HC.out.symm,Gr.tr hG0 (by assumption)⟩
           | true=>
             rw [h4] at HR
             have HC:=hid (show condB ⟨mt,no,am,an,si,un,x0::x1,rk⟩=true from by unfold condB rangB;simp only [h0,h1,h2,h3,h4];rfl)
             clear h0 h1 h2 h3 h4
             go_wp2_with (first | (go_at_call 160;first | ((with_reducible refine (HL1.out _ (by assumption)).mono ?_);rintro e wn ⟨rfl,hgn⟩;have hgg:Gr w0 wn:=Gr.tr (by assumption) hgn;clear hgn) | ((with_reducible refine (HL2.out _ (by assumption)).mono ?_);rintro e wn ⟨rfl,hgn⟩;have hgg:Gr w0 wn:=Gr.tr (by assumption) hgn;clear hgn)) | (go_at_call 161;first | ((with_reducible refine (HS1.out _).mono ?_);rintro e wn ⟨rfl,hgn⟩;have hgg:Gr w0 wn:=Gr.tr (by assumption) hgn;clear hgn) | ((with_reducible refine (HS2.out _).mono ?_);rintro e wn ⟨rfl,hgn⟩;have hgg:Gr w0 wn:=Gr.tr (by assumption) hgn;clear hgn)) | (go_at_call 56;first | ((with_reducible refine (HR.out _).mono ?_);rintro e wn ⟨rfl,hgn⟩;have hgg:Gr w0 wn:=Gr.tr (by assumption) hgn;clear hgn)))
             go_ret
             exact ⟨ret_bool HC.out.symm,Gr.tr hG0 (by assumption)⟩
set_option maxHeartbeats 4000000 in
set_option maxRecDepth 100000 in
theorem refCondRight_any (c:CondT) (vm vn:Value) (w:World) (hm:Tags w vm c.mt) (hn:Tags w vn c.no) (hs1:ShortT c.mt) (hs2:ShortT c.no) (hl1:c.mt.length≤1000000) (hl2:c.no.length≤1000000) (hr:c.rg.1.length≤140737488355328) :
  Calls Tryz.prog 37 #[condV c vm vn] w fun e w'=>e=.returned (.bool (condB c))∧Gr w w':=by
 obtain ⟨mt,no,am,an,si,un,rx,rk⟩:=c
 unfold condV
 simp only at hm hn hs1 hs2 hl1 hl2 hr ⊢
 have hmm:=hm
 have hnn:=hn
 obtain ⟨A1,c1,rfl,_,_,_⟩:=hmm.open
 obtain ⟨A2,c2,rfl,_,_,_⟩:=hnn.open
 have hbk:=Bk.new w 27 #[.slice A1 mt.length c1,.slice A2 no.length c2,.bool am,.bool an,.int .i64 si,.int .i64 un,str rx,.bool rk] (0,0)
 have hG0:=Gr.al (Gr.refl w) (.cells #[.slice A1 mt.length c1,.slice A2 no.length c2,.bool am,.bool an,.int .i64 si,.int .i64 un,str rx,.bool rk] 27)
 have HM:=hid (fun (x:World) (g:Gr w x)=>hm.gr g)
 have HN:=hid (fun (x:World) (g:Gr w x)=>hn.gr g)
 clear hm hn hmm hnn
 have HL1:=hid (fun (x:World) (g:Gr w x)=>refCondTags_any _ mt x (HM.out x g) hs1 hl1)
 have HL2:=hid (fun (x:World) (g:Gr w x)=>refCondTags_any _ no x (HN.out x g) hs2 hl2)
 have HS1:=hid (fun (x:World)=>refCondTick_any si x)
 have HS2:=hid (fun (x:World)=>refCondTick_any un x)
 have HR:=hid (fun (x:World)=>refTagRight_any rx rk x (by omega))
 have HO:=hid (fun (x:World)=>refOdd_any rx rk x)
 clear hs1 hs2
 go_enter Tryz.func37,Tryz.ntmps37
 go_upto_region 1 with fail
 generalize w.alloc (.cells #[.slice A1 mt.length c1,.slice A2 no.length c2,.bool am,.bool an,.int .i64 si,.int .i64 un,str rx,.bool rk] 27)=w0 at *
 generalize w.heap.size=g at *
 have r0:∀x,Gr w0 x→x.cell? ⟨g,0,none⟩=some (.slice A1 mt.length c1):=fun x h=>(hbk.gr h).cell 0
 have r1:∀x,Gr w0 x→x.cell? ⟨g,1,none⟩=some (.slice A2 no.length c2):=fun x h=>(hbk.gr h).cell 1
 have r2:∀x,Gr w0 x→x.cell? ⟨g,2,none⟩=some (.bool am):=fun x h=>(hbk.gr h).cell 2
 have r3:∀x,Gr w0 x→x.cell? ⟨g,3,none⟩=some (.bool an):=fun x h=>(hbk.gr h).cell 3
 have r4:∀x,Gr w0 x→x.cell? ⟨g,4,none⟩=some (.int .i64 si):=fun x h=>(hbk.gr h).cell 4
 have r5:∀x,Gr w0 x→x.cell? ⟨g,5,none⟩=some (.int .i64 un):=fun x h=>(hbk.gr h).cell 5
 have r6:∀x,Gr w0 x→x.cell? ⟨g,6,none⟩=some (str rx):=fun x h=>(hbk.gr h).cell 6
 have r7:∀x,Gr w0 x→x.cell? ⟨g,7,none⟩=some (.bool rk):=fun x h=>(hbk.gr h).cell 7
 have h00:Gr w0 w0:=Gr.refl w0
 clear hbk
 have HL1:=hid (fun (x:World) (h:Gr w0 x)=>HL1.out x (Gr.tr hG0 h))
 have HL2:=hid (fun (x:World) (h:Gr w0 x)=>HL2.out x (Gr.tr hG0 h))
 by_cases hA:am=true∧mt≠[]
 ·obtain ⟨rfl,hne⟩:=hA
  have hp:=List.length_pos_iff.2 hne
  have d2:decide (0 < (mt.length:Int))=true:=decide_eq_true (by omega)
  have HC:=hid (show condB ⟨mt,no,true,an,si,un,rx,rk⟩=false from by unfold condB;simp only [listB_any hne];rfl)
  clear hne
  go_wp2_with fail
  go_ret
  exact ⟨ret_bool HC.out.symm,Gr.tr hG0 (by assumption)⟩
 ·by_cases hB:an=true∧no≠[]
  ·obtain ⟨rfl,hne⟩:=hB
   have hp:=List.length_pos_iff.2 hne
   have d3:decide (0 < (no.length:Int))=true:=decide_eq_true (by omega)
   have HC:=hid (show condB ⟨mt,no,am,true,si,un,rx,rk⟩=false from by unfold condB;simp only [listB_any hne];simp)
   cases am with
   | false=>
     clear hne hA
     go_wp2_with fail
     go_ret
     exact ⟨ret_bool HC.out.symm,Gr.tr hG0 (by assumption)⟩
   | true=>
     have hm0:mt.length=0:=by
      rcases Nat.eq_zero_or_pos mt.length with h | h
      ·exact h
      ·exact absurd ⟨rfl,List.length_pos_iff.1 h⟩ hA
     have d2:¬0 < mt.length:=by omega
     clear hne hA hm0
     go_wp2_with fail
     go_ret
     exact ⟨ret_bool HC.out.symm,Gr.tr hG0 (by assumption)⟩
  ·have HA:=hid (show am=false∨mt=[] from by
    cases am with
    | false=>exact .inl rfl
    | true=>right;apply Classical.byContradiction;intro h;exact hA ⟨rfl,h⟩)
   have HB:=hid (show an=false∨no=[] from by
    cases an with
    | false=>exact .inl rfl
    | true=>right;apply Classical.byContradiction;intro h;exact hB ⟨rfl,h⟩)
   have HEQ:=hid (show condB ⟨mt,no,am,an,si,un,rx,rk⟩=(tagsB mt&&(tagsB no&&(sinceB si&&(sinceB un&&rangB (rx,rk))))) from by
    unfold condB;simp only [listB_tags HA.out,listB_tags HB.out])
   have HM0:=hid (fun (h:am=true)=>show ¬0 < mt.length from by
    rcases HA.out with h2 | h2
    ·rw [h] at h2;cases h2
    ·rw [h2];simp)
   have HN0:=hid (fun (h:an=true)=>show ¬0 < no.length from by
    rcases HB.out with h2 | h2
    ·rw [h] at h2;cases h2
    ·rw [h2];simp)
   clear hA hB HA HB
   go_cut [21] (fun s21 wx=>s21=.bool false∧w0=wx)
   case first=>
    cases am with
    | false=>
      cases an with
      | false=>
        go_wp2_with fail
        go_meet
        exact ⟨rfl,rfl⟩
      | true=>
        have d3:=HN0.out rfl
        go_wp2_with fail
        go_meet
        exact ⟨rfl,rfl⟩
    | true=>
      have d2:=HM0.out rfl
      cases an with
      | false=>
        go_wp2_with fail
        go_meet
        exact ⟨rfl,rfl⟩
      | true=>
        have d3:=HN0.out rfl
        go_wp2_with fail
        go_meet
        exact ⟨rfl,rfl⟩
   case rest=>
   obtain ⟨rfl,rfl⟩:=hcut
   clear HM0 HN0
   cases h0:tagsB mt with
   | false=>
     rw [h0] at HL1
     have HC:=hid (show condB ⟨mt,no,am,an,si,un,rx,rk⟩=false from by rw [HEQ.out];simp only [h0];rfl)
     clear h0
     cases rx <;> cases rk
     all_goals
      go_wp2_with (first | (go_at_call 97;first | ((with_reducible refine (HL1.out _ (by assumption)).mono ?_);rintro e wn ⟨rfl,hgn⟩;have hgg:Gr w0 wn:=Gr.tr (by assumption) hgn;clear hgn) | ((with_reducible refine (HL2.out _ (by assumption)).mono ?_);rintro e wn ⟨rfl,hgn⟩;have hgg:Gr w0 wn:=Gr.tr (by assumption) hgn;clear hgn)) | (go_at_call 98;first | ((with_reducible refine (HS1.out _).mono ?_);rintro e wn ⟨rfl,hgn⟩;have hgg:Gr w0 wn:=Gr.tr (by assumption) hgn;clear hgn) | ((with_reducible refine (HS2.out _).mono ?_);rintro e wn ⟨rfl,hgn⟩;have hgg:Gr w0 wn:=Gr.tr (by assumption) hgn;clear hgn)) | (go_at_call 99;first | ((with_reducible refine (HO.out _).mono ?_);rintro e wn ⟨rfl,hgn⟩;have hgg:Gr w0 wn:=Gr.tr (by assumption) hgn;clear hgn)) | (go_at_call 100;first | ((with_reducible refine (HR.out _).mono ?_);rintro e wn ⟨rfl,hgn⟩;have hgg:Gr w0 wn:=Gr.tr (by assumption) hgn;clear hgn)))
      go_ret
      exact ⟨ret_bool HC.out.symm,Gr.tr hG0 (by assumption)⟩
   | true=>
     rw [h0] at HL1
     cases h1:tagsB no with
     | false=>
       rw [h1] at HL2
       have HC:=hid (show condB ⟨mt,no,am,an,si,un,rx,rk⟩=false from by rw [HEQ.out];simp only [h0,h1];rfl)
       clear h0 h1
       cases rx <;> cases rk
       all_goals
        go_wp2_with (first | (go_at_call 97;first | ((with_reducible refine (HL1.out _ (by assumption)).mono ?_);rintro e wn ⟨rfl,hgn⟩;have hgg:Gr w0 wn:=Gr.tr (by assumption) hgn;clear hgn) | ((with_reducible refine (HL2.out _ (by assumption)).mono ?_);rintro e wn ⟨rfl,hgn⟩;have hgg:Gr w0 wn:=Gr.tr (by assumption) hgn;clear hgn)) | (go_at_call 98;first | ((with_reducible refine (HS1.out _).mono ?_);rintro e wn ⟨rfl,hgn⟩;have hgg:Gr w0 wn:=Gr.tr (by assumption) hgn;clear hgn) | ((with_reducible refine (HS2.out _).mono ?_);rintro e wn ⟨rfl,hgn⟩;have hgg:Gr w0 wn:=Gr.tr (by assumption) hgn;clear hgn)) | (go_at_call 99;first | ((with_reducible refine (HO.out _).mono ?_);rintro e wn ⟨rfl,hgn⟩;have hgg:Gr w0 wn:=Gr.tr (by assumption) hgn;clear hgn)) | (go_at_call 100;first | ((with_reducible refine (HR.out _).mono ?_);rintro e wn ⟨rfl,hgn⟩;have hgg:Gr w0 wn:=Gr.tr (by assumption) hgn;clear hgn)))
        go_ret
        exact ⟨ret_bool HC.out.symm,Gr.tr hG0 (by assumption)⟩
     | true=>
       rw [h1] at HL2
       cases h2:sinceB si with
       | false=>
         rw [h2] at HS1
         have HC:=hid (show condB ⟨mt,no,am,an,si,un,rx,rk⟩=false from by rw [HEQ.out];simp only [h0,h1,h2];rfl)
         clear h0 h1 h2
         cases rx <;> cases rk
         all_goals
          go_wp2_with (first | (go_at_call 97;first | ((with_reducible refine (HL1.out _ (by assumption)).mono ?_);rintro e wn ⟨rfl,hgn⟩;have hgg:Gr w0 wn:=Gr.tr (by assumption) hgn;clear hgn) | ((with_reducible refine (HL2.out _ (by assumption)).mono ?_);rintro e wn ⟨rfl,hgn⟩;have hgg:Gr w0 wn:=Gr.tr (by assumption) hgn;clear hgn)) | (go_at_call 98;first | ((with_reducible refine (HS1.out _).mono ?_);rintro e wn ⟨rfl,hgn⟩;have hgg:Gr w0 wn:=Gr.tr (by assumption) hgn;clear hgn) | ((with_reducible refine (HS2.out _).mono ?_);rintro e wn ⟨rfl,hgn⟩;have hgg:Gr w0 wn:=Gr.tr (by assumption) hgn;clear hgn)) | (go_at_call 99;first | ((with_reducible refine (HO.out _).mono ?_);rintro e wn ⟨rfl,hgn⟩;have hgg:Gr w0 wn:=Gr.tr (by assumption) hgn;clear hgn)) | (go_at_call 100;first | ((with_reducible refine (HR.out _).mono ?_);rintro e wn ⟨rfl,hgn⟩;have hgg:Gr w0 wn:=Gr.tr (by assumption) hgn;clear hgn)))
          go_ret
          exact ⟨ret_bool HC.out.symm,Gr.tr hG0 (by assumption)⟩
       | true=>
         rw [h2] at HS1
         cases h3:sinceB un with
         | false=>
           rw [h3] at HS2
           have HC:=hid (show condB ⟨mt,no,am,an,si,un,rx,rk⟩=false from by rw [HEQ.out];simp only [h0,h1,h2,h3];rfl)
           clear h0 h1 h2 h3
           cases rx <;> cases rk
           all_goals
            go_wp2_with (first | (go_at_call 97;first | ((with_reducible refine (HL1.out _ (by assumption)).mono ?_);rintro e wn ⟨rfl,hgn⟩;have hgg:Gr w0 wn:=Gr.tr (by assumption) hgn;clear hgn) | ((with_reducible refine (HL2.out _ (by assumption)).mono ?_);rintro e wn ⟨rfl,hgn⟩;have hgg:Gr w0 wn:=Gr.tr (by assumption) hgn;clear hgn)) | (go_at_call 98;first | ((with_reducible refine (HS1.out _).mono ?_);rintro e wn ⟨rfl,hgn⟩;have hgg:Gr w0 wn:=Gr.tr (by assumption) hgn;clear hgn) | ((with_reducible refine (HS2.out _).mono ?_);rintro e wn ⟨rfl,hgn⟩;have hgg:Gr w0 wn:=Gr.tr (by assumption) hgn;clear hgn)) | (go_at_call 99;first | ((with_reducible refine (HO.out _).mono ?_);rintro e wn ⟨rfl,hgn⟩;have hgg:Gr w0 wn:=Gr.tr (by assumption) hgn;clear hgn)) | (go_at_call 100;first | ((with_reducible refine (HR.out _).mono ?_);rintro e wn ⟨rfl,hgn⟩;have hgg:Gr w0 wn:=Gr.tr (by assumption) hgn;clear hgn)))
            go_ret
            exact ⟨ret_bool HC.out.symm,Gr.tr hG0 (by assumption)⟩
         | true=>
           rw [h3] at HS2
           cases rx with
           | nil=>
             cases rk with
             | false=>
               have HC:=hid (show condB ⟨mt,no,am,an,si,un,[],false⟩=true from by rw [HEQ.out];unfold rangB;simp only [h0,h1,h2,h3];rfl)
               clear h0 h1 h2 h3
               go_wp2_with (first | (go_at_call 97;first | ((with_reducible refine (HL1.out _ (by assumption)).mono ?_);rintro e wn ⟨rfl,hgn⟩;have hgg:Gr w0 wn:=Gr.tr (by assumption) hgn;clear hgn) | ((with_reducible refine (HL2.out _ (by assumption)).mono ?_);rintro e wn ⟨rfl,hgn⟩;have hgg:Gr w0 wn:=Gr.tr (by assumption) hgn;clear hgn)) | (go_at_call 98;first | ((with_reducible refine (HS1.out _).mono ?_);rintro e wn ⟨rfl,hgn⟩;have hgg:Gr w0 wn:=Gr.tr (by assumption) hgn;clear hgn) | ((with_reducible refine (HS2.out _).mono ?_);rintro e wn ⟨rfl,hgn⟩;have hgg:Gr w0 wn:=Gr.tr (by assumption) hgn;clear hgn)) | (go_at_call 99;first | ((with_reducible refine (HO.out _).mono ?_);rintro e wn ⟨rfl,hgn⟩;have hgg:Gr w0 wn:=Gr.tr (by assumption) hgn;clear hgn)) | (go_at_call 100;first | ((with_reducible refine (HR.out _).mono ?_);rintro e wn ⟨rfl,hgn⟩;have hgg:Gr w0 wn:=Gr.tr (by assumption) hgn;clear hgn)))
               go_ret
               exact ⟨ret_bool HC.out.symm,Gr.tr hG0 (by assumption)⟩
             | true=>
               have HC:=hid (show condB ⟨mt,no,am,an,si,un,[],true⟩=true from by rw [HEQ.out];unfold rangB;simp only [h0,h1,h2,h3];rfl)
               clear h0 h1 h2 h3
               rw [show (([]:List UInt8).isEmpty&&true)=true from rfl] at HO
               go_wp2_with (first | (go_at_call 97;first | ((with_reducible refine (HL1.out _ (by assumption)).mono ?_);rintro e wn ⟨rfl,hgn⟩;have hgg:Gr w0 wn:=Gr.tr (by assumption) hgn;clear hgn) | ((with_reducible refine (HL2.out _ (by assumption)).mono ?_);rintro e wn ⟨rfl,hgn⟩;have hgg:Gr w0 wn:=Gr.tr (by assumption) hgn;clear hgn)) | (go_at_call 98;first | ((with_reducible refine (HS1.out _).mono ?_);rintro e wn ⟨rfl,hgn⟩;have hgg:Gr w0 wn:=Gr.tr (by assumption) hgn;clear hgn) | ((with_reducible refine (HS2.out _).mono ?_);rintro e wn ⟨rfl,hgn⟩;have hgg:Gr w0 wn:=Gr.tr (by assumption) hgn;clear hgn)) | (go_at_call 99;first | ((with_reducible refine (HO.out _).mono ?_);rintro e wn ⟨rfl,hgn⟩;have hgg:Gr w0 wn:=Gr.tr (by assumption) hgn;clear hgn)) | (go_at_call 100;first | ((with_reducible refine (HR.out _).mono ?_);rintro e wn ⟨rfl,hgn⟩;have hgg:Gr w0 wn:=Gr.tr (by assumption) hgn;clear hgn)))
               go_ret
               exact ⟨ret_bool HC.out.symm,Gr.tr hG0 (by assumption)⟩
           | cons x0 x1=>
             rw [show ((x0::x1).isEmpty&&rk)=false from rfl] at HO
             cases h4:tagB (x0::x1) with
             | false=>
               rw [h4] at HR
               have HC:=hid (show condB ⟨mt,no,am,an,si,un,x0::x1,rk⟩=false from by rw [HEQ.out];unfold rangB;simp only [h0,h1,h2,h3,h4];rfl)
               clear h0 h1 h2 h3 h4
               go_wp2_with (first | (go_at_call 97;first | ((with_reducible refine (HL1.out _ (by assumption)).mono ?_);rintro e wn ⟨rfl,hgn⟩;have hgg:Gr w0 wn:=Gr.tr (by assumption) hgn;clear hgn) | ((with_reducible refine (HL2.out _ (by assumption)).mono ?_);rintro e wn ⟨rfl,hgn⟩;have hgg:Gr w0 wn:=Gr.tr (by assumption) hgn;clear hgn)) | (go_at_call 98;first | ((with_reducible refine (HS1.out _).mono ?_);rintro e wn ⟨rfl,hgn⟩;have hgg:Gr w0 wn:=Gr.tr (by assumption) hgn;clear hgn) | ((with_reducible refine (HS2.out _).mono ?_);rintro e wn ⟨rfl,hgn⟩;have hgg:Gr w0 wn:=Gr.tr (by assumption) hgn;clear hgn)) | (go_at_call 99;first | ((with_reducible refine (HO.out _).mono ?_);rintro e wn ⟨rfl,hgn⟩;have hgg:Gr w0 wn:=Gr.tr (by assumption) hgn;clear hgn)) | (go_at_call 100;first | ((with_reducible refine (HR.out _).mono ?_);rintro e wn ⟨rfl,hgn⟩;have hgg:Gr w0 wn:=Gr.tr (by assumption) hgn;clear hgn)))
               go_ret
               exact ⟨ret_bool HC.out.symm,Gr.tr hG0 (by assumption)⟩
             | true=>
               rw [h4] at HR
               have HC:=hid (show condB ⟨mt,no,am,an,si,un,x0::x1,rk⟩=true from by rw [HEQ.out];unfold rangB;simp only [h0,h1,h2,h3,h4];rfl)
               clear h0 h1 h2 h3 h4
               go_wp2_with (first | (go_at_call 97;first | ((with_reducible refine (HL1.out _ (by assumption)).mono ?_);rintro e wn ⟨rfl,hgn⟩;have hgg:Gr w0 wn:=Gr.tr (by assumption) hgn;clear hgn) | ((with_reducible refine (HL2.out _ (by assumption)).mono ?_);rintro e wn ⟨rfl,hgn⟩;have hgg:Gr w0 wn:=Gr.tr (by assumption) hgn;clear hgn)) | (go_at_call 98;first | ((with_reducible refine (HS1.out _).mono ?_);rintro e wn ⟨rfl,hgn⟩;have hgg:Gr w0 wn:=Gr.tr (by assumption) hgn;clear hgn) | ((with_reducible refine (HS2.out _).mono ?_);rintro e wn ⟨rfl,hgn⟩;have hgg:Gr w0 wn:=Gr.tr (by assumption) hgn;clear hgn)) | (go_at_call 99;first | ((with_reducible refine (HO.out _).mono ?_);rintro e wn ⟨rfl,hgn⟩;have hgg:Gr w0 wn:=Gr.tr (by assumption) hgn;clear hgn)) | (go_at_call 100;first | ((with_reducible refine (HR.out _).mono ?_);rintro e wn ⟨rfl,hgn⟩;have hgg:Gr w0 wn:=Gr.tr (by assumption) hgn;clear hgn)))
               go_ret
               exact ⟨ret_bool HC.out.symm,Gr.tr hG0 (by assumption)⟩
end Go.Proofs.YtflepnkpihfidaaGreatDoor
namespace Go.Proofs.YtflepnkpihfidaaGreatDoor
open Lib (hid)
open Go.RowKit
theorem joinV_succ (l:List (List UInt8)) (k:Nat) (h:k < l.length):joinV (l.take (k+1))=joinV (l.take k)++((if k=0 then [] else [44,32])++l[k]):=by
 rw [take_snoc l k h,joinV_snoc]
 congr 2
 by_cases hk:k=0
 ·subst hk;simp
 ·rw [if_neg hk,if_neg]
  intro he
  have:=congrArg List.length he
  rw [List.length_take,List.length_nil] at this;omega
theorem joinV_take_len (l:List (List UInt8)) (k:Nat) (hb:∀x∈l,x.length≤70000):(joinV (l.take k)).length≤k*70002:=by
 have h1:=joinV_len (l.take k)
 have h2:(l.take k).length≤k:=List.length_take_le _ _
 have h3:=bulk1_le (l.take k) 70000 (fun f hf=>hb f (List.mem_of_mem_take hf))
 have h4:(l.take k).length*70000≤k*70000:=Nat.mul_le_mul_right _ h2
 omega
theorem grow_any (W0 w:World) (b n:Nat) (hB:W0.heap.size≤b) (hG:Gr W0 w) (hb:Bk w b 171 #[.pointer none,.slice none 0 0] (0,0)) (hn:n≤281474976710656) :
  Calls Tryz.prog 116 #[.pointer (some ⟨b,0,none⟩),.int .i64 n] w fun e w'=>e=.returned (.tuple #[])∧Bld W0 w' b []:=
 (Tryz.Builder_Grow_fresh W0.heap.size b n w hB hb hG.size hn).mono fun _ _ ⟨h1,⟨h2,v,hv,ho,_⟩,h3⟩=>⟨h1,hB,Below.trans hG h3,_,v,.inr rfl,hv,ho⟩
set_option maxHeartbeats 4000000 in
set_option maxRecDepth 100000 in
theorem join_any (u:Value) (vs:List (List UInt8)) (w:World) (hu:Strs w u vs) (hl:vs.length≤130) (hb:∀x∈vs,x.length≤70000):Calls Tryz.prog 143 #[u,str [44,32]] w fun e w'=>e=.returned (str (joinV vs))∧Gr w w':=by
 obtain ⟨A,c,rfl,hc,hx,hA⟩:=hu.open
 have HA:=hid hA;have HB:=hid hb;clear hA hu hb
 rcases (show vs.length=0∨vs.length=1∨2≤vs.length by omega) with h | h | h
 ·have hv:vs=[]:=List.eq_nil_of_length_eq_zero h
  subst hv
  go_enter Tryz.func143,Tryz.ntmps143
  go_wp2_with fail
  go_ret
  exact ⟨rfl,Gr.refl _⟩
 ·obtain ⟨x,rfl⟩:=List.length_eq_one_iff.1 h
  obtain ⟨b1,o1,rfl,hb1,p0⟩:=HA.out 0 (by simp)
  simp only [Nat.add_zero,List.getElem_cons_zero] at p0
  go_enter Tryz.func143,Tryz.ntmps143
  go_wp2_with fail
  go_ret
  exact ⟨rfl,Gr.refl _⟩
 ·obtain ⟨b1,o1,rfl,hb1,p0⟩:=HA.out 0 (by omega)
  simp only [Nat.add_zero] at p0
  have k0:((vs.length:Int)==0)=false:=by rw [beq_eq_false_iff_ne];omega
  have k1:((vs.length:Int)==1)=false:=by rw [beq_eq_false_iff_ne];omega
  have k2:decide (9223372036854775807 / ((vs.length:Int)-1)≤2)=false:=decide_eq_false (by
   have:(3:Int)≤9223372036854775807 / ((vs.length:Int)-1):=by
    have h3:(3:Int)*((vs.length:Int)-1)≤9223372036854775807:=by omega
    have h4:(0:Int) < (vs.length:Int)-1:=by omega
    exact (Int.le_ediv_iff_mul_le h4).2 h3
   exact fun h=>absurd (Int.le_trans this h) (by decide))
  go_enter Tryz.func143,Tryz.ntmps143
  go_upto_region 12 with fail
  go_loop [5,7,41] (fun n x i=>∃k N:Nat,k≤vs.length∧i=.int .i64 k∧n=.int .i64 N∧N≤1000+k*70000) (fun _ _ i=>vs.length-(intOf i).toNat)
  case atStart=>exact ⟨0,2*(vs.length-1),Nat.zero_le _,rfl,by simp only [Value.int.injEq,true_and];omega,by omega⟩
  case round=>
   clear k0 k1 k2
   obtain ⟨k,N,hk,rfl,rfl,hN⟩:=hrel
   by_cases hlt:k < vs.length
   ·obtain ⟨b2,o2,hbe,hb2,p2⟩:=HA.out k hlt
    obtain ⟨rfl,rfl⟩:b1=b2∧o1=o2:=by cases hbe;exact ⟨rfl,rfl⟩
    have hxl:=HB.out _ (List.getElem_mem hlt)
    have k3:decide (9223372036854775807-(N:Int) < (vs[k].length:Int))=false:=decide_eq_false (by omega)
    clear hbe
    go_wp2_with fail
    exact ⟨⟨k+1,N+vs[k].length,by omega,by go_num,by go_num,by omega⟩,by simp [intOf];omega⟩
   ·go_upto_region 19 with fail
    have hbk:=Bk.new w 171 #[.pointer none,.slice none 0 0] (0,0)
    have hga:=Gr.al (Gr.refl w) (.cells #[.pointer none,.slice none 0 0] 171)
    have HGW:=hid (grow_any w _ w.heap.size N (Nat.le_refl _) hga hbk (by omega))
    have q0:=p0
    clear p0
    generalize w.alloc (.cells #[.pointer none,.slice none 0 0] 171)=wb at *
    generalize w.heap.size=bb at *
    clear hbk hga
    have hx0:=HB.out _ (List.getElem_mem (show 0 < vs.length by omega))
    have hs1:vs.length≠1:=by omega
    go_upto_region 22 with (first
     | (go_at_call 116;refine HGW.out.mono ?_;rintro e w1 ⟨rfl,hB1⟩;have p0:=hB1.2.1.cell q0;have HB1:=hid hB1;clear hB1)
     | (go_at_call 102;refine (writeString_any w _ bb [] _ HB1.out (by simp;omega)).mono ?_;rintro e w2 ⟨rfl,hB2,hO2⟩;have HB2:=hid hB2;clear hB2 hO2))
    have HQ0:=hid q0
    clear p0 q0
    rw [List.nil_append] at HB2
    go_loopw [10,65] (fun x i wr=>∃k:Nat,k+1≤vs.length∧i=.int .i64 k∧Bld w wr bb (joinV (vs.take (k+1)))) (fun _ i _=>vs.length-(intOf i).toNat)
    case atStart=>exact ⟨0,by omega,rfl,by rw [joinV_succ vs 0 (by omega)];simpa [joinV] using HB2.out⟩
    case round=>
     clear HB1 HB2 HGW
     obtain ⟨k,hk,rfl,hB⟩:=hrel
     have HBK:=hid hB;clear hB
     have hGq:=HBK.out.2.1
     by_cases hlt:k+1 < vs.length
     ·obtain ⟨b2,o2,hbe,hb2,p2⟩:=HA.out (k+1) hlt
      obtain ⟨rfl,rfl⟩:b1=b2∧o1=o2:=by cases hbe;exact ⟨rfl,rfl⟩
      have p2:=Gr.cell hGq p2
      have hxl:=HB.out _ (List.getElem_mem hlt)
      have hjl:=joinV_take_len vs (k+1) HB.out
      have HJ:=hid (joinV_succ vs (k+1) hlt)
      rw [if_neg (by omega),←List.append_assoc] at HJ
      have k4:decide ((k:Int) < (vs.length:Int)-1)=true:=decide_eq_true (by omega)
      rw [show o1+(k+1)=o1+1+k from by omega] at p2
      clear hbe
      go_wp2_with (first
       | (go_at_call 102;first
         | ((with_reducible refine (writeString_any w _ bb (joinV (vs.take (k+1))) [44,32] HBK.out (by simp;omega)).mono ?_);rintro e w2 ⟨rfl,hB2,hO2⟩;have HB3:=hid hB2;clear hB2 hO2)
         | (refine (writeString_any w _ bb (joinV (vs.take (k+1))++[44,32]) _ HB3.out (by simp;omega)).mono ?_;rintro e w2 ⟨rfl,hB2,hO2⟩;have HB4:=hid hB2;clear hB2 hO2)))
      exact ⟨⟨k+1,by omega,by go_num,by rw [HJ.out];exact HB4.out⟩,by simp [intOf];omega⟩
     ·have k4:decide ((k:Int) < (vs.length:Int)-1)=false:=decide_eq_false (by omega)
      have HTK:=hid (show joinV (vs.take (k+1))=joinV vs from by rw [List.take_of_length_le (by omega)])
      rw [HTK.out] at HBK
      go_wp2_with (go_at_call 104;refine (string_any w _ bb _ HBK.out).mono ?_;rintro e w2 ⟨rfl,hG2⟩)
      go_ret
      exact ⟨rfl,hG2⟩
structure Mid (l:List Fld):Prop where
 few:l.length≤130
 len:∀f∈l,f.1.length≤70000∧f.2.length≤70000
theorem Mid.short {l:List Fld} (h:Mid l):Short2 l:=fun f hf=>by have:=h.len f hf;omega
theorem Mid.ofLen {l:List Fld} (h:Mid l) (n:List UInt8):(ofN l n).length≤130:=Nat.le_trans (ofN_len l n) h.few
theorem Mid.ofB {l:List Fld} (h:Mid l) (n:List UInt8):∀x∈ofN l n,x.length≤70000:=by
 intro x hx
 unfold ofN at hx
 obtain ⟨f,hf,rfl⟩:=List.mem_map.1 hx
 exact (h.len f (List.mem_filter.1 hf).1).2
theorem joinV_mid {vs:List (List UInt8)} (hl:vs.length≤130) (hb:∀x∈vs,x.length≤70000):(joinV vs).length≤10000000:=by
 have:=joinV_take_len vs vs.length hb
 rw [List.take_length] at this;omega
theorem tagsV_many {vs:List (List UInt8)} (h:vs≠[]) (h2:(listP (joinV vs)).2.2=0∧32 < (listP (joinV vs)).1.length):tagsV vs=([],false,4):=by unfold tagsV;rw [if_neg h,if_pos h2]
theorem tagsV_list {vs:List (List UInt8)} (h:vs≠[]) (h2:¬((listP (joinV vs)).2.2=0∧32 < (listP (joinV vs)).1.length)):tagsV vs=listP (joinV vs):=by unfold tagsV;rw [if_neg h,if_neg h2]
theorem listP_bad2 (s:List UInt8) (h:(listP s).2.2≠0):(listP s).1=[]∧(listP s).2.1=false:=by
 unfold listP at h ⊢
 split
 ·rename_i h1;rw [if_pos h1] at h;exact absurd rfl h
 ·rename_i h1
  rw [if_neg h1] at h
  split
  ·exact ⟨rfl,rfl⟩
  ·rename_i l hl
   rw [hl] at h
   simp only at h
   split
   ·exact ⟨rfl,rfl⟩
   ·rename_i h2
    rw [if_neg h2] at h
    split
    ·exact ⟨rfl,rfl⟩
    ·rename_i h3;rw [if_neg h3] at h;exact absurd rfl h
set_option maxHeartbeats 4000000 in
set_option maxRecDepth 100000 in
theorem condTags_any (u:Value) (xs:List Fld) (n:List UInt8) (w:World) (hu:Flds w u xs) (hx:Mid xs) (hn:n.length≤1000):Calls Tryz.prog 134 #[u,str n] w (ListEnd (tagsV (ofN xs n)) w):=by
 have hgl:=hx.ofLen n
 have HB:=hid (hx.ofB n)
 have HO:=hid (of_any u xs n w hu hx.short (by omega) (by have:=hx.few;omega))
 clear hu hx
 generalize ofN xs n=vs at *
 by_cases hv:vs=[]
 ·subst hv
  go_enter Tryz.func134,Tryz.ntmps134
  go_upto_region 2 with (go_at_call 67;refine HO.out.mono ?_;rintro e w1 ⟨v,rfl,hs,hG1⟩;obtain ⟨A,c,rfl,hc,hm,_⟩:=hs.open)
  go_wp2_with fail
  refine bodyPost_ret (v:=.tuple #[.slice none 0 0,.bool false,.int .i64 0]) (by simp [results,Tryz.results134,go_sem]) rfl ?_
  exact ⟨_,rfl,Tags.nil _,hG1,fresh_nil _⟩
 ·have hp:=List.length_pos_iff.2 hv
  have k0:((vs.length:Int)==0)=false:=by rw [beq_eq_false_iff_ne];omega
  have hjl:=joinV_mid hgl HB.out
  have HL:=hid (fun (x:World)=>tagList_any (joinV vs) x (by omega))
  have HMA:=hid (fun h=>tagsV_many hv h)
  have HLI:=hid (fun h=>tagsV_list hv h)
  have HBD:=hid (listP_bad2 (joinV vs))
  clear hv
  go_enter Tryz.func134,Tryz.ntmps134
  go_upto_region 4 with (go_at_call 67;refine HO.out.mono ?_;rintro e w1 ⟨v,rfl,hs,hG1⟩;have HS:=hid hs;obtain ⟨A,c,rfl,hc,hm,_⟩:=hs.open;clear hs)
  have HJ:=hid (join_any _ vs w1 HS.out hgl HB.out)
  generalize joinV vs=J at *
  go_upto_region 5 with (first
   | (go_at_call 143;refine HJ.out.mono ?_;rintro e w2 ⟨rfl,hG2⟩)
   | (go_at_call 203;refine (HL.out _).mono ?_;rintro e w3 ⟨v3,rfl,hT,hG3,hF3⟩;have HT:=hid hT;have HF:=hid hF3;obtain ⟨A3,c3,rfl,_⟩:=hT.open;clear hT hF3))
  have HG:=hid (Gr.tr hG1 (Gr.tr hG2 hG3))
  have HFR:=hid (Fresh.tr (Gr.tr hG1 hG2) HF.out)
  clear hG1 hG2 hG3 HL HJ HO HB
  generalize listP J=R at *
  obtain ⟨L,any,er⟩:=R
  simp only at HMA HLI HBD HT HFR ⊢
  by_cases he:er=0
  ·subst he
   by_cases h32:32 < L.length
   ·have d1:decide (32 < (L.length:Int))=true:=decide_eq_true (by omega)
    have HN:=hid (HMA.out ⟨rfl,h32⟩)
    go_wp2_with fail
    refine bodyPost_ret (v:=.tuple #[.slice none 0 0,.bool false,.int .i64 4]) (by simp [results,Tryz.results134,go_sem]) rfl ?_
    rw [HN.out]
    exact ⟨_,rfl,Tags.nil _,HG.out,fresh_nil _⟩
   ·have d1:decide (32 < (L.length:Int))=false:=decide_eq_false (by omega)
    have HN:=hid (HLI.out (by rintro ⟨_,h⟩;exact h32 h))
    go_wp2_with fail
    refine bodyPost_ret (v:=.tuple #[.slice A3 L.length c3,.bool any,.int .i64 0]) (by simp [results,Tryz.results134,go_sem]) rfl ?_
    rw [HN.out]
    exact ⟨_,rfl,HT.out,HG.out,HFR.out⟩
  ·have d1:((er:Int)==0)=false:=by rw [beq_eq_false_iff_ne];omega
   have HN:=hid (HLI.out (by rintro ⟨h,_⟩;exact he h))
   clear he
   go_wp2_with fail
   refine bodyPost_ret (v:=.tuple #[.slice A3 L.length c3,.bool any,.int .i64 (er:Nat)]) (by simp [results,Tryz.results134,go_sem]) rfl ?_
   rw [HN.out]
   exact ⟨_,rfl,HT.out,HG.out,HFR.out⟩
theorem tickV_cons (v:List UInt8) (vs:List (List UInt8)):tickV (v::vs)=match dateP v with | none=>-1 | some t=>(t:Int):=rfl
theorem prsV_none:prsV none=.tuple #[.int .i64 0,.int .i64 2]:=rfl
theorem prsV_some (t:Nat):prsV (some t)=.tuple #[.int .i64 t,.int .i64 0]:=rfl
set_option maxHeartbeats 2000000 in
set_option maxRecDepth 100000 in
theorem condTick_any (u:Value) (xs:List Fld) (n:List UInt8) (w:World) (hu:Flds w u xs) (hx:Mid xs) (hn:n.length≤1000):Calls Tryz.prog 135 #[u,str n] w fun e w'=>e=.returned (.int .i64 (tickV (ofN xs n)))∧Gr w w':=by
 have HB:=hid (hx.ofB n)
 have HO:=hid (get_any u xs n w hu hx.short (by omega))
 clear hu hx
 unfold getN at HO
 generalize ofN xs n=vs at *
 cases vs with
 | nil=>
   simp only at HO
   go_enter Tryz.func135,Tryz.ntmps135
   go_wp2_with (go_at_call 66;refine HO.out.mono ?_;rintro e w1 ⟨rfl,hG1⟩)
   go_ret
   exact ⟨rfl,hG1⟩
 | cons v vs=>
   have hvl:=HB.out v (List.mem_cons_self ..)
   simp only at HO
   have HD:=hid (fun (x:World)=>parseD_any v x (by omega))
   cases hd:dateP v with
   | none=>
     rw [hd,prsV_none] at HD
     have HN:=hid (show tickV (v::vs)= -1 from by rw [tickV_cons,hd])
     clear hd
     go_enter Tryz.func135,Tryz.ntmps135
     go_wp2_with (first | (go_at_call 66;refine HO.out.mono ?_;rintro e w1 ⟨rfl,hG1⟩) | (go_at_call 78;refine (HD.out _).mono ?_;rintro e w2 ⟨rfl,hG2⟩))
     go_ret
     exact ⟨ret_int HN.out.symm,Gr.tr hG1 hG2⟩
   | some t=>
     rw [hd,prsV_some] at HD
     have HN:=hid (show tickV (v::vs)=t from by rw [tickV_cons,hd])
     clear hd
     go_enter Tryz.func135,Tryz.ntmps135
     go_wp2_with (first | (go_at_call 66;refine HO.out.mono ?_;rintro e w1 ⟨rfl,hG1⟩) | (go_at_call 78;refine (HD.out _).mono ?_;rintro e w2 ⟨rfl,hG2⟩))
     go_ret
     exact ⟨ret_int HN.out.symm,Gr.tr hG1 hG2⟩
end Go.Proofs.YtflepnkpihfidaaGreatDoor
