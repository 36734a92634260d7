/- Several texts in one (their own heads say what each is). No conditions but those that each theorem names. -/
import Derived.Test.YtgfckbhkgggkeaaGreatDoorJReq
import Derived.Test.YtgfckbhkgggkeaaGreatDoorJTag
import Derived.Test.YtgfckbhkgggkeaaGreatDoorJDate2
import Derived.Test.YtgfckbhkgggkeaaGreatDoorJField2
set_option linter.unusedVariables false
set_option linter.unusedSimpArgs false
/- XCond1 -/
namespace Go.Proofs.YtgfckbhkgggkeaaGreatDoor
open Lib (hid)
open Go.RowKit
def condV (c:CondT) (vm vn:Value):Value:=.agg #[vm,vn,.bool c.am,.bool c.an,.int .i64 c.si,.int .i64 c.un,str c.rg.1,.bool c.rg.2]
theorem listB_any {l:List TagT} (h:l≠[]):listB l true=false:=by
 unfold listB
 cases l with
 | nil=>exact absurd rfl h
 | cons a t=>simp
theorem listB_many {l:List TagT} {any:Bool} (h:32 < l.length):listB l any=false:=by
 unfold listB;rw [decide_eq_false (by omega)];simp
theorem listB_bad {l:List TagT} {any:Bool} {k:Nat} (hk:k < l.length) (h:tagB l[k].1=false):listB l any=false:=by
 unfold listB
 have:l.all (fun t=>tagB t.1)=false:=by
  cases ha:l.all (fun t=>tagB t.1) with
  | false=>rfl
  | true=>
    have:=(List.all_eq_true.1 ha) _ (List.getElem_mem hk)
    rw [h] at this;cases this
 rw [this];simp
theorem listB_good {l:List TagT} {any:Bool} (h:¬32 < l.length) (ha:any=false∨l=[]) (hE:l.all (fun t=>tagB t.1)=true):listB l any=true:=by
 unfold listB
 rw [hE,decide_eq_true (by omega)]
 rcases ha with rfl | rfl <;> simp
set_option maxHeartbeats 2000000 in
theorem condList_any (u:Value) (l:List TagT) (any:Bool) (w:World) (hu:Tags w u l) (hs:ShortT l) (_hl:l.length≤1000000):Calls Tryz.prog 59 #[u,.bool any] w fun e w'=>e=.returned (.bool (listB l any))∧Gr w w':=by
 obtain ⟨A,c,rfl,hc,hx,hA⟩:=hu.open
 have HA:=hid hA;have HS:=hid hs;clear hA hu hs
 by_cases h32:32 < l.length
 ·have d1:decide (32 < (l.length:Int))=true:=decide_eq_true (by omega)
  have HN:=hid (listB_many (any:=any) h32)
  go_enter Tryz.func59,Tryz.ntmps59
  go_wp2_with fail
  go_ret
  exact ⟨ret_bool HN.out.symm,Gr.refl _⟩
 ·have d1:decide (32 < (l.length:Int))=false:=decide_eq_false (by omega)
  by_cases hb:any=true∧l≠[]
  ·obtain ⟨rfl,hne⟩:=hb
   have hp:=List.length_pos_iff.2 hne
   have d2:decide (0 < (l.length:Int))=true:=decide_eq_true (by omega)
   have HN:=hid (listB_any hne)
   clear hne
   go_enter Tryz.func59,Tryz.ntmps59
   go_wp2_with fail
   go_ret
   exact ⟨ret_bool HN.out.symm,Gr.refl _⟩
  ·have HAN:=hid (show any=false∨l=[] from by
    cases any with
    | false=>exact .inl rfl
    | true=>
      right
      apply Classical.byContradiction
      intro h;exact hb ⟨rfl,h⟩)
   have HLP:=hid (fun (h:any=true)=>show l.length=0 from by
    rcases HAN.out with h2 | h2
    ·rw [h] at h2;cases h2
    ·rw [h2];rfl)
   have H32:=hid h32
   clear hb h32
   go_enter Tryz.func59,Tryz.ntmps59
   cases any with
   | false=>
     go_upto_region 4 with fail
     go_loopw [6,20] (fun x i wr=>∃k:Nat,k≤l.length∧i=.int .i64 k∧Gr w wr∧(l.take k).all (fun t=>tagB t.1)=true) (fun _ i _=>l.length-(intOf i).toNat)
     case atStart=>exact ⟨0,Nat.zero_le _,rfl,Gr.refl _,rfl⟩
     case round=>
      obtain ⟨k,hk,rfl,hG,hE⟩:=hrel
      have HE:=hid hE;clear hE
      by_cases hlt:k < l.length
      ·obtain ⟨b1,o1,rfl,hb1,p0,p1⟩:=HA.out k hlt
       have hsx:=HS.out _ (List.getElem_mem hlt)
       have p0:=Gr.cell hG p0;have p1:=Gr.cell hG p1
       have HR:=hid (fun (w:World)=>tagRight_any l[k].1 l[k].2 w (by omega))
       have HGa:=hid (Gr.al hG (Obj.cells #[str l[k].1,.bool l[k].2] 25))
       cases hr:tagB l[k].1 with
       | false=>
         rw [hr] at HR
         have HN:=hid (listB_bad (any:=false) hlt hr)
         clear hr
         go_wp2_with (go_at_call 61;refine (HR.out _).mono ?_;rintro e w1 ⟨rfl,hG1⟩)
         go_ret
         exact ⟨ret_bool HN.out.symm,Gr.tr HGa.out hG1⟩
       | true=>
         rw [hr] at HR
         have HN:=hid (all_take_succ (fun t:TagT=>tagB t.1) l k hlt HE.out hr)
         clear hr
         go_wp2_with (go_at_call 61;refine (HR.out _).mono ?_;rintro e w1 ⟨rfl,hG1⟩)
         exact ⟨⟨k+1,by omega,by go_num,Gr.tr HGa.out hG1,HN.out⟩,by simp [intOf];omega⟩
      ·have HE:=hid (show l.all (fun t=>tagB t.1)=true from by have:=HE.out;rwa [List.take_of_length_le (by omega)] at this)
       have HN:=hid (listB_good (any:=false) H32.out (.inl rfl) HE.out)
       go_wp2_with fail
       go_ret
       exact ⟨ret_bool HN.out.symm,hG⟩
   | true=>
     have hl0:=HLP.out rfl
     have d2:decide (0 < (l.length:Int))=false:=decide_eq_false (by omega)
     have HN:=hid (show listB l true=true from listB_good H32.out HAN.out (by rw [List.eq_nil_of_length_eq_zero hl0];rfl))
     have hl0':l.length≤0:=by omega
     clear hl0
     go_upto_region 4 with fail
     go_loopw [6,20] (fun x i wr=>∃k:Nat,k≤l.length∧i=.int .i64 k∧Gr w wr) (fun _ i _=>l.length-(intOf i).toNat)
     case atStart=>exact ⟨0,Nat.zero_le _,rfl,Gr.refl _⟩
     case round=>
      obtain ⟨k,hk,rfl,hG⟩:=hrel
      have hlt:¬k < l.length:=by omega
      go_wp2_with fail
      go_ret
      exact ⟨ret_bool HN.out.symm,hG⟩
def tagsB (l:List TagT):Bool:=decide (l.length≤32)&&l.all (fun t=>tagB t.1)
theorem tagsB_bad {l:List TagT} {k:Nat} (hk:k < l.length) (h:tagB l[k].1=false):tagsB l=false:=by
 unfold tagsB
 have:l.all (fun t=>tagB t.1)=false:=by
  cases ha:l.all (fun t=>tagB t.1) with
  | false=>rfl
  | true=>
    have:=(List.all_eq_true.1 ha) _ (List.getElem_mem hk)
    rw [h] at this;cases this
 rw [this];simp
theorem tagsB_good {l:List TagT} (hE:l.all (fun t=>tagB t.1)=true):tagsB l=decide (l.length≤32):=by unfold tagsB;rw [hE];simp
theorem listB_tags {l:List TagT} {any:Bool} (h:any=false∨l=[]):listB l any=tagsB l:=by
 unfold listB tagsB
 rcases h with rfl | rfl <;> simp
set_option maxHeartbeats 2000000 in
theorem refCondTags_any (u:Value) (l:List TagT) (w:World) (hu:Tags w u l) (hs:ShortT l) (_hl:l.length≤1000000):Calls Tryz.prog 42 #[u] w fun e w'=>e=.returned (.bool (tagsB l))∧Gr w w':=by
 obtain ⟨A,c,rfl,hc,hx,hA⟩:=hu.open
 have HA:=hid hA;have HS:=hid hs;clear hA hu hs
 go_enter Tryz.func42,Tryz.ntmps42
 go_upto_region 2 with fail
 go_loopw [4,7] (fun x i wr=>∃k:Nat,k≤l.length∧i=.int .i64 k∧Gr w wr∧(l.take k).all (fun t=>tagB t.1)=true) (fun _ i _=>l.length-(intOf i).toNat)
 case atStart=>exact ⟨0,Nat.zero_le _,rfl,Gr.refl _,rfl⟩
 case round=>
  obtain ⟨k,hk,rfl,hG,hE⟩:=hrel
  have HE:=hid hE;clear hE
  by_cases hlt:k < l.length
  ·obtain ⟨b1,o1,rfl,hb1,p0,p1⟩:=HA.out k hlt
   have hsx:=HS.out _ (List.getElem_mem hlt)
   have p0:=Gr.cell hG p0;have p1:=Gr.cell hG p1
   have HR:=hid (fun (w:World)=>refTagRight_any l[k].1 l[k].2 w (by omega))
   have HGa:=hid (Gr.al hG (Obj.cells #[str l[k].1,.bool l[k].2] 25))
   cases hr:tagB l[k].1 with
   | false=>
     rw [hr] at HR
     have HN:=hid (tagsB_bad hlt hr)
     clear hr
     go_wp2_with (go_at_call 45;refine (HR.out _).mono ?_;rintro e w1 ⟨rfl,hG1⟩)
     go_ret
     exact ⟨ret_bool HN.out.symm,Gr.tr HGa.out hG1⟩
   | true=>
     rw [hr] at HR
     have HN:=hid (all_take_succ (fun t:TagT=>tagB t.1) l k hlt HE.out hr)
     clear hr
     go_wp2_with (go_at_call 45;refine (HR.out _).mono ?_;rintro e w1 ⟨rfl,hG1⟩)
     exact ⟨⟨k+1,by omega,by go_num,Gr.tr HGa.out hG1,HN.out⟩,by simp [intOf];omega⟩
  ·have HE:=hid (show l.all (fun t=>tagB t.1)=true from by have:=HE.out;rwa [List.take_of_length_le (by omega)] at this)
   have HN:=hid (tagsB_good HE.out)
   go_wp2_with fail
   go_ret
   exact ⟨ret_bool (by rw [HN.out,decide_eq_decide];omega),hG⟩
set_option maxHeartbeats 1000000 in
theorem condSince_any (t:Int) (w:World):Calls Tryz.prog 60 #[.int .i64 t] w fun e w'=>e=.returned (.bool (sinceB t))∧Gr w w':=by
 by_cases hin:0≤t∧t≤253402300799
 ·obtain ⟨m,rfl⟩:∃m:Nat,t=m:=⟨t.toNat,by omega⟩
  have HT:=hid (fun (w:World)=>textD_in m w (by omega))
  have HN:=hid (show sinceB (m:Int)=true from by unfold sinceB;simp <;> omega)
  have d1:((m:Int)==-1)=false:=by simp <;> omega
  clear hin
  go_enter Tryz.func60,Tryz.ntmps60
  go_wp2_with (go_at_call 82;refine (HT.out _).mono ?_;rintro e w1 ⟨rfl,hG1⟩)
  go_ret
  exact ⟨ret_bool HN.out.symm,hG1⟩
 ·have HT:=hid (fun (w:World)=>textD_out t w hin)
  by_cases h1:t= -1
  ·subst h1
   clear hin
   go_enter Tryz.func60,Tryz.ntmps60
   go_wp2_with (go_at_call 82;refine (HT.out _).mono ?_;rintro e w1 ⟨rfl,hG1⟩)
   go_ret
   exact ⟨rfl,hG1⟩
  ·have d1:(t==-1)=false:=by simpa using h1
   have HN:=hid (show sinceB t=false from by unfold sinceB;simp [h1];omega)
   clear hin h1
   go_enter Tryz.func60,Tryz.ntmps60
   go_wp2_with (go_at_call 82;refine (HT.out _).mono ?_;rintro e w1 ⟨rfl,hG1⟩)
   go_ret
   exact ⟨ret_bool HN.out.symm,hG1⟩
set_option maxHeartbeats 1000000 in
theorem refCondTick_any (t:Int) (w:World):Calls Tryz.prog 43 #[.int .i64 t] w fun e w'=>e=.returned (.bool (sinceB t))∧Gr w w':=by
 by_cases hin:0≤t∧t≤253402300799
 ·obtain ⟨m,rfl⟩:∃m:Nat,t=m:=⟨t.toNat,by omega⟩
  have HT:=hid (fun (w:World)=>textR_in m w (by omega))
  have HN:=hid (show sinceB (m:Int)=true from by unfold sinceB;simp <;> omega)
  have d1:((m:Int)==-1)=false:=by simp <;> omega
  clear hin
  go_enter Tryz.func43,Tryz.ntmps43
  go_wp2_with (go_at_call 71;refine (HT.out _).mono ?_;rintro e w1 ⟨rfl,hG1⟩)
  go_ret
  exact ⟨ret_bool HN.out.symm,hG1⟩
 ·have HT:=hid (fun (w:World)=>textR_out t w hin)
  by_cases h1:t= -1
  ·subst h1
   clear hin
   go_enter Tryz.func43,Tryz.ntmps43
   go_wp2_with (go_at_call 71;refine (HT.out _).mono ?_;rintro e w1 ⟨rfl,hG1⟩)
   go_ret
   exact ⟨rfl,hG1⟩
  ·have d1:(t==-1)=false:=by simpa using h1
   have HN:=hid (show sinceB t=false from by unfold sinceB;simp [h1];omega)
   clear hin h1
   go_enter Tryz.func43,Tryz.ntmps43
   go_wp2_with (go_at_call 71;refine (HT.out _).mono ?_;rintro e w1 ⟨rfl,hG1⟩)
   go_ret
   exact ⟨ret_bool HN.out.symm,hG1⟩
set_option maxHeartbeats 1000000 in
theorem refOdd_any (x:List UInt8) (wk:Bool) (w:World):Calls Tryz.prog 44 #[.agg #[str x,.bool wk]] w fun e w'=>e=.returned (.bool (x.isEmpty&&wk))∧Gr w w':=by
 obtain ⟨hG0,c0,c1⟩:=box2 w (str x) (.bool wk) 25
 cases x with
 | nil=>
   go_enter Tryz.func44,Tryz.ntmps44
   go_wp2_with fail
   go_ret
   exact ⟨ret_bool (by simp),hG0⟩
 | cons a t=>
   go_enter Tryz.func44,Tryz.ntmps44
   go_wp2_with fail
   go_ret
   exact ⟨ret_bool (by simp),hG0⟩
end Go.Proofs.YtgfckbhkgggkeaaGreatDoor
/- XCond2 -/
namespace Go.Proofs.YtgfckbhkgggkeaaGreatDoor
open Lib (hid)
open Go.RowKit
set_option maxHeartbeats 4000000 in
set_option maxRecDepth 100000 in
theorem condRight_any (c:CondT) (vm vn:Value) (w:World) (hm:Tags w vm c.mt) (hn:Tags w vn c.no) (hs1:ShortT c.mt) (hs2:ShortT c.no) (hl1:c.mt.length≤1000000) (hl2:c.no.length≤1000000) (hr:c.rg.1.length≤140737488355328) :
  Calls Tryz.prog 30 #[condV c vm vn] w fun e w'=>e=.returned (.bool (condB c))∧Gr w w':=by
 obtain ⟨mt,no,am,an,si,un,rx,rk⟩:=c
 unfold condV
 simp only at hm hn hs1 hs2 hl1 hl2 hr ⊢
 have hmm:=hm
 have hnn:=hn
 obtain ⟨A1,c1,rfl,_,_,_⟩:=hmm.open
 obtain ⟨A2,c2,rfl,_,_,_⟩:=hnn.open
 have hbk:=Bk.new w 27 #[.slice A1 mt.length c1,.slice A2 no.length c2,.bool am,.bool an,.int .i64 si,.int .i64 un,str rx,.bool rk] (0,0)
 have hG0:=Gr.al (Gr.refl w) (.cells #[.slice A1 mt.length c1,.slice A2 no.length c2,.bool am,.bool an,.int .i64 si,.int .i64 un,str rx,.bool rk] 27)
 have HM:=hid (fun (x:World) (g:Gr w x)=>hm.gr g)
 have HN:=hid (fun (x:World) (g:Gr w x)=>hn.gr g)
 clear hm hn hmm hnn
 have HL1:=hid (fun (x:World) (g:Gr w x)=>condList_any _ mt am x (HM.out x g) hs1 hl1)
 have HL2:=hid (fun (x:World) (g:Gr w x)=>condList_any _ no an x (HN.out x g) hs2 hl2)
 have HS1:=hid (fun (x:World)=>condSince_any si x)
 have HS2:=hid (fun (x:World)=>condSince_any un x)
 have HR:=hid (fun (x:World)=>tagRight_any rx rk x (by omega))
 clear hs1 hs2
 go_enter Tryz.func30,Tryz.ntmps30
 go_upto_region 1 with fail
 generalize w.alloc (.cells #[.slice A1 mt.length c1,.slice A2 no.length c2,.bool am,.bool an,.int .i64 si,.int .i64 un,str rx,.bool rk] 27)=w0 at *
 generalize w.heap.size=g at *
 have r0:∀x,Gr w0 x→x.cell? ⟨g,0,none⟩=some (.slice A1 mt.length c1):=fun x h=>(hbk.gr h).cell 0
 have r1:∀x,Gr w0 x→x.cell? ⟨g,1,none⟩=some (.slice A2 no.length c2):=fun x h=>(hbk.gr h).cell 1
 have r2:∀x,Gr w0 x→x.cell? ⟨g,2,none⟩=some (.bool am):=fun x h=>(hbk.gr h).cell 2
 have r3:∀x,Gr w0 x→x.cell? ⟨g,3,none⟩=some (.bool an):=fun x h=>(hbk.gr h).cell 3
 have r4:∀x,Gr w0 x→x.cell? ⟨g,4,none⟩=some (.int .i64 si):=fun x h=>(hbk.gr h).cell 4
 have r5:∀x,Gr w0 x→x.cell? ⟨g,5,none⟩=some (.int .i64 un):=fun x h=>(hbk.gr h).cell 5
 have r6:∀x,Gr w0 x→x.cell? ⟨g,6,none⟩=some (str rx):=fun x h=>(hbk.gr h).cell 6
 have r7:∀x,Gr w0 x→x.cell? ⟨g,7,none⟩=some (.bool rk):=fun x h=>(hbk.gr h).cell 7
 have h00:Gr w0 w0:=Gr.refl w0
 clear hbk
 have HL1:=hid (fun (x:World) (h:Gr w0 x)=>HL1.out x (Gr.tr hG0 h))
 have HL2:=hid (fun (x:World) (h:Gr w0 x)=>HL2.out x (Gr.tr hG0 h))
 cases h0:listB mt am with
 | false=>
   rw [h0] at HL1
   have HC:=hid (show condB ⟨mt,no,am,an,si,un,rx,rk⟩=false from by unfold condB;simp only [h0];rfl)
   clear h0
   go_wp2_with (first | (go_at_call 59;first | ((with_reducible refine (HL1.out _ (by assumption)).mono ?_);rintro e wn ⟨rfl,hgn⟩;have hgg:Gr w0 wn:=Gr.tr (by assumption) hgn;clear hgn) | ((with_reducible refine (HL2.out _ (by assumption)).mono ?_);rintro e wn ⟨rfl,hgn⟩;have hgg:Gr w0 wn:=Gr.tr (by assumption) hgn;clear hgn)) | (go_at_call 60;first | ((with_reducible refine (HS1.out _).mono ?_);rintro e wn ⟨rfl,hgn⟩;have hgg:Gr w0 wn:=Gr.tr (by assumption) hgn;clear hgn) | ((with_reducible refine (HS2.out _).mono ?_);rintro e wn ⟨rfl,hgn⟩;have hgg:Gr w0 wn:=Gr.tr (by assumption) hgn;clear hgn)) | (go_at_call 61;first | ((with_reducible refine (HR.out _).mono ?_);rintro e wn ⟨rfl,hgn⟩;have hgg:Gr w0 wn:=Gr.tr (by assumption) hgn;clear hgn)))
   go_ret
   exact ⟨ret_bool HC.out.symm,Gr.tr hG0 (by assumption)⟩
 | true=>
   rw [h0] at HL1
   cases h1:listB no an with
   | false=>
     rw [h1] at HL2
     have HC:=hid (show condB ⟨mt,no,am,an,si,un,rx,rk⟩=false from by unfold condB;simp only [h0,h1];rfl)
     clear h0 h1
     go_wp2_with (first | (go_at_call 59;first | ((with_reducible refine (HL1.out _ (by assumption)).mono ?_);rintro e wn ⟨rfl,hgn⟩;have hgg:Gr w0 wn:=Gr.tr (by assumption) hgn;clear hgn) | ((with_reducible refine (HL2.out _ (by assumption)).mono ?_);rintro e wn ⟨rfl,hgn⟩;have hgg:Gr w0 wn:=Gr.tr (by assumption) hgn;clear hgn)) | (go_at_call 60;first | ((with_reducible refine (HS1.out _).mono ?_);rintro e wn ⟨rfl,hgn⟩;have hgg:Gr w0 wn:=Gr.tr (by assumption) hgn;clear hgn) | ((with_reducible refine (HS2.out _).mono ?_);rintro e wn ⟨rfl,hgn⟩;have hgg:Gr w0 wn:=Gr.tr (by assumption) hgn;clear hgn)) | (go_at_call 61;first | ((with_reducible refine (HR.out _).mono ?_);rintro e wn ⟨rfl,hgn⟩;have hgg:Gr w0 wn:=Gr.tr (by assumption) hgn;clear hgn)))
     go_ret
     exact ⟨ret_bool HC.out.symm,Gr.tr hG0 (by assumption)⟩
   | true=>
     rw [h1] at HL2
     cases h2:sinceB si with
     | false=>
       rw [h2] at HS1
       have HC:=hid (show condB ⟨mt,no,am,an,si,un,rx,rk⟩=false from by unfold condB;simp only [h0,h1,h2];rfl)
       clear h0 h1 h2
       go_wp2_with (first | (go_at_call 59;first | ((with_reducible refine (HL1.out _ (by assumption)).mono ?_);rintro e wn ⟨rfl,hgn⟩;have hgg:Gr w0 wn:=Gr.tr (by assumption) hgn;clear hgn) | ((with_reducible refine (HL2.out _ (by assumption)).mono ?_);rintro e wn ⟨rfl,hgn⟩;have hgg:Gr w0 wn:=Gr.tr (by assumption) hgn;clear hgn)) | (go_at_call 60;first | ((with_reducible refine (HS1.out _).mono ?_);rintro e wn ⟨rfl,hgn⟩;have hgg:Gr w0 wn:=Gr.tr (by assumption) hgn;clear hgn) | ((with_reducible refine (HS2.out _).mono ?_);rintro e wn ⟨rfl,hgn⟩;have hgg:Gr w0 wn:=Gr.tr (by assumption) hgn;clear hgn)) | (go_at_call 61;first | ((with_reducible refine (HR.out _).mono ?_);rintro e wn ⟨rfl,hgn⟩;have hgg:Gr w0 wn:=Gr.tr (by assumption) hgn;clear hgn)))
       go_ret
       exact ⟨ret_bool HC.out.symm,Gr.tr hG0 (by assumption)⟩
     | true=>
       rw [h2] at HS1
       cases h3:sinceB un with
       | false=>
         rw [h3] at HS2
         have HC:=hid (show condB ⟨mt,no,am,an,si,un,rx,rk⟩=false from by unfold condB;simp only [h0,h1,h2,h3];rfl)
         clear h0 h1 h2 h3
         go_wp2_with (first | (go_at_call 59;first | ((with_reducible refine (HL1.out _ (by assumption)).mono ?_);rintro e wn ⟨rfl,hgn⟩;have hgg:Gr w0 wn:=Gr.tr (by assumption) hgn;clear hgn) | ((with_reducible refine (HL2.out _ (by assumption)).mono ?_);rintro e wn ⟨rfl,hgn⟩;have hgg:Gr w0 wn:=Gr.tr (by assumption) hgn;clear hgn)) | (go_at_call 60;first | ((with_reducible refine (HS1.out _).mono ?_);rintro e wn ⟨rfl,hgn⟩;have hgg:Gr w0 wn:=Gr.tr (by assumption) hgn;clear hgn) | ((with_reducible refine (HS2.out _).mono ?_);rintro e wn ⟨rfl,hgn⟩;have hgg:Gr w0 wn:=Gr.tr (by assumption) hgn;clear hgn)) | (go_at_call 61;first | ((with_reducible refine (HR.out _).mono ?_);rintro e wn ⟨rfl,hgn⟩;have hgg:Gr w0 wn:=Gr.tr (by assumption) hgn;clear hgn)))
         go_ret
         exact ⟨ret_bool HC.out.symm,Gr.tr hG0 (by assumption)⟩
       | true=>
         rw [h3] at HS2
         cases rx with
         | nil=>
           have HC:=hid (show condB ⟨mt,no,am,an,si,un,[],rk⟩=true from by unfold condB rangB;simp only [h0,h1,h2,h3];rfl)
           clear h0 h1 h2 h3
           go_wp2_with (first | (go_at_call 59;first | ((with_reducible refine (HL1.out _ (by assumption)).mono ?_);rintro e wn ⟨rfl,hgn⟩;have hgg:Gr w0 wn:=Gr.tr (by assumption) hgn;clear hgn) | ((with_reducible refine (HL2.out _ (by assumption)).mono ?_);rintro e wn ⟨rfl,hgn⟩;have hgg:Gr w0 wn:=Gr.tr (by assumption) hgn;clear hgn)) | (go_at_call 60;first | ((with_reducible refine (HS1.out _).mono ?_);rintro e wn ⟨rfl,hgn⟩;have hgg:Gr w0 wn:=Gr.tr (by assumption) hgn;clear hgn) | ((with_reducible refine (HS2.out _).mono ?_);rintro e wn ⟨rfl,hgn⟩;have hgg:Gr w0 wn:=Gr.tr (by assumption) hgn;clear hgn)) | (go_at_call 61;first | ((with_reducible refine (HR.out _).mono ?_);rintro e wn ⟨rfl,hgn⟩;have hgg:Gr w0 wn:=Gr.tr (by assumption) hgn;clear hgn)))
           go_ret
           exact ⟨ret_bool HC.out.symm,Gr.tr hG0 (by assumption)⟩
         | cons x0 x1=>
           cases h4:tagB (x0::x1) with
           | false=>
             rw [h4] at HR
             have HC:=hid (show condB ⟨mt,no,am,an,si,un,x0::x1,rk⟩=false from by unfold condB rangB;simp only [h0,h1,h2,h3,h4];rfl)
             clear h0 h1 h2 h3 h4
             go_wp2_with (first | (go_at_call 59;first | ((with_reducible refine (HL1.out _ (by assumption)).mono ?_);rintro e wn ⟨rfl,hgn⟩;have hgg:Gr w0 wn:=Gr.tr (by assumption) hgn;clear hgn) | ((with_reducible refine (HL2.out _ (by assumption)).mono ?_);rintro e wn ⟨rfl,hgn⟩;have hgg:Gr w0 wn:=Gr.tr (by assumption) hgn;clear hgn)) | (go_at_call 60;first | ((with_reducible refine (HS1.out _).mono ?_);rintro e wn ⟨rfl,hgn⟩;have hgg:Gr w0 wn:=Gr.tr (by assumption) hgn;clear hgn) | ((with_reducible refine (HS2.out _).mono ?_);rintro e wn ⟨rfl,hgn⟩;have hgg:Gr w0 wn:=Gr.tr (by assumption) hgn;clear hgn)) | (go_at_call 61;first | ((with_reducible refine (HR.out _).mono ?_);rintro e wn ⟨rfl,hgn⟩;have hgg:Gr w0 wn:=Gr.tr (by assumption) hgn;clear hgn)))
             go_ret
             exact ⟨ret_bool HC.out.symm,Gr.tr hG0 (by assumption)⟩
           | true=>
             rw [h4] at HR
             have HC:=hid (show condB ⟨mt,no,am,an,si,un,x0::x1,rk⟩=true from by unfold condB rangB;simp only [h0,h1,h2,h3,h4];rfl)
             clear h0 h1 h2 h3 h4
             go_wp2_with (first | (go_at_call 59;first | ((with_reducible refine (HL1.out _ (by assumption)).mono ?_);rintro e wn ⟨rfl,hgn⟩;have hgg:Gr w0 wn:=Gr.tr (by assumption) hgn;clear hgn) | ((with_reducible refine (HL2.out _ (by assumption)).mono ?_);rintro e wn ⟨rfl,hgn⟩;have hgg:Gr w0 wn:=Gr.tr (by assumption) hgn;clear hgn)) | (go_at_call 60;first | ((with_reducible refine (HS1.out _).mono ?_);rintro e wn ⟨rfl,hgn⟩;have hgg:Gr w0 wn:=Gr.tr (by assumption) hgn;clear hgn) | ((with_reducible refine (HS2.out _).mono ?_);rintro e wn ⟨rfl,hgn⟩;have hgg:Gr w0 wn:=Gr.tr (by assumption) hgn;clear hgn)) | (go_at_call 61;first | ((with_reducible refine (HR.out _).mono ?_);rintro e wn ⟨rfl,hgn⟩;have hgg:Gr w0 wn:=Gr.tr (by assumption) hgn;clear hgn)))
             go_ret
             exact ⟨ret_bool HC.out.symm,Gr.tr hG0 (by assumption)⟩
set_option maxHeartbeats 4000000 in
set_option maxRecDepth 100000 in
theorem refCondRight_any (c:CondT) (vm vn:Value) (w:World) (hm:Tags w vm c.mt) (hn:Tags w vn c.no) (hs1:ShortT c.mt) (hs2:ShortT c.no) (hl1:c.mt.length≤1000000) (hl2:c.no.length≤1000000) (hr:c.rg.1.length≤140737488355328) :
  Calls Tryz.prog 21 #[condV c vm vn] w fun e w'=>e=.returned (.bool (condB c))∧Gr w w':=by
 obtain ⟨mt,no,am,an,si,un,rx,rk⟩:=c
 unfold condV
 simp only at hm hn hs1 hs2 hl1 hl2 hr ⊢
 have hmm:=hm
 have hnn:=hn
 obtain ⟨A1,c1,rfl,_,_,_⟩:=hmm.open
 obtain ⟨A2,c2,rfl,_,_,_⟩:=hnn.open
 have hbk:=Bk.new w 27 #[.slice A1 mt.length c1,.slice A2 no.length c2,.bool am,.bool an,.int .i64 si,.int .i64 un,str rx,.bool rk] (0,0)
 have hG0:=Gr.al (Gr.refl w) (.cells #[.slice A1 mt.length c1,.slice A2 no.length c2,.bool am,.bool an,.int .i64 si,.int .i64 un,str rx,.bool rk] 27)
 have HM:=hid (fun (x:World) (g:Gr w x)=>hm.gr g)
 have HN:=hid (fun (x:World) (g:Gr w x)=>hn.gr g)
 clear hm hn hmm hnn
 have HL1:=hid (fun (x:World) (g:Gr w x)=>refCondTags_any _ mt x (HM.out x g) hs1 hl1)
 have HL2:=hid (fun (x:World) (g:Gr w x)=>refCondTags_any _ no x (HN.out x g) hs2 hl2)
 have HS1:=hid (fun (x:World)=>refCondTick_any si x)
 have HS2:=hid (fun (x:World)=>refCondTick_any un x)
 have HR:=hid (fun (x:World)=>refTagRight_any rx rk x (by omega))
 have HO:=hid (fun (x:World)=>refOdd_any rx rk x)
 clear hs1 hs2
 go_enter Tryz.func21,Tryz.ntmps21
 go_upto_region 1 with fail
 generalize w.alloc (.cells #[.slice A1 mt.length c1,.slice A2 no.length c2,.bool am,.bool an,.int .i64 si,.int .i64 un,str rx,.bool rk] 27)=w0 at *
 generalize w.heap.size=g at *
 have r0:∀x,Gr w0 x→x.cell? ⟨g,0,none⟩=some (.slice A1 mt.length c1):=fun x h=>(hbk.gr h).cell 0
 have r1:∀x,Gr w0 x→x.cell? ⟨g,1,none⟩=some (.slice A2 no.length c2):=fun x h=>(hbk.gr h).cell 1
 have r2:∀x,Gr w0 x→x.cell? ⟨g,2,none⟩=some (.bool am):=fun x h=>(hbk.gr h).cell 2
 have r3:∀x,Gr w0 x→x.cell? ⟨g,3,none⟩=some (.bool an):=fun x h=>(hbk.gr h).cell 3
 have r4:∀x,Gr w0 x→x.cell? ⟨g,4,none⟩=some (.int .i64 si):=fun x h=>(hbk.gr h).cell 4
 have r5:∀x,Gr w0 x→x.cell? ⟨g,5,none⟩=some (.int .i64 un):=fun x h=>(hbk.gr h).cell 5
 have r6:∀x,Gr w0 x→x.cell? ⟨g,6,none⟩=some (str rx):=fun x h=>(hbk.gr h).cell 6
 have r7:∀x,Gr w0 x→x.cell? ⟨g,7,none⟩=some (.bool rk):=fun x h=>(hbk.gr h).cell 7
 have h00:Gr w0 w0:=Gr.refl w0
 clear hbk
 have HL1:=hid (fun (x:World) (h:Gr w0 x)=>HL1.out x (Gr.tr hG0 h))
 have HL2:=hid (fun (x:World) (h:Gr w0 x)=>HL2.out x (Gr.tr hG0 h))
 by_cases hA:am=true∧mt≠[]
 ·obtain ⟨rfl,hne⟩:=hA
  have hp:=List.length_pos_iff.2 hne
  have d2:decide (0 < (mt.length:Int))=true:=decide_eq_true (by omega)
  have HC:=hid (show condB ⟨mt,no,true,an,si,un,rx,rk⟩=false from by unfold condB;simp only [listB_any hne];rfl)
  clear hne
  go_wp2_with fail
  go_ret
  exact ⟨ret_bool HC.out.symm,Gr.tr hG0 (by assumption)⟩
 ·by_cases hB:an=true∧no≠[]
  ·obtain ⟨rfl,hne⟩:=hB
   have hp:=List.length_pos_iff.2 hne
   have d3:decide (0 < (no.length:Int))=true:=decide_eq_true (by omega)
   have HC:=hid (show condB ⟨mt,no,am,true,si,un,rx,rk⟩=false from by unfold condB;simp only [listB_any hne];simp)
   cases am with
   | false=>
     clear hne hA
     go_wp2_with fail
     go_ret
     exact ⟨ret_bool HC.out.symm,Gr.tr hG0 (by assumption)⟩
   | true=>
     have hm0:mt.length=0:=by
      rcases Nat.eq_zero_or_pos mt.length with h | h
      ·exact h
      ·exact absurd ⟨rfl,List.length_pos_iff.1 h⟩ hA
     have d2:¬0 < mt.length:=by omega
     clear hne hA hm0
     go_wp2_with fail
     go_ret
     exact ⟨ret_bool HC.out.symm,Gr.tr hG0 (by assumption)⟩
  ·have HA:=hid (show am=false∨mt=[] from by
    cases am with
    | false=>exact .inl rfl
    | true=>right;apply Classical.byContradiction;intro h;exact hA ⟨rfl,h⟩)
   have HB:=hid (show an=false∨no=[] from by
    cases an with
    | false=>exact .inl rfl
    | true=>right;apply Classical.byContradiction;intro h;exact hB ⟨rfl,h⟩)
   have HEQ:=hid (show condB ⟨mt,no,am,an,si,un,rx,rk⟩=(tagsB mt&&(tagsB no&&(sinceB si&&(sinceB un&&rangB (rx,rk))))) from by
    unfold condB;simp only [listB_tags HA.out,listB_tags HB.out])
   have HM0:=hid (fun (h:am=true)=>show ¬0 < mt.length from by
    rcases HA.out with h2 | h2
    ·rw [h] at h2;cases h2
    ·rw [h2];simp)
   have HN0:=hid (fun (h:an=true)=>show ¬0 < no.length from by
    rcases HB.out with h2 | h2
    ·rw [h] at h2;cases h2
    ·rw [h2];simp)
   clear hA hB HA HB
   go_cut [21] (fun s21 wx=>s21=.bool false∧w0=wx)
   case first=>
    cases am with
    | false=>
      cases an with
      | false=>
        go_wp2_with fail
        go_meet
        exact ⟨rfl,rfl⟩
      | true=>
        have d3:=HN0.out rfl
        go_wp2_with fail
        go_meet
        exact ⟨rfl,rfl⟩
    | true=>
      have d2:=HM0.out rfl
      cases an with
      | false=>
        go_wp2_with fail
        go_meet
        exact ⟨rfl,rfl⟩
      | true=>
        have d3:=HN0.out rfl
        go_wp2_with fail
        go_meet
        exact ⟨rfl,rfl⟩
   case rest=>
   obtain ⟨rfl,rfl⟩:=hcut
   clear HM0 HN0
   cases h0:tagsB mt with
   | false=>
     rw [h0] at HL1
     have HC:=hid (show condB ⟨mt,no,am,an,si,un,rx,rk⟩=false from by rw [HEQ.out];simp only [h0];rfl)
     clear h0
     cases rx <;> cases rk
     all_goals
      go_wp2_with (first | (go_at_call 42;first | ((with_reducible refine (HL1.out _ (by assumption)).mono ?_);rintro e wn ⟨rfl,hgn⟩;have hgg:Gr w0 wn:=Gr.tr (by assumption) hgn;clear hgn) | ((with_reducible refine (HL2.out _ (by assumption)).mono ?_);rintro e wn ⟨rfl,hgn⟩;have hgg:Gr w0 wn:=Gr.tr (by assumption) hgn;clear hgn)) | (go_at_call 43;first | ((with_reducible refine (HS1.out _).mono ?_);rintro e wn ⟨rfl,hgn⟩;have hgg:Gr w0 wn:=Gr.tr (by assumption) hgn;clear hgn) | ((with_reducible refine (HS2.out _).mono ?_);rintro e wn ⟨rfl,hgn⟩;have hgg:Gr w0 wn:=Gr.tr (by assumption) hgn;clear hgn)) | (go_at_call 44;first | ((with_reducible refine (HO.out _).mono ?_);rintro e wn ⟨rfl,hgn⟩;have hgg:Gr w0 wn:=Gr.tr (by assumption) hgn;clear hgn)) | (go_at_call 45;first | ((with_reducible refine (HR.out _).mono ?_);rintro e wn ⟨rfl,hgn⟩;have hgg:Gr w0 wn:=Gr.tr (by assumption) hgn;clear hgn)))
      go_ret
      exact ⟨ret_bool HC.out.symm,Gr.tr hG0 (by assumption)⟩
   | true=>
     rw [h0] at HL1
     cases h1:tagsB no with
     | false=>
       rw [h1] at HL2
       have HC:=hid (show condB ⟨mt,no,am,an,si,un,rx,rk⟩=false from by rw [HEQ.out];simp only [h0,h1];rfl)
       clear h0 h1
       cases rx <;> cases rk
       all_goals
        go_wp2_with (first | (go_at_call 42;first | ((with_reducible refine (HL1.out _ (by assumption)).mono ?_);rintro e wn ⟨rfl,hgn⟩;have hgg:Gr w0 wn:=Gr.tr (by assumption) hgn;clear hgn) | ((with_reducible refine (HL2.out _ (by assumption)).mono ?_);rintro e wn ⟨rfl,hgn⟩;have hgg:Gr w0 wn:=Gr.tr (by assumption) hgn;clear hgn)) | (go_at_call 43;first | ((with_reducible refine (HS1.out _).mono ?_);rintro e wn ⟨rfl,hgn⟩;have hgg:Gr w0 wn:=Gr.tr (by assumption) hgn;clear hgn) | ((with_reducible refine (HS2.out _).mono ?_);rintro e wn ⟨rfl,hgn⟩;have hgg:Gr w0 wn:=Gr.tr (by assumption) hgn;clear hgn)) | (go_at_call 44;first | ((with_reducible refine (HO.out _).mono ?_);rintro e wn ⟨rfl,hgn⟩;have hgg:Gr w0 wn:=Gr.tr (by assumption) hgn;clear hgn)) | (go_at_call 45;first | ((with_reducible refine (HR.out _).mono ?_);rintro e wn ⟨rfl,hgn⟩;have hgg:Gr w0 wn:=Gr.tr (by assumption) hgn;clear hgn)))
        go_ret
        exact ⟨ret_bool HC.out.symm,Gr.tr hG0 (by assumption)⟩
     | true=>
       rw [h1] at HL2
       cases h2:sinceB si with
       | false=>
         rw [h2] at HS1
         have HC:=hid (show condB ⟨mt,no,am,an,si,un,rx,rk⟩=false from by rw [HEQ.out];simp only [h0,h1,h2];rfl)
         clear h0 h1 h2
         cases rx <;> cases rk
         all_goals
          go_wp2_with (first | (go_at_call 42;first | ((with_reducible refine (HL1.out _ (by assumption)).mono ?_);rintro e wn ⟨rfl,hgn⟩;have hgg:Gr w0 wn:=Gr.tr (by assumption) hgn;clear hgn) | ((with_reducible refine (HL2.out _ (by assumption)).mono ?_);rintro e wn ⟨rfl,hgn⟩;have hgg:Gr w0 wn:=Gr.tr (by assumption) hgn;clear hgn)) | (go_at_call 43;first | ((with_reducible refine (HS1.out _).mono ?_);rintro e wn ⟨rfl,hgn⟩;have hgg:Gr w0 wn:=Gr.tr (by assumption) hgn;clear hgn) | ((with_reducible refine (HS2.out _).mono ?_);rintro e wn ⟨rfl,hgn⟩;have hgg:Gr w0 wn:=Gr.tr (by assumption) hgn;clear hgn)) | (go_at_call 44;first | ((with_reducible refine (HO.out _).mono ?_);rintro e wn ⟨rfl,hgn⟩;have hgg:Gr w0 wn:=Gr.tr (by assumption) hgn;clear hgn)) | (go_at_call 45;first | ((with_reducible refine (HR.out _).mono ?_);rintro e wn ⟨rfl,hgn⟩;have hgg:Gr w0 wn:=Gr.tr (by assumption) hgn;clear hgn)))
          go_ret
          exact ⟨ret_bool HC.out.symm,Gr.tr hG0 (by assumption)⟩
       | true=>
         rw [h2] at HS1
         cases h3:sinceB un with
         | false=>
           rw [h3] at HS2
           have HC:=hid (show condB ⟨mt,no,am,an,si,un,rx,rk⟩=false from by rw [HEQ.out];simp only [h0,h1,h2,h3];rfl)
           clear h0 h1 h2 h3
           cases rx <;> cases rk
           all_goals
            go_wp2_with (first | (go_at_call 42;first | ((with_reducible refine (HL1.out _ (by assumption)).mono ?_);rintro e wn ⟨rfl,hgn⟩;have hgg:Gr w0 wn:=Gr.tr (by assumption) hgn;clear hgn) | ((with_reducible refine (HL2.out _ (by assumption)).mono ?_);rintro e wn ⟨rfl,hgn⟩;have hgg:Gr w0 wn:=Gr.tr (by assumption) hgn;clear hgn)) | (go_at_call 43;first | ((with_reducible refine (HS1.out _).mono ?_);rintro e wn ⟨rfl,hgn⟩;have hgg:Gr w0 wn:=Gr.tr (by assumption) hgn;clear hgn) | ((with_reducible refine (HS2.out _).mono ?_);rintro e wn ⟨rfl,hgn⟩;have hgg:Gr w0 wn:=Gr.tr (by assumption) hgn;clear hgn)) | (go_at_call 44;first | ((with_reducible refine (HO.out _).mono ?_);rintro e wn ⟨rfl,hgn⟩;have hgg:Gr w0 wn:=Gr.tr (by assumption) hgn;clear hgn)) | (go_at_call 45;first | ((with_reducible refine (HR.out _).mono ?_);rintro e wn ⟨rfl,hgn⟩;have hgg:Gr w0 wn:=Gr.tr (by assumption) hgn;clear hgn)))
            go_ret
            exact ⟨ret_bool HC.out.symm,Gr.tr hG0 (by assumption)⟩
         | true=>
           rw [h3] at HS2
           cases rx with
           | nil=>
             cases rk with
             | false=>
               have HC:=hid (show condB ⟨mt,no,am,an,si,un,[],false⟩=true from by rw [HEQ.out];unfold rangB;simp only [h0,h1,h2,h3];rfl)
               clear h0 h1 h2 h3
               go_wp2_with (first | (go_at_call 42;first | ((with_reducible refine (HL1.out _ (by assumption)).mono ?_);rintro e wn ⟨rfl,hgn⟩;have hgg:Gr w0 wn:=Gr.tr (by assumption) hgn;clear hgn) | ((with_reducible refine (HL2.out _ (by assumption)).mono ?_);rintro e wn ⟨rfl,hgn⟩;have hgg:Gr w0 wn:=Gr.tr (by assumption) hgn;clear hgn)) | (go_at_call 43;first | ((with_reducible refine (HS1.out _).mono ?_);rintro e wn ⟨rfl,hgn⟩;have hgg:Gr w0 wn:=Gr.tr (by assumption) hgn;clear hgn) | ((with_reducible refine (HS2.out _).mono ?_);rintro e wn ⟨rfl,hgn⟩;have hgg:Gr w0 wn:=Gr.tr (by assumption) hgn;clear hgn)) | (go_at_call 44;first | ((with_reducible refine (HO.out _).mono ?_);rintro e wn ⟨rfl,hgn⟩;have hgg:Gr w0 wn:=Gr.tr (by assumption) hgn;clear hgn)) | (go_at_call 45;first | ((with_reducible refine (HR.out _).mono ?_);rintro e wn ⟨rfl,hgn⟩;have hgg:Gr w0 wn:=Gr.tr (by assumption) hgn;clear hgn)))
               go_ret
               exact ⟨ret_bool HC.out.symm,Gr.tr hG0 (by assumption)⟩
             | true=>
               have HC:=hid (show condB ⟨mt,no,am,an,si,un,[],true⟩=true from by rw [HEQ.out];unfold rangB;simp only [h0,h1,h2,h3];rfl)
               clear h0 h1 h2 h3
               rw [show (([]:List UInt8).isEmpty&&true)=true from rfl] at HO
               go_wp2_with (first | (go_at_call 42;first | ((with_reducible refine (HL1.out _ (by assumption)).mono ?_);rintro e wn ⟨rfl,hgn⟩;have hgg:Gr w0 wn:=Gr.tr (by assumption) hgn;clear hgn) | ((with_reducible refine (HL2.out _ (by assumption)).mono ?_);rintro e wn ⟨rfl,hgn⟩;have hgg:Gr w0 wn:=Gr.tr (by assumption) hgn;clear hgn)) | (go_at_call 43;first | ((with_reducible refine (HS1.out _).mono ?_);rintro e wn ⟨rfl,hgn⟩;have hgg:Gr w0 wn:=Gr.tr (by assumption) hgn;clear hgn) | ((with_reducible refine (HS2.out _).mono ?_);rintro e wn ⟨rfl,hgn⟩;have hgg:Gr w0 wn:=Gr.tr (by assumption) hgn;clear hgn)) | (go_at_call 44;first | ((with_reducible refine (HO.out _).mono ?_);rintro e wn ⟨rfl,hgn⟩;have hgg:Gr w0 wn:=Gr.tr (by assumption) hgn;clear hgn)) | (go_at_call 45;first | ((with_reducible refine (HR.out _).mono ?_);rintro e wn ⟨rfl,hgn⟩;have hgg:Gr w0 wn:=Gr.tr (by assumption) hgn;clear hgn)))
               go_ret
               exact ⟨ret_bool HC.out.symm,Gr.tr hG0 (by assumption)⟩
           | cons x0 x1=>
             rw [show ((x0::x1).isEmpty&&rk)=false from rfl] at HO
             cases h4:tagB (x0::x1) with
             | false=>
               rw [h4] at HR
               have HC:=hid (show condB ⟨mt,no,am,an,si,un,x0::x1,rk⟩=false from by rw [HEQ.out];unfold rangB;simp only [h0,h1,h2,h3,h4];rfl)
               clear h0 h1 h2 h3 h4
               go_wp2_with (first | (go_at_call 42;first | ((with_reducible refine (HL1.out _ (by assumption)).mono ?_);rintro e wn ⟨rfl,hgn⟩;have hgg:Gr w0 wn:=Gr.tr (by assumption) hgn;clear hgn) | ((with_reducible refine (HL2.out _ (by assumption)).mono ?_);rintro e wn ⟨rfl,hgn⟩;have hgg:Gr w0 wn:=Gr.tr (by assumption) hgn;clear hgn)) | (go_at_call 43;first | ((with_reducible refine (HS1.out _).mono ?_);rintro e wn ⟨rfl,hgn⟩;have hgg:Gr w0 wn:=Gr.tr (by assumption) hgn;clear hgn) | ((with_reducible refine (HS2.out _).mono ?_);rintro e wn ⟨rfl,hgn⟩;have hgg:Gr w0 wn:=Gr.tr (by assumption) hgn;clear hgn)) | (go_at_call 44;first | ((with_reducible refine (HO.out _).mono ?_);rintro e wn ⟨rfl,hgn⟩;have hgg:Gr w0 wn:=Gr.tr (by assumption) hgn;clear hgn)) | (go_at_call 45;first | ((with_reducible refine (HR.out _).mono ?_);rintro e wn ⟨rfl,hgn⟩;have hgg:Gr w0 wn:=Gr.tr (by assumption) hgn;clear hgn)))
               go_ret
               exact ⟨ret_bool HC.out.symm,Gr.tr hG0 (by assumption)⟩
             | true=>
               rw [h4] at HR
               have HC:=hid (show condB ⟨mt,no,am,an,si,un,x0::x1,rk⟩=true from by rw [HEQ.out];unfold rangB;simp only [h0,h1,h2,h3,h4];rfl)
               clear h0 h1 h2 h3 h4
               go_wp2_with (first | (go_at_call 42;first | ((with_reducible refine (HL1.out _ (by assumption)).mono ?_);rintro e wn ⟨rfl,hgn⟩;have hgg:Gr w0 wn:=Gr.tr (by assumption) hgn;clear hgn) | ((with_reducible refine (HL2.out _ (by assumption)).mono ?_);rintro e wn ⟨rfl,hgn⟩;have hgg:Gr w0 wn:=Gr.tr (by assumption) hgn;clear hgn)) | (go_at_call 43;first | ((with_reducible refine (HS1.out _).mono ?_);rintro e wn ⟨rfl,hgn⟩;have hgg:Gr w0 wn:=Gr.tr (by assumption) hgn;clear hgn) | ((with_reducible refine (HS2.out _).mono ?_);rintro e wn ⟨rfl,hgn⟩;have hgg:Gr w0 wn:=Gr.tr (by assumption) hgn;clear hgn)) | (go_at_call 44;first | ((with_reducible refine (HO.out _).mono ?_);rintro e wn ⟨rfl,hgn⟩;have hgg:Gr w0 wn:=Gr.tr (by assumption) hgn;clear hgn)) | (go_at_call 45;first | ((with_reducible refine (HR.out _).mono ?_);rintro e wn ⟨rfl,hgn⟩;have hgg:Gr w0 wn:=Gr.tr (by assumption) hgn;clear hgn)))
               go_ret
               exact ⟨ret_bool HC.out.symm,Gr.tr hG0 (by assumption)⟩
end Go.Proofs.YtgfckbhkgggkeaaGreatDoor
/- XCond3 -/
namespace Go.Proofs.YtgfckbhkgggkeaaGreatDoor
open Lib (hid)
open Go.RowKit
end Go.Proofs.YtgfckbhkgggkeaaGreatDoor
