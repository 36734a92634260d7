/- Several texts in one (their own heads say what each is). No conditions but those that each theorem names. -/
import Derived.Test.YtgfckbhkgggkeaaGreatDoorJClD
import Derived.Test.YtgfckbhkgggkeaaGreatDoorJClA
import Derived.Test.YtgfckbhkgggkeaaGreatDoorJMulti
import Derived.Test.YtgfckbhkgggkeaaGreatDoorJGate6
import Derived.Test.YtgfckbhkgggkeaaGreatDoorJClC
import Derived.Test.YtgfckbhkgggkeaaGreatDoorJClB
import Derived.Test.YtgfckbhkgggkeaaGreatDoorMulti13
import Derived.Test.YtgfckbhkgggkeaaGreatDoorJHead2
set_option linter.unusedVariables false
set_option linter.unusedSimpArgs false
/- XClient21 -/
namespace Go.Proofs.YtgfckbhkgggkeaaGreatDoor
open Lib (hid)
open Go.RowKit
def rdHd (m t:List UInt8) (st:Int) (fv:Value):Array Value:=#[.int .i64 0,.int .i64 0,str m,str t,.int .i64 st,fv,.int .i64 0,.int .i64 0,.slice none 0 0,.int .i64 0,.int .i64 0,.int .i64 0,.int .i64 0,str [],.pointer none]
def HdEnd (w w':World) (g:Nat) (m t:List UInt8) (fv:Value):ClS→Prop
 | .bad0=>RdBad w' g
 | .body h fr _=>∃gf:Nat,Bk w' g 44 (rdCs 0 1 (if frDone fr then 1 else 0) m t h fv (.pointer (some ⟨gf,0,none⟩)) (.slice none 0 0)) (0,0)∧F13 w' gf fr 0∧w.heap.size≤gf
 | _=>False
theorem F13.far {w w':World} {gf m:Nat} {fr:FrT} {g:Nat} (h:F13 w gf fr m) (k:w.grownBy w' (some g)) (hne:g≠gf):F13 w' gf fr m:=by
 obtain ⟨lv,r,h1,h2⟩:=h
 exact ⟨lv,r,bk_byo h1 k (by simpa using hne.symm),h2⟩
theorem F13.gr {w w':World} {gf m:Nat} {fr:FrT} (h:F13 w gf fr m) (k:Gr w w'):F13 w' gf fr m:=by
 obtain ⟨lv,r,h1,h2⟩:=h
 exact ⟨lv,r,h1.gr k,h2⟩
theorem getN_len {fs:List Fld} (hr:fs.all right=true) (n:List UInt8):(getN fs n).1.length≤1000000:=by
 have h:∀x∈ofN fs n,x.length≤1000000:=fun x hx=>by
  unfold ofN at hx
  rw [List.mem_map] at hx
  obtain ⟨f,hf,rfl⟩:=hx
  exact Nat.le_trans (right_sizes (List.all_eq_true.1 hr f (List.mem_filter.1 hf).1)).2 (by decide)
 unfold getN
 split
 ·simp
 ·rename_i v r he;exact h v (by rw [he];exact List.mem_cons_self ..)
theorem strip_sev {T:List UInt8}:stripL sevN T=if T.take 31=sevN then some (T.drop 31) else none:=by
 unfold stripL
 cases h:sevN.isPrefixOf T with
 | true=>
   obtain ⟨r,rfl⟩:=List.isPrefixOf_iff_prefix.1 h
   have e:(sevN++r).take 31=sevN:=by show (sevN++r).take sevN.length=sevN;exact List.take_left
   rw [if_pos rfl,if_pos e];rfl
 | false=>
   rw [if_neg (by simp),if_neg]
   intro e
   have:sevN <+: T:=by rw [←e];exact List.take_prefix 31 T
   rw [List.isPrefixOf_iff_prefix.2 this] at h
   cases h
set_option maxHeartbeats 16000000 in
set_option maxRecDepth 100000 in
theorem headedQ_any (hd:Bool) (asked:List UInt8) (hask:asked=if hd then headB else getB) (m t:List UInt8) (st:Int) (fs:List Fld) (A:Option Addr) (c:Nat) (w:World) (g:Nat) (o:List UInt8) (A1 A2 A3:Option Addr) (n1 a1 n2 a2 n3 a3:Nat) (am an:Bool) (si un:Int) (rx:List UInt8) (rk:Bool) (hb:Bk w g 44 (rdHd m t st (.slice A fs.length c)) (0,0)) (hf:Flds w (.slice A fs.length c) fs) (hne:(Value.slice A fs.length c).ownBlock≠some g) (hr:fs.all right=true) (hn:fs.length≤100) :
  Calls Tryz.prog 26 #[.pointer (some ⟨g,0,none⟩),.agg #[.bool hd,str o,.slice A1 n1 a1,.slice A2 n2 a2,.slice A3 n3 a3,.bool am,.bool an,.int .i64 si,.int .i64 un,str rx,.bool rk]] w fun e w'=>e=.returned (.tuple #[])∧w.grownBy w' (some g)∧HdEnd w w' g m t (.slice A fs.length c) (heedR asked st fs):=by
 have HX:=hid (show heedR asked st fs=if (frameL st fs asked).2.2≠0 then .bad0
  else if st=200 then .body ⟨200,fs,(frameL st fs asked).1,(frameL st fs asked).2.1.toNat,1,0,0,[]⟩ (FrT.new (frameL st fs asked).1 (frameL st fs asked).2.1.toNat) []
  else if st=206 then rangedR fs (frameL st fs asked).1 (frameL st fs asked).2.1.toNat
  else .body ⟨st,fs,(frameL st fs asked).1,(frameL st fs asked).2.1.toNat,0,0,0,[]⟩ (FrT.new (frameL st fs asked).1 (frameL st fs asked).2.1.toNat) [] from rfl)
 have HFK:=hid (fun (h:(frameL st fs asked).2.2=0)=>frameL_ok h)
 have hB1:=hb.al (.cells #[.bool hd,str o,.slice A1 n1 a1,.slice A2 n2 a2,.slice A3 n3 a3,.bool am,.bool an,.int .i64 si,.int .i64 un,str rx,.bool rk] 29)
 have hg1:=Gr.al (Gr.refl w) (.cells #[.bool hd,str o,.slice A1 n1 a1,.slice A2 n2 a2,.slice A3 n3 a3,.bool am,.bool an,.int .i64 si,.int .i64 un,str rx,.bool rk] 29)
 have hQ1:=(Bk.new w 29 #[.bool hd,str o,.slice A1 n1 a1,.slice A2 n2 a2,.slice A3 n3 a3,.bool am,.bool an,.int .i64 si,.int .i64 un,str rx,.bool rk] (0,0)).cell 0
 have HASK:=hid hask
 clear hask
 go_enter Tryz.func26,Tryz.ntmps26
 go_upto_region 2 with fail
 generalize w.alloc (Obj.cells #[.bool hd,str o,.slice A1 n1 a1,.slice A2 n2 a2,.slice A3 n3 a3,.bool am,.bool an,.int .i64 si,.int .i64 un,str rx,.bool rk] 29)=w1 at *
 generalize hgq:w.heap.size=gq at *
 have HB1:=hid hB1
 have HG1:=hid hg1
 have HF1:=hid (hf.gr hg1)
 have hq0:w1.cell? ⟨gq,0,none⟩=some (.bool hd):=hQ1
 have HGQ:=hid hgq
 clear hB1 hg1 hQ1 hf hb hgq
 cases hd
 all_goals
  have HOF:=hid (fun (i:Grw w1)=>of13_any st fs asked A c (gw w1 i) (HF1.out.gr (gw_gr w1 i)) hr hn)
  generalize frameL st fs asked=FL at *
  have hask:=HASK.out
  clear HASK
  simp only [Bool.false_eq_true,if_false,if_true] at hask
  subst hask
  have gz4:∀i,(gw w1 i).cell? ⟨g,4,none⟩=some (.int .i64 st):=fun i=>(HB1.out.gr (gw_gr w1 i)).cell 4
  have gz5:∀i,(gw w1 i).cell? ⟨g,5,none⟩=some (.slice A fs.length c):=fun i=>(HB1.out.gr (gw_gr w1 i)).cell 5
  go_upto_region 4 with fail
  refine wp_region_gw (by kernel_rfl) (by kernel_rfl) ?_
  repeat (first | go_big_quiet_step ((go_at_call 50;exact gw_call (HOF.out _))) | quiet_step ((go_at_call 50;exact gw_call (HOF.out _))))
  refine wpQuiet_nil ?_;intro wq hwq;obtain ⟨iq,rfl⟩:=hwq
  have HG12:=hid (gw_gr w1 iq)
  clear gz4 gz5 HOF
  generalize gw w1 iq=w2 at *
  have HB2:=hid (HB1.out.gr HG12.out)
  have HF2:=hid (HF1.out.gr HG12.out)
  have HG2:=hid (Gr.tr HG1.out HG12.out)
  clear HB1 HF1 HG1 HG12 hq0
  obtain ⟨k,zi,E⟩:=FL
  simp only at HX HFK
  have az0:w2.cell? ⟨g,0,none⟩=some (.int .i64 0):=HB2.out.cell 0
  have az6:w2.cell? ⟨g,6,none⟩=some (.int .i64 0):=HB2.out.cell 6
  have az7:w2.cell? ⟨g,7,none⟩=some (.int .i64 0):=HB2.out.cell 7
  have af0:w2.frozen? ⟨g,0,none⟩=false:=HB2.out.free 0 (.inr (Nat.zero_le _))
  have af6:w2.frozen? ⟨g,6,none⟩=false:=HB2.out.free 6 (.inr (Nat.zero_le _))
  have af7:w2.frozen? ⟨g,7,none⟩=false:=HB2.out.free 7 (.inr (Nat.zero_le _))
  by_cases hE:E=0
  case neg=>
   have d0:((E:Int) != 0)=true:=by simp;omega
   have HX:=hid (HX.out.trans (if_pos hE))
   clear hE HFK
   go_wp2_with fail
   refine bodyPost_ret (results_none rfl _ _ _) rfl ?_
   refine ⟨rfl,by_st (HG2.out.by _) _ _,?_⟩
   rw [HX.out]
   exact ⟨_,_,_,_,_,_,_,_,_,_,_,_,_,HB2.out.set 0 (.int .i64 2)⟩
  subst hE
  obtain ⟨h1,h4,hz0,hz1,hk1⟩:=HFK.out rfl
  obtain ⟨z,rfl⟩:∃z:Nat,zi=z:=⟨zi.toNat,by omega⟩
  simp only [ne_eq,not_true_eq_false,if_false,Int.toNat_natCast] at HX
  clear HFK
  have HN:=hid (fun (x:World)=>new13_any k z x h1 h4 (by omega) (fun h=>by have:=hk1 h;omega))
  go_upto_region 8 with fail
  have HB3:=hid (show Bk ((w2.setCell ⟨g,6,none⟩ (.int .i64 (k:Nat))).setCell ⟨g,7,none⟩ (.int .i64 (z:Nat))) g 44 #[.int .i64 0,.int .i64 0,str m,str t,.int .i64 st,.slice A fs.length c,.int .i64 (k:Nat),.int .i64 (z:Nat),.slice none 0 0,.int .i64 0,.int .i64 0,.int .i64 0,.int .i64 0,str [],.pointer none] (0,0) from (HB2.out.set 6 (.int .i64 (k:Nat))).set 7 (.int .i64 (z:Nat)))
  have HK3:=hid (show w.grownBy ((w2.setCell ⟨g,6,none⟩ (.int .i64 (k:Nat))).setCell ⟨g,7,none⟩ (.int .i64 (z:Nat))) (some g) from by_st (by_st (HG2.out.by _) _ _) _ _)
  have HF3:=hid (show Flds ((w2.setCell ⟨g,6,none⟩ (.int .i64 (k:Nat))).setCell ⟨g,7,none⟩ (.int .i64 (z:Nat))) (.slice A fs.length c) fs from (HF2.out.st hne 6 _).st hne 7 _)
  generalize (w2.setCell ⟨g,6,none⟩ (.int .i64 (k:Nat))).setCell ⟨g,7,none⟩ (.int .i64 (z:Nat))=w3 at *
  clear HB2 HF2 az0 az6 az7 af0 af6 af7
  have r14:∀x,Gr w3 x→x.cell? ⟨g,14,none⟩=some (.pointer none):=fun x h=>(HB3.out.gr h).cell 14
  have q14:∀x,Gr w3 x→x.frozen? ⟨g,14,none⟩=false:=fun x h=>(HB3.out.gr h).free 14 (.inr (Nat.zero_le _))
  go_upto_region 9 with (go_at_call 51;refine (HN.out _).mono ?_;rintro e w4 ⟨hg4,gf,rfl,hF4,hgf⟩)
  have hgl:g < gf:=by have:=HB3.out.lt;omega
  have HNE:=hid (show g≠gf by omega)
  have HGF:=hid (show w.heap.size≤gf from Nat.le_trans (HK3.out).size hgf)
  have HB5:=hid (show Bk (w4.setCell ⟨g,14,none⟩ (.pointer (some ⟨gf,0,none⟩))) g 44 #[.int .i64 0,.int .i64 0,str m,str t,.int .i64 st,.slice A fs.length c,.int .i64 (k:Nat),.int .i64 (z:Nat),.slice none 0 0,.int .i64 0,.int .i64 0,.int .i64 0,.int .i64 0,str [],(.pointer (some ⟨gf,0,none⟩))] (0,0) from (HB3.out.gr hg4).set 14 (.pointer (some ⟨gf,0,none⟩)))
  have HK5:=hid (show w.grownBy (w4.setCell ⟨g,14,none⟩ (.pointer (some ⟨gf,0,none⟩))) (some g) from by_st (by_tr HK3.out hg4) _ _)
  have HF5:=hid (show Flds (w4.setCell ⟨g,14,none⟩ (.pointer (some ⟨gf,0,none⟩))) (.slice A fs.length c) fs from (HF3.out.gr hg4).st hne 14 _)
  have HD5:=hid (show F13 (w4.setCell ⟨g,14,none⟩ (.pointer (some ⟨gf,0,none⟩))) gf (FrT.new k z) 0 from hF4.far (by_st ((Gr.refl w4).by (some g)) 14 _) HNE.out)
  generalize w4.setCell ⟨g,14,none⟩ (.pointer (some ⟨gf,0,none⟩))=w5 at *
  clear HB3 HF3 HK3 HG2 r14 q14 HN hF4 hg4 hgf hgl
  have HDN:=hid (done13_any (FrT.new k z) 0 gf w5 HD5.out rfl (Nat.zero_le _) h1 h4)
  generalize hDN:frDone (FrT.new k z)=DN at *
  have z14:w5.cell? ⟨g,14,none⟩=some (.pointer (some ⟨gf,0,none⟩)):=HB5.out.cell 14
  have HDE:=hid hDN
  clear hDN
  cases DN
  case false=>
   go_upto_region 11 with (go_at_call 24;refine HDN.out.mono ?_;rintro e w6 ⟨rfl,hg6⟩)
   have HB7:=hid (HB5.out.gr hg6)
   have HK7:=hid (by_tr HK5.out hg6)
   have HF7:=hid (HF5.out.gr hg6)
   have HD7:=hid (HD5.out.gr hg6)
   generalize w6=w7 at *
   clear HB5 HK5 HF5 HD5 HDN hg6 z14
   have s4:w7.cell? ⟨g,4,none⟩=some (.int .i64 st):=HB7.out.cell 4
   by_cases h200:st=200
   ·have HXr:=hid (HX.out.trans (if_pos h200))
    clear HX
    subst h200
    have dz10:w7.cell? ⟨g,10,none⟩=some (.int .i64 0):=HB7.out.cell 10
    have df10:w7.frozen? ⟨g,10,none⟩=false:=HB7.out.free 10 (.inr (Nat.zero_le _))
    go_upto_region 24 with fail
    have HB8:=hid (HB7.out.set 10 (.int .i64 1))
    have HK8:=hid (by_st HK7.out 10 (.int .i64 1))
    have HD8:=hid (HD7.out.far (by_st ((Gr.refl w7).by (some g)) 10 (.int .i64 1)) HNE.out)
    generalize w7.setCell ⟨g,10,none⟩ (.int .i64 1)=w8 at *
    clear HB7 HK7 HF7 HD7 s4 dz10 df10
    have ez0:w8.cell? ⟨g,0,none⟩=some (.int .i64 0):=HB8.out.cell 0
    have ez1:w8.cell? ⟨g,1,none⟩=some (.int .i64 0):=HB8.out.cell 1
    have ef1:w8.frozen? ⟨g,1,none⟩=false:=HB8.out.free 1 (.inr (Nat.zero_le _))
    go_wp2_with fail
    go_end0
    refine ⟨rfl,by_st HK8.out 1 _,?_⟩
    rw [HXr.out]
    exact ⟨gf,by rw [HDE.out];exact HB8.out.set 1 (.int .i64 1),HD8.out.far (by_st ((Gr.refl w8).by (some g)) 1 _) HNE.out,HGF.out⟩
   have HXb:=hid (HX.out.trans (if_neg h200))
   clear HX
   have d200:(st==200)=false:=by simp [h200]
   by_cases h206:st=206
   case neg=>
    have HXr:=hid (HXb.out.trans (if_neg h206))
    clear HXb
    have d206:(st==206)=false:=by simp [h206]
    clear h200 h206
    go_upto_region 24 with fail
    clear s4 d200 d206
    have ez0:w7.cell? ⟨g,0,none⟩=some (.int .i64 0):=HB7.out.cell 0
    have ez1:w7.cell? ⟨g,1,none⟩=some (.int .i64 0):=HB7.out.cell 1
    have ef1:w7.frozen? ⟨g,1,none⟩=false:=HB7.out.free 1 (.inr (Nat.zero_le _))
    go_wp2_with fail
    go_end0
    refine ⟨rfl,by_st HK7.out 1 _,?_⟩
    rw [HXr.out]
    exact ⟨gf,by rw [HDE.out];exact HB7.out.set 1 (.int .i64 1),HD7.out.far (by_st ((Gr.refl w7).by (some g)) 1 _) HNE.out,HGF.out⟩
   have HXc:=hid (HXb.out.trans (if_pos h206))
   clear HXb
   subst h206
   clear h200 d200
   have HXd:=hid (HXc.out.trans (show rangedR fs k z=match rangeR (getN fs crN).1 with | some x=>if k=1∧(z:Int)≠x.2.1-x.1 then .bad0 else .body ⟨206,fs,k,z,2,x.1,x.2.1,[]⟩ (FrT.new k z) [] | none=>match stripL sevN (getN fs ctN).1 with | some b=>if boundB b then .body ⟨206,fs,k,z,3,0,0,b⟩ (FrT.new k z) [] else .bad0 | none=>.bad0 from rfl))
   clear HXc
   rw [strip_sev] at HXd
   have HFC:=hid (refFirst16_any (.slice A fs.length c) fs crN w7 HF7.out (short_right hr) (by decide) (by omega))
   have HFT:=hid (fun (x:World) (hx:Gr w7 x)=>refFirst16_any (.slice A fs.length c) fs ctN x (HF7.out.gr hx) (short_right hr) (by decide) (by omega))
   have hlc:=getN_len hr crN
   have hlt:=getN_len hr ctN
   have HRG:=hid (fun (x:World)=>refRange_any (getN fs crN).1 x (by omega))
   have HRS:=hid (fun (x:Int×Int×Int) (h:rangeR (getN fs crN).1=some x)=>rangeR_span h)
   have s5:w7.cell? ⟨g,5,none⟩=some (.slice A fs.length c):=HB7.out.cell 5
   have r5:∀x,Gr w7 x→x.cell? ⟨g,5,none⟩=some (.slice A fs.length c):=fun x h=>(HB7.out.gr h).cell 5
   generalize (getN fs ctN).1=V at *
   generalize (getN fs crN).1=C at *
   cases hrr:rangeR C with
   | none=>
     rw [hrr] at HXd HRG
     clear HRS
     simp only [rangeV] at HRG
     clear hrr hlc
     go_upto_region 16 with (first
      | (go_at_call 53;refine HFC.out.mono ?_;rintro e w8 ⟨rfl,hg8⟩)
      | (go_at_call 52;refine (HRG.out _).mono ?_;rintro e w9 ⟨rfl,hg9⟩))
     have hgs:=Gr.al (Gr.tr hg8 hg9) (.cells #[.int .i64 0,.int .i64 0] 41)
     have hbs:=Bk.new w9 41 #[.int .i64 0,.int .i64 0] (0,0)
     have hgsz:w7.heap.size≤w9.heap.size:=(Gr.tr hg8 hg9).size
     generalize w9.alloc (Obj.cells #[.int .i64 0,.int .i64 0] 41)=w10 at *
     generalize w9.heap.size=gs at *
     clear hg8 hg9 HFC HRG s5
     go_upto_region 18 with (go_at_call 53;refine (HFT.out _ hgs).mono ?_;rintro e w11 ⟨rfl,hg11⟩)
     have HB11:=hid (HB7.out.gr (Gr.tr hgs hg11))
     have HK11:=hid (by_tr HK7.out (Gr.tr hgs hg11))
     have HD11:=hid (HD7.out.gr (Gr.tr hgs hg11))
     have HS11:=hid (hbs.gr hg11)
     have HGS:=hid (show g≠gs by have:=HB7.out.lt;omega)
     clear HB7 HK7 HF7 HD7 HFT hgs hbs hg11 hgsz r5 s4
     clear HS11 HGS
     by_cases hV:31 < V.length
     case neg=>
      have dV:decide (31 < (V.length:Int))=false:=decide_eq_false (by omega)
      have hd:V.drop 31=[]:=List.drop_of_length_le (by omega)
      have HXr:=hid (HXd.out.trans (show _=ClS.bad0 from by rw [hd];by_cases hp:V.take 31=sevN;rw [if_pos hp];rfl;rw [if_neg hp]))
      clear hd hV
      have ez0:w11.cell? ⟨g,0,none⟩=some (.int .i64 0):=HB11.out.cell 0
      have ef0:w11.frozen? ⟨g,0,none⟩=false:=HB11.out.free 0 (.inr (Nat.zero_le _))
      go_upto_region 24 with fail
      have HB0:=hid (HB11.out.set 0 (.int .i64 2))
      have HK0:=hid (by_st HK11.out 0 (.int .i64 2))
      generalize w11.setCell ⟨g,0,none⟩ (.int .i64 2)=wz at *
      clear ez0 ef0
      have ez0:wz.cell? ⟨g,0,none⟩=some (.int .i64 2):=HB0.out.cell 0
      go_wp2_with fail
      go_end0
      refine ⟨rfl,HK0.out,?_⟩
      rw [HXr.out]
      exact ⟨_,_,_,_,_,_,_,_,_,_,_,_,_,HB0.out⟩
     have dV:decide (31 < (V.length:Int))=true:=decide_eq_true (by omega)
     by_cases hp:V.take 31=sevN
     case neg=>
      have dp:(V.take 31==sevN)=false:=by simpa using hp
      have HXr:=hid (HXd.out.trans (show _=ClS.bad0 from by rw [if_neg hp]))
      unfold sevN at dp
      clear hp
      have ez0:w11.cell? ⟨g,0,none⟩=some (.int .i64 0):=HB11.out.cell 0
      have ef0:w11.frozen? ⟨g,0,none⟩=false:=HB11.out.free 0 (.inr (Nat.zero_le _))
      go_upto_region 24 with fail
      have HB0:=hid (HB11.out.set 0 (.int .i64 2))
      have HK0:=hid (by_st HK11.out 0 (.int .i64 2))
      generalize w11.setCell ⟨g,0,none⟩ (.int .i64 2)=wz at *
      clear ez0 ef0
      have ez0:wz.cell? ⟨g,0,none⟩=some (.int .i64 2):=HB0.out.cell 0
      go_wp2_with fail
      go_end0
      refine ⟨rfl,HK0.out,?_⟩
      rw [HXr.out]
      exact ⟨_,_,_,_,_,_,_,_,_,_,_,_,_,HB0.out⟩
     have dp:(V.take 31==sevN)=true:=by simpa using hp
     have HXe:=hid (HXd.out.trans (show _=(if boundB (V.drop 31) then ClS.body ⟨206,fs,k,z,3,0,0,V.drop 31⟩ (FrT.new k z) [] else .bad0) from by rw [if_pos hp]))
     have HMK:=hid (fun (x:World)=>refMark_any (V.drop 31) x (by rw [List.length_drop];omega))
     unfold sevN at dp
     clear hp
     cases hbb:boundB (V.drop 31) with
     | false=>
       rw [hbb] at HXe HMK
       have HXr:=hid (HXe.out.trans (if_neg (by decide)))
       clear hbb
       have r0:∀x,Gr w11 x→x.cell? ⟨g,0,none⟩=some (.int .i64 0):=fun x h=>(HB11.out.gr h).cell 0
       have q0:∀x,Gr w11 x→x.frozen? ⟨g,0,none⟩=false:=fun x h=>(HB11.out.gr h).free 0 (.inr (Nat.zero_le _))
       go_upto_region 24 with (go_at_call 54;refine (HMK.out _).mono ?_;rintro e w12 ⟨rfl,hg12⟩)
       have HB0:=hid ((HB11.out.gr hg12).set 0 (.int .i64 2))
       have HK0:=hid (by_st (by_tr HK11.out hg12) 0 (.int .i64 2))
       generalize w12.setCell ⟨g,0,none⟩ (.int .i64 2)=wz at *
       clear r0 q0
       have ez0:wz.cell? ⟨g,0,none⟩=some (.int .i64 2):=HB0.out.cell 0
       go_wp2_with fail
       go_end0
       refine ⟨rfl,HK0.out,?_⟩
       rw [HXr.out]
       exact ⟨_,_,_,_,_,_,_,_,_,_,_,_,_,HB0.out⟩
     | true=>
       rw [hbb] at HXe HMK
       have HXr:=hid (HXe.out.trans (if_pos rfl))
       clear hbb
       go_upto_region 23 with (go_at_call 54;refine (HMK.out _).mono ?_;rintro e w12 ⟨rfl,hg12⟩)
       have HB12:=hid (HB11.out.gr hg12)
       have HK12:=hid (by_tr HK11.out hg12)
       have HD12:=hid (HD11.out.gr hg12)
       clear HB11 HK11 HD11 hg12 HMK
       have ez10:w12.cell? ⟨g,10,none⟩=some (.int .i64 0):=HB12.out.cell 10
       have ez13:w12.cell? ⟨g,13,none⟩=some (str []):=HB12.out.cell 13
       have ef10:w12.frozen? ⟨g,10,none⟩=false:=HB12.out.free 10 (.inr (Nat.zero_le _))
       have ef13:w12.frozen? ⟨g,13,none⟩=false:=HB12.out.free 13 (.inr (Nat.zero_le _))
       go_region
       go_upto_region 24 with fail
       refine at_world (P:=Code.wp _ _ _ _) (w0:=((w12.setCell ⟨g,10,none⟩ (.int .i64 3)).setCell ⟨g,13,none⟩ (str (V.drop 31))).drew) ?_
       intro w13 hw13
       have HB13:=hid (show Bk w13 g 44 #[.int .i64 0,.int .i64 0,str m,str t,.int .i64 206,.slice A fs.length c,.int .i64 (k:Nat),.int .i64 (z:Nat),.slice none 0 0,.int .i64 0,.int .i64 3,.int .i64 0,.int .i64 0,str (V.drop 31),(.pointer (some ⟨gf,0,none⟩))] (0,0) from by rw [hw13];exact ((HB12.out.set 10 _).set 13 _).gr (Gr.refl _).dr)
       have HK13:=hid (show w.grownBy w13 (some g) from by rw [hw13];exact by_tr (by_st (by_st (HK12.out) 10 _) 13 _) (Gr.refl _).dr)
       have HD13:=hid (show F13 w13 gf (FrT.new k z) 0 from by rw [hw13];exact HD12.out.far (by_tr (by_st (by_st ((Gr.refl w12).by (some g)) 10 _) 13 _) (Gr.refl _).dr) HNE.out)
       clear hw13 HB12 HK12 HD12 ez10 ez13 ef10 ef13
       have ez0:w13.cell? ⟨g,0,none⟩=some (.int .i64 0):=HB13.out.cell 0
       have ez1:w13.cell? ⟨g,1,none⟩=some (.int .i64 0):=HB13.out.cell 1
       have ef1:w13.frozen? ⟨g,1,none⟩=false:=HB13.out.free 1 (.inr (Nat.zero_le _))
       go_wp2_with fail
       go_end0
       refine ⟨rfl,by_st HK13.out 1 _,?_⟩
       rw [HXr.out]
       exact ⟨gf,by rw [HDE.out];exact HB13.out.set 1 (.int .i64 1),HD13.out.far (by_st ((Gr.refl w13).by (some g)) 1 _) HNE.out,HGF.out⟩
   | some x=>
     have hsp:=HRS.out x hrr
     rw [hrr] at HXd HRG
     clear HRS
     obtain ⟨f,tl,tot⟩:=x
     simp only [rangeV] at HRG HXd hsp
     clear hrr hlc
     go_upto_region 16 with (first
      | (go_at_call 53;refine HFC.out.mono ?_;rintro e w8 ⟨rfl,hg8⟩)
      | (go_at_call 52;refine (HRG.out _).mono ?_;rintro e w9 ⟨rfl,hg9⟩))
     have hgs:=Gr.al (Gr.tr hg8 hg9) (.cells #[.int .i64 f,.int .i64 tl] 41)
     have hbs:=Bk.new w9 41 #[.int .i64 f,.int .i64 tl] (0,0)
     have hgsz:w7.heap.size≤w9.heap.size:=(Gr.tr hg8 hg9).size
     generalize w9.alloc (Obj.cells #[.int .i64 f,.int .i64 tl] 41)=w10 at *
     generalize w9.heap.size=gs at *
     clear hg8 hg9 HFC HRG s5
     go_upto_region 18 with (go_at_call 53;refine (HFT.out _ hgs).mono ?_;rintro e w11 ⟨rfl,hg11⟩)
     have HB11:=hid (HB7.out.gr (Gr.tr hgs hg11))
     have HK11:=hid (by_tr HK7.out (Gr.tr hgs hg11))
     have HD11:=hid (HD7.out.gr (Gr.tr hgs hg11))
     have HS11:=hid (hbs.gr hg11)
     have HGS:=hid (show g≠gs by have:=HB7.out.lt;omega)
     clear HB7 HK7 HF7 HD7 HFT hgs hbs hg11 hgsz r5 s4
     have ez10:w11.cell? ⟨g,10,none⟩=some (.int .i64 0):=HB11.out.cell 10
     have ez11:w11.cell? ⟨g,11,none⟩=some (.int .i64 0):=HB11.out.cell 11
     have ez12:w11.cell? ⟨g,12,none⟩=some (.int .i64 0):=HB11.out.cell 12
     have ef10:w11.frozen? ⟨g,10,none⟩=false:=HB11.out.free 10 (.inr (Nat.zero_le _))
     have ef11:w11.frozen? ⟨g,11,none⟩=false:=HB11.out.free 11 (.inr (Nat.zero_le _))
     have ef12:w11.frozen? ⟨g,12,none⟩=false:=HB11.out.free 12 (.inr (Nat.zero_le _))
     have x0:w11.cell? ⟨gs,0,none⟩=some (.int .i64 f):=HS11.out.cell 0
     have x1:w11.cell? ⟨gs,1,none⟩=some (.int .i64 tl):=HS11.out.cell 1
     go_upto_region 19 with fail
     go_region
     go_upto_region 20 with fail
     refine at_world (P:=Code.wp _ _ _ _) (w0:=(((w11.setCell ⟨g,10,none⟩ (.int .i64 2)).setCell ⟨g,11,none⟩ (.int .i64 f)).setCell ⟨g,12,none⟩ (.int .i64 tl)).drew) ?_
     intro w13 hw13
     have HB13:=hid (show Bk w13 g 44 #[.int .i64 0,.int .i64 0,str m,str t,.int .i64 206,.slice A fs.length c,.int .i64 (k:Nat),.int .i64 (z:Nat),.slice none 0 0,.int .i64 0,.int .i64 2,.int .i64 f,.int .i64 tl,str [],(.pointer (some ⟨gf,0,none⟩))] (0,0) from by rw [hw13];exact (((HB11.out.set 10 _).set 11 _).set 12 _).gr (Gr.refl _).dr)
     have HK13:=hid (show w.grownBy w13 (some g) from by rw [hw13];exact by_tr (by_st (by_st (by_st (HK11.out) 10 _) 11 _) 12 _) (Gr.refl _).dr)
     have HD13:=hid (show F13 w13 gf (FrT.new k z) 0 from by rw [hw13];exact HD11.out.far (by_tr (by_st (by_st (by_st ((Gr.refl w11).by (some g)) 10 _) 11 _) 12 _) (Gr.refl _).dr) HNE.out)
     have HS13:=hid (show Bk w13 gs 41 #[.int .i64 f,.int .i64 tl] (0,0) from by rw [hw13];exact bk_byo HS11.out (by_tr (by_st (by_st (by_st ((Gr.refl w11).by (some g)) 10 _) 11 _) 12 _) (Gr.refl _).dr) (by simpa using HGS.out.symm))
     clear hw13 HB11 HK11 HD11 HS11 ez10 ez11 ez12 ef10 ef11 ef12 x0 x1
     have x0:w13.cell? ⟨gs,0,none⟩=some (.int .i64 f):=HS13.out.cell 0
     have x1:w13.cell? ⟨gs,1,none⟩=some (.int .i64 tl):=HS13.out.cell 1
     have e1:IntKind.i64.wrap (tl-f)=tl-f:=IntWalk.i64_in _ (by omega)
     by_cases hk:k=1
     case neg=>
      have dk:((k:Int)==1)=false:=by simp;omega
      have HXr:=hid (HXd.out.trans (if_neg (fun h=>hk h.1)))
      clear HXd hk
      have ez0:w13.cell? ⟨g,0,none⟩=some (.int .i64 0):=HB13.out.cell 0
      have ez1:w13.cell? ⟨g,1,none⟩=some (.int .i64 0):=HB13.out.cell 1
      have ef1:w13.frozen? ⟨g,1,none⟩=false:=HB13.out.free 1 (.inr (Nat.zero_le _))
      go_wp2_with fail
      go_end0
      refine ⟨rfl,by_st HK13.out 1 _,?_⟩
      rw [HXr.out]
      exact ⟨gf,by rw [HDE.out];exact HB13.out.set 1 (.int .i64 1),HD13.out.far (by_st ((Gr.refl w13).by (some g)) 1 _) HNE.out,HGF.out⟩
     by_cases hzz:(z:Int)=tl-f
     case pos=>
      have HXr:=hid (HXd.out.trans (if_neg (fun h=>h.2 hzz)))
      have dk:((k:Int)==1)=true:=by simp;omega
      have dz:((z:Int) != tl-f)=false:=by simp [hzz]
      clear HXd hk hzz
      have ez0:w13.cell? ⟨g,0,none⟩=some (.int .i64 0):=HB13.out.cell 0
      have ez1:w13.cell? ⟨g,1,none⟩=some (.int .i64 0):=HB13.out.cell 1
      have ef1:w13.frozen? ⟨g,1,none⟩=false:=HB13.out.free 1 (.inr (Nat.zero_le _))
      go_wp2_with fail
      go_end0
      refine ⟨rfl,by_st HK13.out 1 _,?_⟩
      rw [HXr.out]
      exact ⟨gf,by rw [HDE.out];exact HB13.out.set 1 (.int .i64 1),HD13.out.far (by_st ((Gr.refl w13).by (some g)) 1 _) HNE.out,HGF.out⟩
     have HXr:=hid (HXd.out.trans (if_pos ⟨hk,hzz⟩))
     have dk:((k:Int)==1)=true:=by simp;omega
     have dz:((z:Int) != tl-f)=true:=by simpa using hzz
     clear HXd hk hzz
     have ez0:w13.cell? ⟨g,0,none⟩=some (.int .i64 0):=HB13.out.cell 0
     have ef0:w13.frozen? ⟨g,0,none⟩=false:=HB13.out.free 0 (.inr (Nat.zero_le _))
     go_upto_region 24 with fail
     have HB0:=hid (HB13.out.set 0 (.int .i64 2))
     have HK0:=hid (by_st HK13.out 0 (.int .i64 2))
     generalize w13.setCell ⟨g,0,none⟩ (.int .i64 2)=wz at *
     clear ez0 ef0
     have ez0:wz.cell? ⟨g,0,none⟩=some (.int .i64 2):=HB0.out.cell 0
     go_wp2_with fail
     go_end0
     refine ⟨rfl,HK0.out,?_⟩
     rw [HXr.out]
     exact ⟨_,_,_,_,_,_,_,_,_,_,_,_,_,HB0.out⟩
  case true=>
   have r9:∀x,Gr w5 x→x.cell? ⟨g,9,none⟩=some (.int .i64 0):=fun x h=>(HB5.out.gr h).cell 9
   have q9:∀x,Gr w5 x→x.frozen? ⟨g,9,none⟩=false:=fun x h=>(HB5.out.gr h).free 9 (.inr (Nat.zero_le _))
   go_upto_region 11 with (go_at_call 24;refine HDN.out.mono ?_;rintro e w6 ⟨rfl,hg6⟩)
   have HB7:=hid (show Bk (w6.setCell ⟨g,9,none⟩ (.int .i64 1)) g 44 #[.int .i64 0,.int .i64 0,str m,str t,.int .i64 st,.slice A fs.length c,.int .i64 (k:Nat),.int .i64 (z:Nat),.slice none 0 0,.int .i64 1,.int .i64 0,.int .i64 0,.int .i64 0,str [],(.pointer (some ⟨gf,0,none⟩))] (0,0) from (HB5.out.gr hg6).set 9 (.int .i64 1))
   have HK7:=hid (show w.grownBy (w6.setCell ⟨g,9,none⟩ (.int .i64 1)) (some g) from by_st (by_tr HK5.out hg6) 9 _)
   have HF7:=hid (show Flds (w6.setCell ⟨g,9,none⟩ (.int .i64 1)) (.slice A fs.length c) fs from (HF5.out.gr hg6).st hne 9 _)
   have HD7:=hid (show F13 (w6.setCell ⟨g,9,none⟩ (.int .i64 1)) gf (FrT.new k z) 0 from (HD5.out.gr hg6).far (by_st ((Gr.refl w6).by (some g)) 9 _) HNE.out)
   generalize w6.setCell ⟨g,9,none⟩ (.int .i64 1)=w7 at *
   clear r9 q9
   clear HB5 HK5 HF5 HD5 HDN hg6 z14
   have s4:w7.cell? ⟨g,4,none⟩=some (.int .i64 st):=HB7.out.cell 4
   by_cases h200:st=200
   ·have HXr:=hid (HX.out.trans (if_pos h200))
    clear HX
    subst h200
    have dz10:w7.cell? ⟨g,10,none⟩=some (.int .i64 0):=HB7.out.cell 10
    have df10:w7.frozen? ⟨g,10,none⟩=false:=HB7.out.free 10 (.inr (Nat.zero_le _))
    go_upto_region 24 with fail
    have HB8:=hid (HB7.out.set 10 (.int .i64 1))
    have HK8:=hid (by_st HK7.out 10 (.int .i64 1))
    have HD8:=hid (HD7.out.far (by_st ((Gr.refl w7).by (some g)) 10 (.int .i64 1)) HNE.out)
    generalize w7.setCell ⟨g,10,none⟩ (.int .i64 1)=w8 at *
    clear HB7 HK7 HF7 HD7 s4 dz10 df10
    have ez0:w8.cell? ⟨g,0,none⟩=some (.int .i64 0):=HB8.out.cell 0
    have ez1:w8.cell? ⟨g,1,none⟩=some (.int .i64 0):=HB8.out.cell 1
    have ef1:w8.frozen? ⟨g,1,none⟩=false:=HB8.out.free 1 (.inr (Nat.zero_le _))
    go_wp2_with fail
    go_end0
    refine ⟨rfl,by_st HK8.out 1 _,?_⟩
    rw [HXr.out]
    exact ⟨gf,by rw [HDE.out];exact HB8.out.set 1 (.int .i64 1),HD8.out.far (by_st ((Gr.refl w8).by (some g)) 1 _) HNE.out,HGF.out⟩
   have HXb:=hid (HX.out.trans (if_neg h200))
   clear HX
   have d200:(st==200)=false:=by simp [h200]
   by_cases h206:st=206
   case neg=>
    have HXr:=hid (HXb.out.trans (if_neg h206))
    clear HXb
    have d206:(st==206)=false:=by simp [h206]
    clear h200 h206
    go_upto_region 24 with fail
    clear s4 d200 d206
    have ez0:w7.cell? ⟨g,0,none⟩=some (.int .i64 0):=HB7.out.cell 0
    have ez1:w7.cell? ⟨g,1,none⟩=some (.int .i64 0):=HB7.out.cell 1
    have ef1:w7.frozen? ⟨g,1,none⟩=false:=HB7.out.free 1 (.inr (Nat.zero_le _))
    go_wp2_with fail
    go_end0
    refine ⟨rfl,by_st HK7.out 1 _,?_⟩
    rw [HXr.out]
    exact ⟨gf,by rw [HDE.out];exact HB7.out.set 1 (.int .i64 1),HD7.out.far (by_st ((Gr.refl w7).by (some g)) 1 _) HNE.out,HGF.out⟩
   have HXc:=hid (HXb.out.trans (if_pos h206))
   clear HXb
   subst h206
   clear h200 d200
   have HXd:=hid (HXc.out.trans (show rangedR fs k z=match rangeR (getN fs crN).1 with | some x=>if k=1∧(z:Int)≠x.2.1-x.1 then .bad0 else .body ⟨206,fs,k,z,2,x.1,x.2.1,[]⟩ (FrT.new k z) [] | none=>match stripL sevN (getN fs ctN).1 with | some b=>if boundB b then .body ⟨206,fs,k,z,3,0,0,b⟩ (FrT.new k z) [] else .bad0 | none=>.bad0 from rfl))
   clear HXc
   rw [strip_sev] at HXd
   have HFC:=hid (refFirst16_any (.slice A fs.length c) fs crN w7 HF7.out (short_right hr) (by decide) (by omega))
   have HFT:=hid (fun (x:World) (hx:Gr w7 x)=>refFirst16_any (.slice A fs.length c) fs ctN x (HF7.out.gr hx) (short_right hr) (by decide) (by omega))
   have hlc:=getN_len hr crN
   have hlt:=getN_len hr ctN
   have HRG:=hid (fun (x:World)=>refRange_any (getN fs crN).1 x (by omega))
   have HRS:=hid (fun (x:Int×Int×Int) (h:rangeR (getN fs crN).1=some x)=>rangeR_span h)
   have s5:w7.cell? ⟨g,5,none⟩=some (.slice A fs.length c):=HB7.out.cell 5
   have r5:∀x,Gr w7 x→x.cell? ⟨g,5,none⟩=some (.slice A fs.length c):=fun x h=>(HB7.out.gr h).cell 5
   generalize (getN fs ctN).1=V at *
   generalize (getN fs crN).1=C at *
   cases hrr:rangeR C with
   | none=>
     rw [hrr] at HXd HRG
     clear HRS
     simp only [rangeV] at HRG
     clear hrr hlc
     go_upto_region 16 with (first
      | (go_at_call 53;refine HFC.out.mono ?_;rintro e w8 ⟨rfl,hg8⟩)
      | (go_at_call 52;refine (HRG.out _).mono ?_;rintro e w9 ⟨rfl,hg9⟩))
     have hgs:=Gr.al (Gr.tr hg8 hg9) (.cells #[.int .i64 0,.int .i64 0] 41)
     have hbs:=Bk.new w9 41 #[.int .i64 0,.int .i64 0] (0,0)
     have hgsz:w7.heap.size≤w9.heap.size:=(Gr.tr hg8 hg9).size
     generalize w9.alloc (Obj.cells #[.int .i64 0,.int .i64 0] 41)=w10 at *
     generalize w9.heap.size=gs at *
     clear hg8 hg9 HFC HRG s5
     go_upto_region 18 with (go_at_call 53;refine (HFT.out _ hgs).mono ?_;rintro e w11 ⟨rfl,hg11⟩)
     have HB11:=hid (HB7.out.gr (Gr.tr hgs hg11))
     have HK11:=hid (by_tr HK7.out (Gr.tr hgs hg11))
     have HD11:=hid (HD7.out.gr (Gr.tr hgs hg11))
     have HS11:=hid (hbs.gr hg11)
     have HGS:=hid (show g≠gs by have:=HB7.out.lt;omega)
     clear HB7 HK7 HF7 HD7 HFT hgs hbs hg11 hgsz r5 s4
     clear HS11 HGS
     by_cases hV:31 < V.length
     case neg=>
      have dV:decide (31 < (V.length:Int))=false:=decide_eq_false (by omega)
      have hd:V.drop 31=[]:=List.drop_of_length_le (by omega)
      have HXr:=hid (HXd.out.trans (show _=ClS.bad0 from by rw [hd];by_cases hp:V.take 31=sevN;rw [if_pos hp];rfl;rw [if_neg hp]))
      clear hd hV
      have ez0:w11.cell? ⟨g,0,none⟩=some (.int .i64 0):=HB11.out.cell 0
      have ef0:w11.frozen? ⟨g,0,none⟩=false:=HB11.out.free 0 (.inr (Nat.zero_le _))
      go_upto_region 24 with fail
      have HB0:=hid (HB11.out.set 0 (.int .i64 2))
      have HK0:=hid (by_st HK11.out 0 (.int .i64 2))
      generalize w11.setCell ⟨g,0,none⟩ (.int .i64 2)=wz at *
      clear ez0 ef0
      have ez0:wz.cell? ⟨g,0,none⟩=some (.int .i64 2):=HB0.out.cell 0
      go_wp2_with fail
      go_end0
      refine ⟨rfl,HK0.out,?_⟩
      rw [HXr.out]
      exact ⟨_,_,_,_,_,_,_,_,_,_,_,_,_,HB0.out⟩
     have dV:decide (31 < (V.length:Int))=true:=decide_eq_true (by omega)
     by_cases hp:V.take 31=sevN
     case neg=>
      have dp:(V.take 31==sevN)=false:=by simpa using hp
      have HXr:=hid (HXd.out.trans (show _=ClS.bad0 from by rw [if_neg hp]))
      unfold sevN at dp
      clear hp
      have ez0:w11.cell? ⟨g,0,none⟩=some (.int .i64 0):=HB11.out.cell 0
      have ef0:w11.frozen? ⟨g,0,none⟩=false:=HB11.out.free 0 (.inr (Nat.zero_le _))
      go_upto_region 24 with fail
      have HB0:=hid (HB11.out.set 0 (.int .i64 2))
      have HK0:=hid (by_st HK11.out 0 (.int .i64 2))
      generalize w11.setCell ⟨g,0,none⟩ (.int .i64 2)=wz at *
      clear ez0 ef0
      have ez0:wz.cell? ⟨g,0,none⟩=some (.int .i64 2):=HB0.out.cell 0
      go_wp2_with fail
      go_end0
      refine ⟨rfl,HK0.out,?_⟩
      rw [HXr.out]
      exact ⟨_,_,_,_,_,_,_,_,_,_,_,_,_,HB0.out⟩
     have dp:(V.take 31==sevN)=true:=by simpa using hp
     have HXe:=hid (HXd.out.trans (show _=(if boundB (V.drop 31) then ClS.body ⟨206,fs,k,z,3,0,0,V.drop 31⟩ (FrT.new k z) [] else .bad0) from by rw [if_pos hp]))
     have HMK:=hid (fun (x:World)=>refMark_any (V.drop 31) x (by rw [List.length_drop];omega))
     unfold sevN at dp
     clear hp
     cases hbb:boundB (V.drop 31) with
     | false=>
       rw [hbb] at HXe HMK
       have HXr:=hid (HXe.out.trans (if_neg (by decide)))
       clear hbb
       have r0:∀x,Gr w11 x→x.cell? ⟨g,0,none⟩=some (.int .i64 0):=fun x h=>(HB11.out.gr h).cell 0
       have q0:∀x,Gr w11 x→x.frozen? ⟨g,0,none⟩=false:=fun x h=>(HB11.out.gr h).free 0 (.inr (Nat.zero_le _))
       go_upto_region 24 with (go_at_call 54;refine (HMK.out _).mono ?_;rintro e w12 ⟨rfl,hg12⟩)
       have HB0:=hid ((HB11.out.gr hg12).set 0 (.int .i64 2))
       have HK0:=hid (by_st (by_tr HK11.out hg12) 0 (.int .i64 2))
       generalize w12.setCell ⟨g,0,none⟩ (.int .i64 2)=wz at *
       clear r0 q0
       have ez0:wz.cell? ⟨g,0,none⟩=some (.int .i64 2):=HB0.out.cell 0
       go_wp2_with fail
       go_end0
       refine ⟨rfl,HK0.out,?_⟩
       rw [HXr.out]
       exact ⟨_,_,_,_,_,_,_,_,_,_,_,_,_,HB0.out⟩
     | true=>
       rw [hbb] at HXe HMK
       have HXr:=hid (HXe.out.trans (if_pos rfl))
       clear hbb
       go_upto_region 23 with (go_at_call 54;refine (HMK.out _).mono ?_;rintro e w12 ⟨rfl,hg12⟩)
       have HB12:=hid (HB11.out.gr hg12)
       have HK12:=hid (by_tr HK11.out hg12)
       have HD12:=hid (HD11.out.gr hg12)
       clear HB11 HK11 HD11 hg12 HMK
       have ez10:w12.cell? ⟨g,10,none⟩=some (.int .i64 0):=HB12.out.cell 10
       have ez13:w12.cell? ⟨g,13,none⟩=some (str []):=HB12.out.cell 13
       have ef10:w12.frozen? ⟨g,10,none⟩=false:=HB12.out.free 10 (.inr (Nat.zero_le _))
       have ef13:w12.frozen? ⟨g,13,none⟩=false:=HB12.out.free 13 (.inr (Nat.zero_le _))
       go_region
       go_upto_region 24 with fail
       refine at_world (P:=Code.wp _ _ _ _) (w0:=((w12.setCell ⟨g,10,none⟩ (.int .i64 3)).setCell ⟨g,13,none⟩ (str (V.drop 31))).drew) ?_
       intro w13 hw13
       have HB13:=hid (show Bk w13 g 44 #[.int .i64 0,.int .i64 0,str m,str t,.int .i64 206,.slice A fs.length c,.int .i64 (k:Nat),.int .i64 (z:Nat),.slice none 0 0,.int .i64 1,.int .i64 3,.int .i64 0,.int .i64 0,str (V.drop 31),(.pointer (some ⟨gf,0,none⟩))] (0,0) from by rw [hw13];exact ((HB12.out.set 10 _).set 13 _).gr (Gr.refl _).dr)
       have HK13:=hid (show w.grownBy w13 (some g) from by rw [hw13];exact by_tr (by_st (by_st (HK12.out) 10 _) 13 _) (Gr.refl _).dr)
       have HD13:=hid (show F13 w13 gf (FrT.new k z) 0 from by rw [hw13];exact HD12.out.far (by_tr (by_st (by_st ((Gr.refl w12).by (some g)) 10 _) 13 _) (Gr.refl _).dr) HNE.out)
       clear hw13 HB12 HK12 HD12 ez10 ez13 ef10 ef13
       have ez0:w13.cell? ⟨g,0,none⟩=some (.int .i64 0):=HB13.out.cell 0
       have ez1:w13.cell? ⟨g,1,none⟩=some (.int .i64 0):=HB13.out.cell 1
       have ef1:w13.frozen? ⟨g,1,none⟩=false:=HB13.out.free 1 (.inr (Nat.zero_le _))
       go_wp2_with fail
       go_end0
       refine ⟨rfl,by_st HK13.out 1 _,?_⟩
       rw [HXr.out]
       exact ⟨gf,by rw [HDE.out];exact HB13.out.set 1 (.int .i64 1),HD13.out.far (by_st ((Gr.refl w13).by (some g)) 1 _) HNE.out,HGF.out⟩
   | some x=>
     have hsp:=HRS.out x hrr
     rw [hrr] at HXd HRG
     clear HRS
     obtain ⟨f,tl,tot⟩:=x
     simp only [rangeV] at HRG HXd hsp
     clear hrr hlc
     go_upto_region 16 with (first
      | (go_at_call 53;refine HFC.out.mono ?_;rintro e w8 ⟨rfl,hg8⟩)
      | (go_at_call 52;refine (HRG.out _).mono ?_;rintro e w9 ⟨rfl,hg9⟩))
     have hgs:=Gr.al (Gr.tr hg8 hg9) (.cells #[.int .i64 f,.int .i64 tl] 41)
     have hbs:=Bk.new w9 41 #[.int .i64 f,.int .i64 tl] (0,0)
     have hgsz:w7.heap.size≤w9.heap.size:=(Gr.tr hg8 hg9).size
     generalize w9.alloc (Obj.cells #[.int .i64 f,.int .i64 tl] 41)=w10 at *
     generalize w9.heap.size=gs at *
     clear hg8 hg9 HFC HRG s5
     go_upto_region 18 with (go_at_call 53;refine (HFT.out _ hgs).mono ?_;rintro e w11 ⟨rfl,hg11⟩)
     have HB11:=hid (HB7.out.gr (Gr.tr hgs hg11))
     have HK11:=hid (by_tr HK7.out (Gr.tr hgs hg11))
     have HD11:=hid (HD7.out.gr (Gr.tr hgs hg11))
     have HS11:=hid (hbs.gr hg11)
     have HGS:=hid (show g≠gs by have:=HB7.out.lt;omega)
     clear HB7 HK7 HF7 HD7 HFT hgs hbs hg11 hgsz r5 s4
     have ez10:w11.cell? ⟨g,10,none⟩=some (.int .i64 0):=HB11.out.cell 10
     have ez11:w11.cell? ⟨g,11,none⟩=some (.int .i64 0):=HB11.out.cell 11
     have ez12:w11.cell? ⟨g,12,none⟩=some (.int .i64 0):=HB11.out.cell 12
     have ef10:w11.frozen? ⟨g,10,none⟩=false:=HB11.out.free 10 (.inr (Nat.zero_le _))
     have ef11:w11.frozen? ⟨g,11,none⟩=false:=HB11.out.free 11 (.inr (Nat.zero_le _))
     have ef12:w11.frozen? ⟨g,12,none⟩=false:=HB11.out.free 12 (.inr (Nat.zero_le _))
     have x0:w11.cell? ⟨gs,0,none⟩=some (.int .i64 f):=HS11.out.cell 0
     have x1:w11.cell? ⟨gs,1,none⟩=some (.int .i64 tl):=HS11.out.cell 1
     go_upto_region 19 with fail
     go_region
     go_upto_region 20 with fail
     refine at_world (P:=Code.wp _ _ _ _) (w0:=(((w11.setCell ⟨g,10,none⟩ (.int .i64 2)).setCell ⟨g,11,none⟩ (.int .i64 f)).setCell ⟨g,12,none⟩ (.int .i64 tl)).drew) ?_
     intro w13 hw13
     have HB13:=hid (show Bk w13 g 44 #[.int .i64 0,.int .i64 0,str m,str t,.int .i64 206,.slice A fs.length c,.int .i64 (k:Nat),.int .i64 (z:Nat),.slice none 0 0,.int .i64 1,.int .i64 2,.int .i64 f,.int .i64 tl,str [],(.pointer (some ⟨gf,0,none⟩))] (0,0) from by rw [hw13];exact (((HB11.out.set 10 _).set 11 _).set 12 _).gr (Gr.refl _).dr)
     have HK13:=hid (show w.grownBy w13 (some g) from by rw [hw13];exact by_tr (by_st (by_st (by_st (HK11.out) 10 _) 11 _) 12 _) (Gr.refl _).dr)
     have HD13:=hid (show F13 w13 gf (FrT.new k z) 0 from by rw [hw13];exact HD11.out.far (by_tr (by_st (by_st (by_st ((Gr.refl w11).by (some g)) 10 _) 11 _) 12 _) (Gr.refl _).dr) HNE.out)
     have HS13:=hid (show Bk w13 gs 41 #[.int .i64 f,.int .i64 tl] (0,0) from by rw [hw13];exact bk_byo HS11.out (by_tr (by_st (by_st (by_st ((Gr.refl w11).by (some g)) 10 _) 11 _) 12 _) (Gr.refl _).dr) (by simpa using HGS.out.symm))
     clear hw13 HB11 HK11 HD11 HS11 ez10 ez11 ez12 ef10 ef11 ef12 x0 x1
     have x0:w13.cell? ⟨gs,0,none⟩=some (.int .i64 f):=HS13.out.cell 0
     have x1:w13.cell? ⟨gs,1,none⟩=some (.int .i64 tl):=HS13.out.cell 1
     have e1:IntKind.i64.wrap (tl-f)=tl-f:=IntWalk.i64_in _ (by omega)
     by_cases hk:k=1
     case neg=>
      have dk:((k:Int)==1)=false:=by simp;omega
      have HXr:=hid (HXd.out.trans (if_neg (fun h=>hk h.1)))
      clear HXd hk
      have ez0:w13.cell? ⟨g,0,none⟩=some (.int .i64 0):=HB13.out.cell 0
      have ez1:w13.cell? ⟨g,1,none⟩=some (.int .i64 0):=HB13.out.cell 1
      have ef1:w13.frozen? ⟨g,1,none⟩=false:=HB13.out.free 1 (.inr (Nat.zero_le _))
      go_wp2_with fail
      go_end0
      refine ⟨rfl,by_st HK13.out 1 _,?_⟩
      rw [HXr.out]
      exact ⟨gf,by rw [HDE.out];exact HB13.out.set 1 (.int .i64 1),HD13.out.far (by_st ((Gr.refl w13).by (some g)) 1 _) HNE.out,HGF.out⟩
     by_cases hzz:(z:Int)=tl-f
     case pos=>
      have HXr:=hid (HXd.out.trans (if_neg (fun h=>h.2 hzz)))
      have dk:((k:Int)==1)=true:=by simp;omega
      have dz:((z:Int) != tl-f)=false:=by simp [hzz]
      clear HXd hk hzz
      have ez0:w13.cell? ⟨g,0,none⟩=some (.int .i64 0):=HB13.out.cell 0
      have ez1:w13.cell? ⟨g,1,none⟩=some (.int .i64 0):=HB13.out.cell 1
      have ef1:w13.frozen? ⟨g,1,none⟩=false:=HB13.out.free 1 (.inr (Nat.zero_le _))
      go_wp2_with fail
      go_end0
      refine ⟨rfl,by_st HK13.out 1 _,?_⟩
      rw [HXr.out]
      exact ⟨gf,by rw [HDE.out];exact HB13.out.set 1 (.int .i64 1),HD13.out.far (by_st ((Gr.refl w13).by (some g)) 1 _) HNE.out,HGF.out⟩
     have HXr:=hid (HXd.out.trans (if_pos ⟨hk,hzz⟩))
     have dk:((k:Int)==1)=true:=by simp;omega
     have dz:((z:Int) != tl-f)=true:=by simpa using hzz
     clear HXd hk hzz
     have ez0:w13.cell? ⟨g,0,none⟩=some (.int .i64 0):=HB13.out.cell 0
     have ef0:w13.frozen? ⟨g,0,none⟩=false:=HB13.out.free 0 (.inr (Nat.zero_le _))
     go_upto_region 24 with fail
     have HB0:=hid (HB13.out.set 0 (.int .i64 2))
     have HK0:=hid (by_st HK13.out 0 (.int .i64 2))
     generalize w13.setCell ⟨g,0,none⟩ (.int .i64 2)=wz at *
     clear ez0 ef0
     have ez0:wz.cell? ⟨g,0,none⟩=some (.int .i64 2):=HB0.out.cell 0
     go_wp2_with fail
     go_end0
     refine ⟨rfl,HK0.out,?_⟩
     rw [HXr.out]
     exact ⟨_,_,_,_,_,_,_,_,_,_,_,_,_,HB0.out⟩
end Go.Proofs.YtgfckbhkgggkeaaGreatDoor
/- XClient22 -/
namespace Go.Proofs.YtgfckbhkgggkeaaGreatDoor
open Lib (hid)
open Go.RowKit
theorem put4c {W w wy:World} {g:Nat} {t:TypeId} {a b c d a' b' c' d':Value} (h:wy=putCs w g [a,b,c,d] 0∨wy=(putCs w g [a,b,c,d] 0).drew) (hb:Bk w g t #[a',b',c',d'] (0,0)) (hg:Gr W w) (hs:W.heap.size≤g):Bk wy g t #[a,b,c,d] (0,0)∧Gr W wy:=by
 have h1:Bk (putCs w g [a,b,c,d] 0) g t #[a,b,c,d] (0,0):=putCs_bk hb rfl
 have h2:=putCs_gr hs [a,b,c,d] 0 _ hg
 rcases h with h | h
 ·rw [h];exact ⟨h1,h2⟩
 ·rw [h];exact ⟨h1.gr (Gr.refl _).dr,h2.dr⟩
set_option maxHeartbeats 8000000 in
set_option maxRecDepth 100000 in
theorem answer16_any {W0 w:World} {g:Nat} {S:List Nat} {wr dn:Int} {m t:List UInt8} {h:ClH} {fv fp bv:Value} {b:List UInt8} (i:RdB W0 w g S wr dn m t h fv fp bv b) :
  Calls Tryz.prog 38 #[.pointer (some ⟨g,0,none⟩)] w fun e w'=>e=.returned (.agg #[.int .i64 h.st,fv,.slice none 0 0,.int .i64 (sizeH h)])∧Gr w w':=by
 obtain ⟨A,c,rfl,-,-,-⟩:=id i.fs.1
 have hbk:=i.bk
 have HGL:=hid hbk.lt
 clear i
 obtain ⟨st,fs,k,z,te,f,tl,bn⟩:=h
 unfold rdCs at hbk
 simp only at hbk ⊢
 have hb:=Bk.new w 74 #[.int .i64 0,.slice none 0 0,.slice none 0 0,.int .i64 0] (0,0)
 have hg1:=Gr.al (Gr.refl w) (.cells #[.int .i64 0,.slice none 0 0,.slice none 0 0,.int .i64 0] 74)
 go_enter Tryz.func38,Tryz.ntmps38
 go_upto_region 1 with fail
 generalize w.alloc (Obj.cells #[.int .i64 0,.slice none 0 0,.slice none 0 0,.int .i64 0] 74)=w1 at *
 generalize hgq:w.heap.size=g1 at *
 have HR1:=hid hb
 have HG1:=hid hg1
 have HBK:=hid (hbk.gr hg1)
 have HGQ:=hid hgq
 clear hb hg1 hbk hgq
 have r4:∀x,Gr w1 x→x.cell? ⟨g,4,none⟩=some (.int .i64 st):=fun x h=>(HBK.out.gr h).cell 4
 have r5:∀x,Gr w1 x→x.cell? ⟨g,5,none⟩=some (.slice A fs.length c):=fun x h=>(HBK.out.gr h).cell 5
 go_upto_region 1 with fail
 have p4:=gx_cell (r:=none) (r4 w1 (Gr.refl _)) (by simp)
 have p5:=gx_cell (r:=none) (r5 w1 (Gr.refl _)) (by simp)
 refine wp_region_mix [0,1,2,3,4,5,6,7,8,9,10] none 2 (by kernel_rfl) rfl (by kernel_rfl) (fun o _ _ _ _ h=>by cases o <;> exact h) ?_
 simp only [pickOps,List.filterMap_cons,List.filterMap_nil,List.getElem?_cons_zero,List.getElem?_cons_succ]
 repeat (first | (refine wpGq_step (fun K hK=>?_);go_simp;refine hK _ ?_;clear hK K) | (refine wpGq_step (fun K hK=>?_);go_simp;simp only [↓IntWalk.iteOmega];go_simp;refine hK _ ?_;clear hK K) | (refine wpGq_step (fun K hK=>?_);go_simp;apply Exists.intro;refine ⟨fun _=>?_,hK _ ?_⟩;fail;clear hK K))
 refine wpGq_nil ?_
 refine wpG_one 11 (by kernel_rfl) rfl rfl (fun K hK wa hga=>?_)
 go_simp
 refine hK _ _ ((Gr.al hga _).by _) ?_
 clear hK K
 have hna:=Bk.new wa 74 #[.int .i64 0,.slice none 0 0,.slice none 0 0,.int .i64 0] (0,0)
 refine wpG_one 12 (by kernel_rfl) rfl rfl (fun K hK wb hgb=>?_)
 have hnb:=hna.gr hgb
 have hgwb:=Gr.tr (Gr.al hga (.cells #[.int .i64 0,.slice none 0 0,.slice none 0 0,.int .i64 0] 74)) hgb
 have hgn:w1.heap.size≤wa.heap.size:=hga.size
 generalize wa.heap.size=gn at *
 obtain ⟨n0,n1,n2,n3⟩:=Bk.cells4 hnb
 obtain ⟨k0,k1,k2,k3⟩:=Bk.free4 hnb
 go_simp
 refine hK _ _ ((putCs_gr hgn [.int .i64 st,.slice A fs.length c,.slice none 0 0,.int .i64 (-1)] 0 _ hgwb).by _) ?_
 clear hK K
 refine wpG_done (by kernel_rfl) (fun wz hgz=>?_)
 have HNZ:=hid ((putCs_bk hnb rfl:Bk (putCs wb gn [.int .i64 st,.slice A fs.length c,.slice none 0 0,.int .i64 (-1)] 0) gn 74 #[.int .i64 st,.slice A fs.length c,.slice none 0 0,.int .i64 (-1)] (0,0)).gr hgz)
 have HWZ:=hid (Gr.tr (putCs_gr hgn [.int .i64 st,.slice A fs.length c,.slice none 0 0,.int .i64 (-1)] 0 _ hgwb) hgz)
 have HGN:=hid (show w.heap.size≤gn∧g1≠gn from by have h1:=HR1.out.lt;have h2:=HG1.out.size;omega)
 have HGE:=hid (show g≠gn from by have h1:=HGL.out;have h2:=HR1.out.lt;omega)
 clear p4 p5 n0 n1 n2 n3 k0 k1 k2 k3 hna hnb hgz hga hgb hgwb hgn r4 r5
 have HBz:=hid (HBK.out.gr HWZ.out)
 have HRz:=hid (HR1.out.gr HWZ.out)
 have HGz:=hid (Gr.tr HG1.out HWZ.out)
 clear HBK HR1 HG1 HWZ
 have z6:wz.cell? ⟨g,6,none⟩=some (.int .i64 (k:Nat)):=HBz.out.cell 6
 have z7:wz.cell? ⟨g,7,none⟩=some (.int .i64 (z:Nat)):=HBz.out.cell 7
 have m3:wz.cell? ⟨gn,3,none⟩=some (.int .i64 (-1)):=HNZ.out.cell 3
 have l3:wz.frozen? ⟨gn,3,none⟩=false:=HNZ.out.free 3 (.inr (Nat.zero_le _))
 have hsz:sizeH ⟨st,fs,k,z,te,f,tl,bn⟩=if k=1 then (z:Int) else if k=4 then 0 else -1:=rfl
 have HSZ:=hid hsz
 clear hsz
 by_cases h1:k=1
 case pos=>
  have HZ:=hid (HSZ.out.trans (if_pos h1))
  have d1:((k:Int)==1)=true:=by simp;omega
  have d4:((k:Int)==4)=false:=by simp;omega
  clear h1
  go_upto_region 4 with fail
  have HN2:=hid (show Bk (wz.setCell ⟨gn,3,none⟩ (.int .i64 (z:Nat))) gn 74 #[.int .i64 st,.slice A fs.length c,.slice none 0 0,.int .i64 (z:Nat)] (0,0) from HNZ.out.set 3 _)
  have HR2:=hid (show Bk (wz.setCell ⟨gn,3,none⟩ (.int .i64 (z:Nat))) g1 74 #[.int .i64 0,.slice none 0 0,.slice none 0 0,.int .i64 0] (0,0) from HRz.out.far (p:=⟨gn,3,none⟩) HGN.out.2 _)
  have HG2:=hid (show Gr w (wz.setCell ⟨gn,3,none⟩ (.int .i64 (z:Nat))) from HGz.out.st (p:=⟨gn,3,none⟩) HGN.out.1 _)
  have hgne:=HGE.out
  have z62:(wz.setCell ⟨gn,3,none⟩ (.int .i64 (z:Nat))).cell? ⟨g,6,none⟩=some (.int .i64 (k:Nat)):=(HBz.out.far (p:=⟨gn,3,none⟩) hgne _).cell 6
  generalize wz.setCell ⟨gn,3,none⟩ (.int .i64 (z:Nat))=w5 at *
  clear z6 z7 m3 l3 HBz HRz HGz HNZ hgne
  have u0:w5.cell? ⟨gn,0,none⟩=some (.int .i64 st):=HN2.out.cell 0
  have u1:w5.cell? ⟨gn,1,none⟩=some (.slice A fs.length c):=HN2.out.cell 1
  have u2:w5.cell? ⟨gn,2,none⟩=some (.slice none 0 0):=HN2.out.cell 2
  have u3:w5.cell? ⟨gn,3,none⟩=some (.int .i64 (z:Nat)):=HN2.out.cell 3
  obtain ⟨h0,h1,h2,h3⟩:=Bk.cells4 HR2.out
  obtain ⟨j0,j1,j2,j3⟩:=Bk.free4 HR2.out
  go_wp2_with fail
  refine at_world (P:=bodyPost _ _ _ _ _) (w0:=putCs w5 g1 [.int .i64 st,.slice A fs.length c,.slice none 0 0,.int .i64 (z:Nat)] 0) ?_
  intro wy hwy
  obtain ⟨hby,hgy⟩:=put4c (.inl hwy) HR2.out HG2.out (by have:=HGQ.out;omega)
  obtain ⟨v0,v1,v2,v3⟩:=Bk.cells4 hby
  exact bodyPost_ret (v:=.agg #[.int .i64 st,.slice A fs.length c,.slice none 0 0,.int .i64 (z:Nat)]) (by simp [results,Tryz.results38,go_sem,v0,v1,v2,v3]) rfl ⟨by rw [HZ.out],hgy⟩
 have HSB:=hid (HSZ.out.trans (if_neg h1))
 have d1:((k:Int)==1)=false:=by simp;omega
 by_cases h4:k=4
 case pos=>
  have HZ:=hid (HSB.out.trans (if_pos h4))
  have d4:((k:Int)==4)=true:=by simp;omega
  clear h1 h4
  go_upto_region 6 with fail
  have HN2:=hid (show Bk (wz.setCell ⟨gn,3,none⟩ (.int .i64 0)) gn 74 #[.int .i64 st,.slice A fs.length c,.slice none 0 0,.int .i64 0] (0,0) from HNZ.out.set 3 _)
  have HR2:=hid (show Bk (wz.setCell ⟨gn,3,none⟩ (.int .i64 0)) g1 74 #[.int .i64 0,.slice none 0 0,.slice none 0 0,.int .i64 0] (0,0) from HRz.out.far (p:=⟨gn,3,none⟩) HGN.out.2 _)
  have HG2:=hid (show Gr w (wz.setCell ⟨gn,3,none⟩ (.int .i64 0)) from HGz.out.st (p:=⟨gn,3,none⟩) HGN.out.1 _)
  generalize wz.setCell ⟨gn,3,none⟩ (.int .i64 0)=w5 at *
  clear z6 z7 m3 l3 HBz HRz HGz HNZ
  have u0:w5.cell? ⟨gn,0,none⟩=some (.int .i64 st):=HN2.out.cell 0
  have u1:w5.cell? ⟨gn,1,none⟩=some (.slice A fs.length c):=HN2.out.cell 1
  have u2:w5.cell? ⟨gn,2,none⟩=some (.slice none 0 0):=HN2.out.cell 2
  have u3:w5.cell? ⟨gn,3,none⟩=some (.int .i64 0):=HN2.out.cell 3
  obtain ⟨h0,h1,h2,h3⟩:=Bk.cells4 HR2.out
  obtain ⟨j0,j1,j2,j3⟩:=Bk.free4 HR2.out
  go_wp2_with fail
  refine at_world (P:=bodyPost _ _ _ _ _) (w0:=putCs w5 g1 [.int .i64 st,.slice A fs.length c,.slice none 0 0,.int .i64 0] 0) ?_
  intro wy hwy
  obtain ⟨hby,hgy⟩:=put4c (.inl hwy) HR2.out HG2.out (by have:=HGQ.out;omega)
  obtain ⟨v0,v1,v2,v3⟩:=Bk.cells4 hby
  exact bodyPost_ret (v:=.agg #[.int .i64 st,.slice A fs.length c,.slice none 0 0,.int .i64 0]) (by simp [results,Tryz.results38,go_sem,v0,v1,v2,v3]) rfl ⟨by rw [HZ.out],hgy⟩
 have HZ:=hid (HSB.out.trans (if_neg h4))
 have d4:((k:Int)==4)=false:=by simp;omega
 clear h1 h4 m3 l3
 have u0:wz.cell? ⟨gn,0,none⟩=some (.int .i64 st):=HNZ.out.cell 0
 have u1:wz.cell? ⟨gn,1,none⟩=some (.slice A fs.length c):=HNZ.out.cell 1
 have u2:wz.cell? ⟨gn,2,none⟩=some (.slice none 0 0):=HNZ.out.cell 2
 have u3:wz.cell? ⟨gn,3,none⟩=some (.int .i64 (-1)):=HNZ.out.cell 3
 obtain ⟨h0,h1,h2,h3⟩:=Bk.cells4 HRz.out
 obtain ⟨j0,j1,j2,j3⟩:=Bk.free4 HRz.out
 go_wp2_with fail
 refine at_world (P:=bodyPost _ _ _ _ _) (w0:=putCs wz g1 [.int .i64 st,.slice A fs.length c,.slice none 0 0,.int .i64 (-1)] 0) ?_
 intro wy hwy
 obtain ⟨hby,hgy⟩:=put4c (.inl hwy) HRz.out HGz.out (by have:=HGQ.out;omega)
 obtain ⟨v0,v1,v2,v3⟩:=Bk.cells4 hby
 exact bodyPost_ret (v:=.agg #[.int .i64 st,.slice A fs.length c,.slice none 0 0,.int .i64 (-1)]) (by simp [results,Tryz.results38,go_sem,v0,v1,v2,v3]) rfl ⟨by rw [HZ.out],hgy⟩
set_option maxHeartbeats 16000000 in
set_option maxRecDepth 100000 in
theorem bytes16_any {W0 w:World} {g:Nat} {S:List Nat} {wr dn:Int} {m t:List UInt8} {H:ClH} {fv fp bv:Value} {b:List UInt8} (i:RdB W0 w g S wr dn m t H fv fp bv b) (hi:HeadInv H) (hl:b.length≤60000) :
  Calls Tryz.prog 15 #[.pointer (some ⟨g,0,none⟩)] w (BytesC w (clBytes H b)):=by
 have hY:Byts w bv b:=i.own.own.sl (by decide)
 obtain ⟨Ab,cb,rfl,hc,hm,-⟩:=id hY.open
 have z10:w.cell? ⟨g,10,none⟩=some (.int .i64 (H.tells:Nat)):=i.bk.cell 10
 have z8:w.cell? ⟨g,8,none⟩=some (.slice Ab b.length cb):=i.bk.cell 8
 have z11:w.cell? ⟨g,11,none⟩=some (.int .i64 H.fro):=i.bk.cell 11
 have z13:w.cell? ⟨g,13,none⟩=some (str H.bnd):=i.bk.cell 13
 clear i
 have HY:=hid (fun (x:World) (k:Gr w x)=>hY.gr k)
 have HBND:=hid hi.bnd
 have HZ:=hid hi.zspan
 have hsp:=hi.span
 have ht3:=hi.tells
 have HE:=hid (show clBytes H b=if H.tells=3 then (match multiL H.bnd b with | .inl _=>[] | .inr ps=>ps.map fun p=>((p.1.1,p.1.2.1),p.2)) else if H.tells=0∨b=[] then [] else [((H.fro,H.fro+b.length),b)] from rfl)
 by_cases h3:H.tells=3
 case neg=>
  have dt3:(((H.tells:Nat):Int)==3)=false:=by simp;omega
  by_cases h0:H.tells=0
  case pos=>
   have dt0:(((H.tells:Nat):Int)==0)=true:=by simp;omega
   have HX:=hid (show clBytes H b=[] from by rw [HE.out,if_neg h3,if_pos (.inl h0)])
   clear HE h0 h3 hY hsp hi
   go_enter Tryz.func15,Tryz.ntmps15
   go_wp2_with fail
   go_ret2
   rw [HX.out]
   exact bytes_nil (Gr.refl _)
  have dt0:(((H.tells:Nat):Int)==0)=false:=by rw [beq_eq_false_iff_ne];omega
  by_cases hb:b.length=0
  case pos=>
   have db:((b.length:Int)==0)=true:=by simp [hb]
   have HX:=hid (show clBytes H b=[] from by rw [HE.out,if_neg h3,if_pos (.inr (List.eq_nil_of_length_eq_zero hb))])
   clear HE h0 h3 hY hsp hi hb
   go_enter Tryz.func15,Tryz.ntmps15
   go_wp2_with fail
   go_ret2
   rw [HX.out]
   exact bytes_nil (Gr.refl _)
  have db:((b.length:Int)==0)=false:=by rw [beq_eq_false_iff_ne];omega
  have HX:=hid (show clBytes H b=[((H.fro,H.fro+b.length),b)] from by rw [HE.out,if_neg h3,if_neg (fun h=>h.elim h0 (fun h=>hb (by rw [h];rfl)))])
  have hf:0≤H.fro∧H.fro≤4611686018427387903:=by
   by_cases h2:H.tells=2
   ·have:=hsp h2;omega
   ·have:=HZ.out h2;omega
  have e1:IntKind.i64.wrap (H.fro+(b.length:Int))=H.fro+(b.length:Int):=IntWalk.i64_in _ (by omega)
  clear HE h0 h3 hY hsp hi hb hf
  go_enter Tryz.func15,Tryz.ntmps15
  go_upto_region 16 with fail
  have p11:=gx_cell (r:=none) z11 (by simp)
  have p8:=gx_cell (r:=none) z8 (by simp)
  refine wp_region_mix [0,1,2,3,4,5,6,7,8,9,10,11,12,13,14,15,16,18,19,20,21] none 4 (by kernel_rfl) rfl (by kernel_rfl) (fun o _ _ _ _ h=>by cases o <;> exact h) ?_
  simp only [pickOps,List.filterMap_cons,List.filterMap_nil,List.getElem?_cons_zero,List.getElem?_cons_succ]
  repeat (first | (refine wpGq_step (fun K hK=>?_);go_simp;refine hK _ ?_;clear hK K) | (refine wpGq_step (fun K hK=>?_);go_simp;simp only [↓IntWalk.iteOmega];go_simp;refine hK _ ?_;clear hK K) | (refine wpGq_step (fun K hK=>?_);go_simp;apply Exists.intro;refine ⟨fun _=>?_,hK _ ?_⟩;fail;clear hK K))
  refine wpGq_nil ?_
  refine wpG_two 17 22 (by kernel_rfl) rfl rfl rfl rfl (fun K hK wa hga=>?_) (fun K hK wa hga=>?_)
  ·go_simp
   refine hK _ _ ((Gr.al hga _).by _) ?_
   clear hK K
   have hs:=sl_lit wa 41 [.int .i64 H.fro,.int .i64 (H.fro+b.length)] 1 (by decide)
   refine wpG_quiet [23] 2 ((Gr.al hga _).by _) rfl (by kernel_rfl) (fun o _ _ _ _ h=>by cases o <;> exact h) ?_
   simp only [pickOps,List.filterMap_cons,List.filterMap_nil,List.getElem?_cons_zero,List.getElem?_cons_succ]
   repeat (first | (refine wpGq_step (fun K hK=>?_);go_simp;refine hK _ ?_;clear hK K) | (refine wpGq_step (fun K hK=>?_);go_simp;simp only [↓IntWalk.iteOmega];go_simp;refine hK _ ?_;clear hK K) | (refine wpGq_step (fun K hK=>?_);go_simp;apply Exists.intro;refine ⟨fun _=>?_,hK _ ?_⟩;fail;clear hK K))
   refine wpGq_nil ?_
   refine wpG_one 22 (by kernel_rfl) rfl rfl (fun K hK wb hgb=>?_)
   go_simp
   refine hK _ _ ((Gr.al hgb _).by _) ?_
   clear hK K
   have hv:=sl_lit wb 30 [.slice Ab b.length cb] 1 (by decide)
   refine wpG_quiet [24] 0 ((Gr.al hgb _).by _) rfl (by kernel_rfl) (fun o _ _ _ _ h=>by cases o <;> exact h) ?_
   simp only [pickOps,List.filterMap_cons,List.filterMap_nil,List.getElem?_cons_zero,List.getElem?_cons_succ]
   repeat (first | (refine wpGq_step (fun K hK=>?_);go_simp;refine hK _ ?_;clear hK K) | (refine wpGq_step (fun K hK=>?_);go_simp;simp only [↓IntWalk.iteOmega];go_simp;refine hK _ ?_;clear hK K) | (refine wpGq_step (fun K hK=>?_);go_simp;apply Exists.intro;refine ⟨fun _=>?_,hK _ ?_⟩;fail;clear hK K))
   refine wpGq_nil ?_
   refine wpG_done (by kernel_rfl) (fun wc hgc=>?_)
   have hgg:=Gr.tr (Gr.tr (Gr.al hga _) (Gr.al hgb _)) hgc
   go_wp2_with fail
   go_ret2
   rw [HX.out]
   exact bytes_one hgg (Sl.gr hs (Gr.tr (Gr.al hgb _) hgc)) (Sl.gr hv hgc) (HY.out _ hgg)
  ·go_simp
   refine hK _ _ ((Gr.al hga _).by _) ?_
   clear hK K
   have hv:=sl_lit wa 30 [.slice Ab b.length cb] 1 (by decide)
   refine wpG_one 17 (by kernel_rfl) rfl rfl (fun K hK wb hgb=>?_)
   go_simp
   refine hK _ _ ((Gr.tr (Gr.al hga _) (Gr.al hgb _)).by _) ?_
   clear hK K
   have hs:=sl_lit wb 41 [.int .i64 H.fro,.int .i64 (H.fro+b.length)] 1 (by decide)
   refine wpG_quiet [23,24] 0 ((Gr.tr (Gr.al hga _) (Gr.al hgb _)).by _) rfl (by kernel_rfl) (fun o _ _ _ _ h=>by cases o <;> exact h) ?_
   simp only [pickOps,List.filterMap_cons,List.filterMap_nil,List.getElem?_cons_zero,List.getElem?_cons_succ]
   repeat (first | (refine wpGq_step (fun K hK=>?_);go_simp;refine hK _ ?_;clear hK K) | (refine wpGq_step (fun K hK=>?_);go_simp;simp only [↓IntWalk.iteOmega];go_simp;refine hK _ ?_;clear hK K) | (refine wpGq_step (fun K hK=>?_);go_simp;apply Exists.intro;refine ⟨fun _=>?_,hK _ ?_⟩;fail;clear hK K))
   refine wpGq_nil ?_
   refine wpG_done (by kernel_rfl) (fun wc hgc=>?_)
   have hgg:=Gr.tr (Gr.tr (Gr.al hga _) (Gr.al hgb _)) hgc
   go_wp2_with fail
   go_ret2
   rw [HX.out]
   exact bytes_one hgg (Sl.gr hs hgc) (Sl.gr hv (Gr.tr hgb (Gr.tr (Gr.al (Gr.refl _) _) hgc))) (HY.out _ hgg)
 have y10:w.cell? ⟨g,10,none⟩=some (.int .i64 3):=by rw [z10,h3];rfl
 clear z10
 have HXX:=hid (show clBytes H b=(match multiL H.bnd b with | .inl _=>[] | .inr ps=>ps.map fun p=>((p.1.1,p.1.2.1),p.2)) from by rw [HE.out,if_pos h3])
 have HRD:=hid (fun (x:World) (k:Gr w x)=>refRead_any (.slice Ab b.length cb) b H.bnd x (HY.out x k) (by omega) (boundB_len (HBND.out h3)))
 clear HE hY hsp hi h3 z11
 go_enter Tryz.func15,Tryz.ntmps15
 go_upto_region 4 with fail
 have p13:=gx_cell (r:=none) z13 (by simp)
 have p8:=gx_cell (r:=none) z8 (by simp)
 refine wp_region_mix [0,1,2,3,4,5,6,7] none 6 (by kernel_rfl) rfl (by kernel_rfl) (fun o _ _ _ _ h=>by cases o <;> exact h) ?_
 simp only [pickOps,List.filterMap_cons,List.filterMap_nil,List.getElem?_cons_zero,List.getElem?_cons_succ]
 repeat (first | (refine wpGq_step (fun K hK=>?_);go_simp;refine hK _ ?_;clear hK K) | (refine wpGq_step (fun K hK=>?_);go_simp;simp only [↓IntWalk.iteOmega];go_simp;refine hK _ ?_;clear hK K) | (refine wpGq_step (fun K hK=>?_);go_simp;apply Exists.intro;refine ⟨fun _=>?_,hK _ ?_⟩;fail;clear hK K))
 refine wpGq_nil ?_
 refine wpG_one 8 (by kernel_rfl) rfl rfl (fun K hK wa hga=>?_)
 go_simp
 refine (HRD.out wa hga).mono ?_
 rintro e wb ⟨hgb,hE⟩
 cases hmm:multiL H.bnd b with
 | inl er=>
   have HX:=hid (HXX.out.trans (by rw [hmm]:_=([]:List ((Int×Int)×List UInt8))))
   rw [hmm] at hE
   subst hE
   refine hK _ _ ((Gr.tr hga hgb).by _) ?_
   clear hK K
   refine wpG_quiet [9,10,11,12,13] 0 ((Gr.tr hga hgb).by _) rfl (by kernel_rfl) (fun o _ _ _ _ h=>by cases o <;> exact h) ?_
   simp only [pickOps,List.filterMap_cons,List.filterMap_nil,List.getElem?_cons_zero,List.getElem?_cons_succ]
   repeat (first | (refine wpGq_step (fun K hK=>?_);go_simp;refine hK _ ?_;clear hK K) | (refine wpGq_step (fun K hK=>?_);go_simp;simp only [↓IntWalk.iteOmega];go_simp;refine hK _ ?_;clear hK K) | (refine wpGq_step (fun K hK=>?_);go_simp;apply Exists.intro;refine ⟨fun _=>?_,hK _ ?_⟩;fail;clear hK K))
   refine wpGq_nil ?_
   refine wpG_done (by kernel_rfl) (fun w5 hg5=>?_)
   have hgg:Gr w w5:=Gr.tr (Gr.tr hga hgb) hg5
   have her:=multiL_ne hmm
   have d0:((er:Int) != 0)=true:=by simp;omega
   clear hmm her
   go_wp2_with fail
   go_ret2
   rw [HX.out]
   exact bytes_nil hgg
 | inr ps=>
   have HX:=hid (HXX.out.trans (by rw [hmm]:_=ps.map fun p=>((p.1.1,p.1.2.1),p.2)))
   rw [hmm] at hE
   obtain ⟨vp,rfl,hps⟩:=hE
   refine hK _ _ ((Gr.tr hga hgb).by _) ?_
   clear hK K
   refine wpG_quiet [9,10,11,12,13] 0 ((Gr.tr hga hgb).by _) rfl (by kernel_rfl) (fun o _ _ _ _ h=>by cases o <;> exact h) ?_
   simp only [pickOps,List.filterMap_cons,List.filterMap_nil,List.getElem?_cons_zero,List.getElem?_cons_succ]
   repeat (first | (refine wpGq_step (fun K hK=>?_);go_simp;refine hK _ ?_;clear hK K) | (refine wpGq_step (fun K hK=>?_);go_simp;simp only [↓IntWalk.iteOmega];go_simp;refine hK _ ?_;clear hK K) | (refine wpGq_step (fun K hK=>?_);go_simp;apply Exists.intro;refine ⟨fun _=>?_,hK _ ?_⟩;fail;clear hK K))
   refine wpGq_nil ?_
   refine wpG_done (by kernel_rfl) (fun w5 hg5=>?_)
   have HLE:=hid (multiL_len hmm)
   have HGG:=hid (show Gr w w5 from Gr.tr (Gr.tr hga hgb) hg5)
   have hps5:=Pieces.gr hps hg5
   obtain ⟨L,hL,hSL,hBY⟩:=hps5
   obtain ⟨A,c,rfl,hcA,hmA,hO⟩:=Sl.open hSL
   have HO:=hid hO
   have HBY:=hid hBY
   have HLE:=hid (show L.length≤60001 from by have h1:=HLE.out;rw [←hL,List.length_map] at h1;omega)
   have HL:=hid hL
   have HX2:=hid (show clBytes H b=ps.map fun p=>((p.1.1,p.1.2.1),p.2) from HX.out)
   clear y10 z8 z13 p13 p8 hga hgb hg5 hps hO hBY hL HX HXX HRD HY hm hc hmm
   go_upto_region 8 with fail
   go_loopw [4,5,31] (fun v1 v2 i wr=>∃k:Nat,k≤L.length∧i=.int .i64 k∧PcsAt w5 wr L k v1 v2) (fun _ _ i _=>L.length-(intOf i).toNat)
   case atStart=>exact ⟨0,Nat.zero_le _,rfl,PcsAt.start _ _⟩
   case round=>
    obtain ⟨k,hk,rfl,hP⟩:=hrel
    obtain ⟨B1,e1,rfl⟩:=hP.o1.form
    obtain ⟨B2,e2,rfl⟩:=hP.o2.form
    by_cases hlk:k < L.length
    ·obtain ⟨q0,q1,q2,q3⟩:=flatQ_atC L k hlk
     obtain ⟨bp,op,rfl,-,hj⟩:=HO.out _ _ q0
     have c0:=hP.gr.cell (hj _ _ q0)
     have c1:=hP.gr.cell (hj _ _ q1)
     have c2:=hP.gr.cell (hj _ _ q2)
     have c3:=hP.gr.cell (hj _ _ q3)
     rw [←Nat.add_assoc] at c1 c2 c3
     have hone:=oneCell_sl (HBY.out _ (List.getElem_mem hlk))
     have hvf:=HBY.out _ (List.getElem_mem hlk)
     obtain ⟨A7,n7,hA7,-,-,-⟩:=hvf.open
     have HS1:=hid (spL_snoc L k hlk)
     have HS2:=hid (vaL_snoc L k hlk)
     have HP:=hid hP
     generalize L[k]=y at *
     obtain ⟨⟨⟨yf,yt,yn⟩,yb⟩,yv⟩:=y
     simp only at c0 c1 c2 c3 hA7 HS1 HS2 hone
     subst hA7
     clear hP hj q0 q1 q2 q3 hvf HO
     have hbN:=Bk.new wr 85 #[.int .i64 yf,.int .i64 yt,.int .i64 yn,.slice A7 yb.length n7] (0,0)
     have hgN:=Gr.al (Gr.refl wr) (Obj.cells #[.int .i64 yf,.int .i64 yt,.int .i64 yn,.slice A7 yb.length n7] 85)
     go_upto_region 10 with fail
     generalize wr.alloc (Obj.cells #[.int .i64 yf,.int .i64 yt,.int .i64 yn,.slice A7 yb.length n7] 85)=w6 at *
     generalize wr.heap.size=gp at *
     have hG6:=Gr.tr HP.out.gr hgN
     have HO1:=hid (HP.out.o1.gr hgN)
     have HO2:=hid (HP.out.o2.gr hgN)
     have HBN:=hid hbN
     have x0:w6.cell? ⟨gp,0,none⟩=some (.int .i64 yf):=hbN.cell 0
     have x1:w6.cell? ⟨gp,1,none⟩=some (.int .i64 yt):=hbN.cell 1
     have HG6:=hid hG6
     have HK:=hid (show k≤1000000 from by have:=HLE.out;omega)
     clear hbN hgN c0 c1 c2 c3 HP hG6
     go_upto_region 11 with (at_builtin;refine wpList_app1x (W0:=w5) (W:=w6) (v:=.slice B1 k e1) (n:=k) (xs:=spansV (spL (L.take k))) (news:=[.int .i64 yf,.int .i64 yt]) elemSpanC rfl _ _ rfl rfl rfl HG6.out.size HO1.out rfl (by simp [Value.oneCell']) (by have:=HK.out;omega) (by omega) ?_;intro v7 w7 hown7 happ7;rw [←HS1.out] at hown7;obtain ⟨B7,e7,rfl⟩:=hown7.form;have HO7:=hid hown7;have HA7:=hid happ7;clear hown7 happ7)
     have HG7:=hid (HA7.out.gr HG6.out HO1.out)
     have HB7:=hid (bk_byo HBN.out HA7.out.grown (Ne.symm (own_ne_bk HO1.out HBN.out (by decide))))
     have HO27:=hid (own_kr HO2.out HA7.out.grown (own_own HO2.out HO1.out (by decide)))
     have x2:w7.cell? ⟨gp,3,none⟩=some (.slice A7 yb.length n7):=HB7.out.cell 3
     clear x0 x1 HBN HO1 HO2 HA7
     go_wp2_with (at_builtin;refine wpList_app1x (W0:=w5) (W:=w7) (v:=.slice B2 k e2) (n:=k) (xs:=(L.take k).map (·.2)) (news:=[.slice A7 yb.length n7]) elemBytsC rfl _ _ rfl rfl rfl HG7.out.size HO27.out rfl (by simpa using hone) (by have:=HK.out;omega) (by omega) ?_;intro v8 w8 hown8 happ8;rw [←HS2.out] at hown8;obtain ⟨B8,e8,rfl⟩:=hown8.form;have HO8:=hid hown8;have HA8:=hid happ8;clear hown8 happ8)
     exact ⟨⟨k+1,by omega,by go_num,HA8.out.gr HG7.out HO27.out,own_kr HO7.out HA8.out.grown (own_own HO7.out HO27.out (by decide)),HO8.out⟩,by simp [intOf];omega⟩
    ·have hk:k=L.length:=by omega
     subst hk
     go_wp2_with fail
     go_ret2
     rw [HX2.out]
     exact pcs_done HL.out HBY.out hP HGG.out
end Go.Proofs.YtgfckbhkgggkeaaGreatDoor
/- XClient24 -/
namespace Go.Proofs.YtgfckbhkgggkeaaGreatDoor
open Lib (hid)
open Go.RowKit
set_option maxHeartbeats 2000000 in
theorem takeEnded_any {W0 w:World} {g:Nat} {S:List Nat} {asked:List UInt8} {wh:Bool} {s:ClS} (h:ClR W0 w g S asked true wh s) (hw:s.wrong=false) (v:Value):Calls Tryz.prog 11 #[.pointer (some ⟨g,0,none⟩),v] w fun e w'=>e=.returned (.int .i64 11)∧Gr w w':=by
 obtain ⟨rd,-,z16,z18,-⟩:=h.flags
 rw [hw] at z16
 clear h hw
 go_enter Tryz.func11,Tryz.ntmps11
 go_wp2_with fail
 go_ret
 exact ⟨rfl,Gr.refl _⟩
set_option maxHeartbeats 2000000 in
theorem endEnded_any {W0 w:World} {g:Nat} {S:List Nat} {asked:List UInt8} {wh:Bool} {s:ClS} (h:ClR W0 w g S asked true wh s) (hw:s.wrong=false):Calls Tryz.prog 12 #[.pointer (some ⟨g,0,none⟩)] w fun e w'=>e=.returned (.int .i64 11)∧Gr w w':=by
 obtain ⟨rd,-,z16,z18,-⟩:=h.flags
 rw [hw] at z16
 clear h hw
 go_enter Tryz.func12,Tryz.ntmps12
 go_wp2_with fail
 go_ret
 exact ⟨rfl,Gr.refl _⟩
def smallL (l:List (List UInt8)):Bool:=decide (l.flatten.length≤600)&&decide (l.length≤30)
theorem flat_succ (l:List (List UInt8)) (k:Nat) (h:k < l.length):(l.take (k+1)).flatten=(l.take k).flatten++l[k]:=by
 rw [List.take_succ_eq_append_getElem h,List.flatten_append];simp
theorem flat_le (l:List (List UInt8)) (k:Nat):(l.take k).flatten.length≤l.flatten.length:=by
 conv=>rhs;rw [←List.take_append_drop k l,List.flatten_append,List.length_append]
 omega
set_option maxHeartbeats 8000000 in
set_option maxRecDepth 100000 in
theorem small16_any (v:Value) (l:List (List UInt8)) (w:World) (hb:Bods w v l) (hs:∀x∈l,x.length≤140737488355328):Calls Tryz.prog 16 #[v] w fun e w'=>e=.returned (.bool (smallL l))∧Gr w w':=by
 obtain ⟨A,c,rfl,hc,hm,ho⟩:=hb.open
 have HO:=hid ho
 clear ho hb
 go_enter Tryz.func16,Tryz.ntmps16
 go_wp2_with fail
 go_loopw [3,5,8] (fun x3 x5 i wr=>∃k:Nat,k≤l.length∧i=.int .i64 k∧Gr w wr∧x3=.int .i64 ((l.take k).flatten.length:Nat)∧(l.take k).flatten.length≤600) (fun _ _ i _=>l.length-(intOf i).toNat)
 case atStart=>exact ⟨0,Nat.zero_le _,rfl,Gr.refl _,rfl,Nat.zero_le _⟩
 case round=>
  obtain ⟨k,hk,rfl,hG,rfl,hn⟩:=hrel
  by_cases hlt:k < l.length
  ·obtain ⟨b1,o1,u1,rfl,c1,hy⟩:=HO.out k hlt
   obtain ⟨A3,n3,rfl,-,hm3,-⟩:=id hy.open
   clear hy HO
   have c2:=Gr.cell hG c1
   clear c1
   have hsk:=hs l[k] (List.getElem_mem hlt)
   have HS:=hid (flat_succ l k hlt)
   have HL:=hid (flat_le l (k+1))
   have HSUM:=hid (show ((l.take (k+1)).flatten.length:Nat)=(l.take k).flatten.length+l[k].length by rw [HS.out,List.length_append])
   have HD:smallL l=(decide (l.flatten.length≤600)&&decide (l.length≤30)):=rfl
   have HD:=hid HD
   generalize l[k].length=m at *
   generalize hN:(l.take k).flatten.length=n at *
   clear hN HS
   have e1:IntKind.i64.wrap ((n:Int)+(m:Int))=(n:Int)+(m:Int):=IntWalk.i64_in _ (by omega)
   by_cases h6:600 < n+m
   ·have d6:decide (600 < (n:Int)+(m:Int))=true:=decide_eq_true (by omega)
    have HX:=hid (show smallL l=false from by rw [HD.out,decide_eq_false (by have h1:=HL.out;have h2:=HSUM.out;omega)];rfl)
    go_wp2_with fail
    go_ret
    rw [HX.out]
    exact ⟨rfl,hG⟩
   ·have d6:decide (600 < (n:Int)+(m:Int))=false:=decide_eq_false (by omega)
    go_wp2_with fail
    exact ⟨⟨k+1,by omega,by go_num,hG,by rw [HSUM.out];simp,by rw [HSUM.out];omega⟩,by simp [intOf];omega⟩
  ·have hk:k=l.length:=by omega
   subst hk
   rw [List.take_length] at hn
   have hX:smallL l=decide ((l.length:Int)≤30):=by
    unfold smallL
    rw [decide_eq_true hn,Bool.true_and]
    by_cases h:l.length≤30
    ·rw [decide_eq_true h,decide_eq_true (by omega)]
    ·rw [decide_eq_false h,decide_eq_false (by omega)]
   have HX:=hid hX
   clear hX hn
   go_wp2_with fail
   go_ret
   rw [HX.out]
   exact ⟨rfl,hG⟩
theorem RdR.hdYes {W0 w:World} {g:Nat} {S:List Nat} {fin:Bool} {s:ClS} {H:ClH} (h:RdR W0 w g S fin s) (hs:s.hd?=some H):∃(wr dn:Int) (m t:List UInt8) (fv fp bv:Value) (b:List UInt8),RdB W0 w g S wr dn m t H fv fp bv b∧s.came=clBytes H b∧HeadInv H∧b.length=s.sz:=by
 have ha:=h.at_
 have hi:=h.inv
 cases s with
 | head raw=>cases hs
 | bad0=>cases hs
 | body hh fr b=>
   obtain rfl:hh=H:=by simpa [ClS.hd?] using hs
   obtain ⟨m,t,fv,bv,gf,h1,h2⟩:=ha
   exact ⟨_,_,m,t,fv,_,bv,b,h1,rfl,BodyInv.hd hi,rfl⟩
 | bad1 hh b=>
   obtain rfl:hh=H:=by simpa [ClS.hd?] using hs
   obtain ⟨dn,m,t,fv,fp,bv,h2⟩:=ha
   exact ⟨_,_,m,t,fv,fp,bv,b,h2,rfl,hi.1,rfl⟩
theorem RdR.hdNo {W0 w:World} {g:Nat} {S:List Nat} {fin:Bool} {s:ClS} (h:RdR W0 w g S fin s) (hs:s.hd?=none):w.cell? ⟨g,1,none⟩=some (.int .i64 0)∧s.came=[]:=by
 have ha:=h.at_
 cases s with
 | head raw=>exact ⟨Bk.cell ha 1,rfl⟩
 | bad0=>
   obtain ⟨c2,c3,c4,c5,c6,c7,c8,c9,c10,c11,c12,c13,c14,h2⟩:=ha
   exact ⟨h2.cell 1,rfl⟩
 | body hh fr b=>cases hs
 | bad1 hh b=>cases hs
set_option maxHeartbeats 8000000 in
set_option maxRecDepth 100000 in
theorem sameNo_any {W0 W1 w:World} {g gx:Nat} {S Sx:List Nat} {asked:List UInt8} {en wh fin:Bool} {s:ClS} (h:ClR W0 w g S asked en wh s) (k:RdR W1 w gx Sx fin s) (hs:s.hd?=none) :
  Calls Tryz.prog 17 #[.pointer (some ⟨g,0,none⟩),.pointer (some ⟨gx,0,none⟩)] w fun e w'=>e=.returned (.bool true)∧Gr w w':=by
 have HH:=hid (head_any h (fun H hH=>by rw [hs] at hH;cases hH))
 rw [hs] at HH
 have hz:=(k.hdNo hs).1
 clear h k hs
 go_enter Tryz.func17,Tryz.ntmps17
 go_upto_region 2 with (go_at_call 37;refine HH.out.mono ?_;rintro e w1 ⟨hg1,rfl⟩)
 have hb:=Bk.new w1 74 #[.int .i64 0,.slice none 0 0,.slice none 0 0,.int .i64 0] (0,0)
 have hg2:=Gr.al hg1 (.cells #[.int .i64 0,.slice none 0 0,.slice none 0 0,.int .i64 0] 74)
 have hz2:=Gr.cell hg2 hz
 generalize w1.alloc (Obj.cells #[.int .i64 0,.slice none 0 0,.slice none 0 0,.int .i64 0] 74)=w2 at *
 generalize w1.heap.size=ga at *
 have y0:w2.cell? ⟨ga,0,none⟩=some (.int .i64 0):=hb.cell 0
 have y1:w2.cell? ⟨ga,1,none⟩=some (.slice none 0 0):=hb.cell 1
 have y2:w2.cell? ⟨ga,2,none⟩=some (.slice none 0 0):=hb.cell 2
 have y3:w2.cell? ⟨ga,3,none⟩=some (.int .i64 0):=hb.cell 3
 clear hb hz HH
 go_wp2_with fail
 go_ret
 exact ⟨rfl,hg2⟩
theorem RdB.gr {W0 w w':World} {g:Nat} {S:List Nat} {wr dn:Int} {m t:List UInt8} {h:ClH} {fv fp bv:Value} {b:List UInt8} (i:RdB W0 w g S wr dn m t h fv fp bv b) (hg:g∈S) (hi:∀k∈S,k < w.heap.size) (k:Gr w w'):RdB W0 w' g S wr dn m t h fv fp bv b:=i.blk hg (fun b hb=>k.block b (hi b hb)) k.size
set_option maxHeartbeats 8000000 in
set_option maxRecDepth 100000 in
theorem sameYes_any {W0 W1 w:World} {g gx:Nat} {S Sx:List Nat} {asked:List UInt8} {en wh fin:Bool} {s:ClS} {H:ClH} (h:ClR W0 w g S asked en wh s) (k:RdR W1 w gx Sx fin s) (hs:s.hd?=some H) (hv:Vars w) (hsz:s.sz≤60000) (hn:H.fs.length≤1000000) :
  Calls Tryz.prog 17 #[.pointer (some ⟨g,0,none⟩),.pointer (some ⟨gx,0,none⟩)] w fun e w'=>e=.returned (.bool true)∧Gr w w':=by
 have HH0:=hid (head_any h (fun H' hH=>by rw [hs] at hH;obtain rfl:=Option.some.inj hH;exact hn))
 rw [hs] at HH0
 have HH:=hid (show Calls Tryz.prog 37 #[.pointer (some ⟨g,0,none⟩)] w (fun e w'=>Gr w w'∧∃A c,e=.returned (.tuple #[.agg #[.int .i64 H.st,.slice A H.fs.length c,.slice none 0 0,.int .i64 (sizeH H)],.bool true])∧Flds w' (.slice A H.fs.length c) H.fs) from HH0.out)
 clear HH0
 obtain ⟨wr,dn,m,t,fv,fp,bv,b,hR,hcame,hinv,hlen⟩:=k.hdYes hs
 have HA:=hid (fun (x:World) (hx:Gr w x)=>answer16_any (hR.gr k.g k.hi hx))
 have HB:=hid (fun (x:World) (hx:Gr w x)=>bytes_any (h.gr hx) (hv.gr hx) hsz)
 have HX:=hid (fun (x:World) (hx:Gr w x)=>bytes16_any (hR.gr k.g k.hi hx) hinv (by omega))
 rw [hcame] at HB
 have z1:w.cell? ⟨gx,1,none⟩=some (.int .i64 1):=hR.bk.cell 1
 have hFX:=hR.fs.1
 obtain ⟨A',c',rfl,-,-,-⟩:=id hFX
 generalize clBytes H b=R at *
 clear h k hs hR hcame hinv hlen hsz hv
 obtain ⟨st,fs,kk,z,te,f,tl,bn⟩:=H
 generalize hsH:sizeH ⟨st,fs,kk,z,te,f,tl,bn⟩=zz at *
 simp only at HH HA hFX hn
 clear hsH
 go_enter Tryz.func17,Tryz.ntmps17
 go_upto_region 2 with (go_at_call 37;refine HH.out.mono ?_;rintro e w1 ⟨hg1,A,c,rfl,hF⟩)
 have hb:=Bk.new w1 74 #[.int .i64 st,.slice A fs.length c,.slice none 0 0,.int .i64 zz] (0,0)
 have hg12:=Gr.al (Gr.refl w1) (.cells #[.int .i64 st,.slice A fs.length c,.slice none 0 0,.int .i64 zz] 74)
 generalize w1.alloc (Obj.cells #[.int .i64 st,.slice A fs.length c,.slice none 0 0,.int .i64 zz] 74)=w2 at *
 generalize w1.heap.size=ga at *
 have hg2:=Gr.tr hg1 hg12
 have z2:=Gr.cell hg2 z1
 have HF2:=hid (hF.gr hg12)
 have HBA:=hid hb
 clear z1 hb hF hg12 hg1 HH
 have HG2:=hid hg2
 go_upto_region 7 with (go_at_call 38;refine (HA.out _ HG2.out).mono ?_;rintro e w3 ⟨rfl,hg3⟩)
 have hb:=Bk.new w3 74 #[.int .i64 st,.slice A' fs.length c',.slice none 0 0,.int .i64 zz] (0,0)
 have hg34:=Gr.al (Gr.refl w3) (.cells #[.int .i64 st,.slice A' fs.length c',.slice none 0 0,.int .i64 zz] 74)
 generalize w3.alloc (Obj.cells #[.int .i64 st,.slice A' fs.length c',.slice none 0 0,.int .i64 zz] 74)=w4 at *
 generalize w3.heap.size=gb at *
 have HG4:=hid (Gr.tr HG2.out (Gr.tr hg3 hg34))
 have HB4:=hid hb
 have HA4:=hid (HBA.out.gr (Gr.tr hg3 hg34))
 have HF4:=hid (HF2.out.gr (Gr.tr hg3 hg34))
 have HX4:=hid (hFX.gr HG4.out)
 clear hb hg3 hg34 HBA HF2 hFX HG2 hg2 z2 HA
 obtain ⟨_,_,e1,-,-,hO⟩:=HF4.out.open
 obtain ⟨rfl,rfl⟩:_∧_:=by simpa using e1
 obtain ⟨_,_,e2,-,-,hO'⟩:=HX4.out.open
 obtain ⟨rfl,rfl⟩:_∧_:=by simpa using e2
 have HO:=hid hO
 have HO':=hid hO'
 clear e1 e2 hO hO' HF4 HX4
 have r0:w4.cell? ⟨ga,0,none⟩=some (.int .i64 st):=HA4.out.cell 0
 have r1:∀x,Gr w4 x→x.cell? ⟨ga,1,none⟩=some (.slice A fs.length c):=fun x h=>(HA4.out.gr h).cell 1
 have r2:w4.cell? ⟨ga,2,none⟩=some (.slice none 0 0):=HA4.out.cell 2
 have r3:w4.cell? ⟨ga,3,none⟩=some (.int .i64 zz):=HA4.out.cell 3
 have q0:w4.cell? ⟨gb,0,none⟩=some (.int .i64 st):=HB4.out.cell 0
 have q1:∀x,Gr w4 x→x.cell? ⟨gb,1,none⟩=some (.slice A' fs.length c'):=fun x h=>(HB4.out.gr h).cell 1
 have q3:w4.cell? ⟨gb,3,none⟩=some (.int .i64 zz):=HB4.out.cell 3
 have h44:=Gr.refl w4
 go_wp2_with fail
 go_loopw [8,79] (fun x8 i wr=>∃k:Nat,k≤fs.length∧i=.int .i64 k∧Gr w4 wr) (fun _ i _=>fs.length-(intOf i).toNat)
 case atStart=>exact ⟨0,Nat.zero_le _,rfl,Gr.refl _⟩
 case round=>
  obtain ⟨k,hk,rfl,hG⟩:=hrel
  clear r0 r2 r3 q0 q3
  by_cases hlt:k < fs.length
  ·obtain ⟨b1,o1,rfl,-,c1,c1'⟩:=HO.out k hlt
   obtain ⟨b2,o2,rfl,-,d1,d1'⟩:=HO'.out k hlt
   have gc1:=fun i=>(gw_gr wr i).cell (Gr.cell hG c1)
   have gc2:=fun i=>(gw_gr wr i).cell (Gr.cell hG c1')
   have gd1:=fun i=>(gw_gr wr i).cell (Gr.cell hG d1)
   have gd2:=fun i=>(gw_gr wr i).cell (Gr.cell hG d1')
   have gr1:=fun i=>r1 _ (Gr.tr hG (gw_gr wr i))
   have gq1:=fun i=>q1 _ (Gr.tr hG (gw_gr wr i))
   generalize fs[k]=p at *
   obtain ⟨pn,pv⟩:=p
   simp only at *
   have HG:=hid hG
   clear hG HO HO' c1 c1' d1 d1' r1 q1
   go_upto_region 12 with fail
   refine wp_region_gw (by kernel_rfl) (by kernel_rfl) ?_
   repeat (first | go_big_quiet_step (fail) | quiet_step (fail))
   refine wpQuiet_nil ?_;intro wq hwq;obtain ⟨iq,rfl⟩:=hwq
   have hGq:=gw_gr wr iq
   generalize gw wr iq=wx at *
   go_wp2_with fail
   exact ⟨⟨k+1,by omega,by go_num,Gr.tr HG.out hGq⟩,by simp [intOf];omega⟩
  ·have hk:k=fs.length:=by omega
   subst hk
   have HG5:=hid (Gr.tr HG4.out hG)
   clear hG HO HO' r1 q1 h44
   go_upto_region 16 with (go_at_call 14;refine (HB.out _ HG5.out).mono ?_;rintro e w6 ⟨hg6,v1,v2,rfl,hs1,hs2⟩)
   have HG6:=hid (Gr.tr HG5.out hg6)
   go_upto_region 17 with (go_at_call 15;refine (HX.out _ HG6.out).mono ?_;rintro e w7 ⟨hg7,v3,v4,rfl,hs3,hs4⟩)
   have HG7:=hid (Gr.tr HG6.out hg7)
   have HSP:=hid (spans_same _ _ _ w7 (hs1.gr hg7) hs3)
   have HBO:=hid (fun (x:World) (hx:Gr w7 x)=>bodies_same _ _ _ x (hs2.gr (Gr.tr hg7 hx)) (hs4.gr hx))
   clear hs1 hs2 hs3 hs4 hg6 hg7
   go_wp2_with (first
    | (go_at_call 39;refine HSP.out.mono ?_;rintro e w8 ⟨rfl,hg8⟩)
    | (go_at_call 40;refine (HBO.out _ hg8).mono ?_;rintro e w9 ⟨rfl,hg9⟩))
   go_ret
   exact ⟨rfl,Gr.tr HG7.out (Gr.tr hg8 hg9)⟩
theorem same16_any {W0 W1 w:World} {g gx:Nat} {S Sx:List Nat} {asked:List UInt8} {en wh fin:Bool} {s:ClS} (h:ClR W0 w g S asked en wh s) (k:RdR W1 w gx Sx fin s) (hv:Vars w) (hsz:s.sz≤60000) (hn:∀H,s.hd?=some H→H.fs.length≤1000000) :
  Calls Tryz.prog 17 #[.pointer (some ⟨g,0,none⟩),.pointer (some ⟨gx,0,none⟩)] w fun e w'=>e=.returned (.bool true)∧Gr w w':=by
 cases hs:s.hd? with
 | none=>exact sameNo_any h k hs
 | some H=>exact sameYes_any h k hs hv hsz (hn H hs)
end Go.Proofs.YtgfckbhkgggkeaaGreatDoor
/- XClient25 -/
namespace Go.Proofs.YtgfckbhkgggkeaaGreatDoor
open Lib (hid)
open Go.RowKit
theorem RdB.frame {W0 w w':World} {g gf n:Nat} {S:List Nat} {wr dn:Int} {m t:List UInt8} {h:ClH} {fv fp bv:Value} {b:List UInt8} {fr:FrT} (i:RdB W0 w g S wr dn m t h fv fp bv b) (hF:F13 w gf fr n) (hfd:h.fs=[]∨fv.ownBlock≠some gf) (k:w.grownBy w' (some gf)):RdB W0 w' g S wr dn m t h fv fp bv b:=by
 obtain ⟨lv,r,hb,-⟩:=hF
 have h1:=bk_ne i.bk hb (by decide)
 have h3:=own_ne_bk i.own.own hb (by decide)
 refine ⟨bk_byo i.bk k (by simpa using h1),⟨flds_blk i.fs.1 k.size ?_,i.fs.2⟩,⟨own_blk i.own.own fun j hj=>k.block j (World.ownsRow.lt i.own.own j hj).2 (fun e=>h3 (hj.trans e)),i.own.mem⟩,i.fg,i.fb⟩
 rcases hfd with h | h
 ·exact .inl h
 ·exact .inr fun j hj hjl=>k.block j hjl (fun e=>h (hj.trans e))
theorem RdB.app {W0 w w4:World} {g:Nat} {S:List Nat} {wr dn:Int} {m t:List UInt8} {h:ClH} {fv fp bv v4:Value} {b d:List UInt8} (i:RdB W0 w g S wr dn m t h fv fp bv b) (hg:g∈S) (lo:∀k∈S,W0.heap.size≤k) (hi:∀k∈S,k < w.heap.size)
  (ho:Own W0 w4 5 1 v4 (b.length+d.length) (b.map byt++d.map byt)) (ha:App bv v4 w w4) :
  RdB W0 (w4.setCell ⟨g,8,none⟩ v4) g (blV v4++S) wr dn m t h fv fp v4 (b++d)∧Stp w S (w4.setCell ⟨g,8,none⟩ v4) (blV v4++S)∧(∀k∈blV v4++S,W0.heap.size≤k)∧(∀k∈blV v4++S,k < (w4.setCell ⟨g,8,none⟩ v4).heap.size):=by
 have hne:=own_ne_bk i.own.own i.bk (by decide)
 have hb4:Bk w4 g 44 (rdCs wr 1 dn m t h fv fp bv) (0,0):=bk_byo i.bk ha.grown (Ne.symm hne)
 have ho':Own W0 w4 5 1 v4 (b++d).length ((b++d).map byt):=by
  rw [List.length_append,List.map_append];exact ho
 have hne':=own_ne_bk ho' hb4 (by decide)
 have hk4:Kr S w.heap.size w w4:=(Kr.refl (Nat.le_refl _)).by ha.grown (fun k e=>.inl (i.own.mem k e))
 have hs:(w4.setCell ⟨g,8,none⟩ v4).heap.size=w4.heap.size:=by simp [World.setCell]
 have hnew:∀k∈blV v4,k∈S∨w.heap.size≤k:=fun k hk=>by
  rw [mem_blV] at hk
  rcases ha.at_ with h1 | ⟨b,h1,h2⟩
  ·exact .inl (i.own.mem k (h1▸hk))
  ·rw [hk] at h1;injection h1 with h1;subst h1;exact .inr h2
 have hf4:Flds w4 fv h.fs:=flds_blk i.fs.1 ha.grown.size (by
  rcases i.fb with h0 | h0 | h0
  ·exact .inl h0
  ·exact .inr fun j hj hjl=>ha.grown.block j hjl (by rw [h0];simp)
  ·exact .inr fun j hj hjl=>ha.grown.block j hjl (fun e=>h0 (hj.trans e)))
 refine ⟨⟨hb4.set 8 v4,⟨hf4.st i.fg 8 v4,i.fs.2.imp id fun hh j hj=>List.mem_append_right _ (hh j hj)⟩,⟨own_kr ho' (by_st ((Gr.refl w4).by (some g)) 8 v4) (.inr hne'),fun j hj=>List.mem_append_left _ (mem_blV.2 hj)⟩,i.fg,?_⟩,⟨hk4.set (.inl hg) 8 v4,fun k hk=>?_⟩,fun k hk=>?_,fun k hk=>?_⟩
 ·by_cases h0:h.fs=[]
  ·exact .inl h0
  ·right
   rcases ha.at_ with h1 | ⟨j,h1,h2⟩
   ·rw [h1]
    rcases i.fb with h3 | h3
    ·exact absurd h3 h0
    ·exact h3
   ·right
    rw [h1]
    intro e
    have:=flds_lt i.fs.1 h0 e
    omega
 ·rcases List.mem_append.1 hk with hk | hk
  ·exact hnew k hk
  ·exact .inl hk
 ·rcases List.mem_append.1 hk with hk | hk
  ·exact (World.ownsRow.lt ho' k (mem_blV.1 hk)).1
  ·exact lo k hk
 ·rw [hs]
  rcases List.mem_append.1 hk with hk | hk
  ·exact (World.ownsRow.lt ho' k (mem_blV.1 hk)).2
  ·exact Nat.lt_of_lt_of_le (hi k hk) ha.grown.size
def NowC (w:World) (x:ClS) (e:Ending) (w':World):Prop:=Gr w w'∧∃g S,e=.returned (.pointer (some ⟨g,0,none⟩))∧RdR w w' g S false x
theorem now_split (asked s:List UInt8) (k:Nat) (h:k < s.length):nowL asked s=(s.drop (k+1)).foldl (clByte asked) (clByte asked (nowL asked (s.take k)) s[k]):=by
 have e:s=s.take k++s[k]::s.drop (k+1):=by rw [←List.drop_eq_getElem_cons h,List.take_append_drop]
 conv=>lhs;rw [e,now_app]
 rfl
theorem now_next (asked s:List UInt8) (k:Nat) (h:k < s.length):nowL asked (s.take (k+1))=clByte asked (nowL asked (s.take k)) s[k]:=by
 rw [List.take_succ_eq_append_getElem h,now_snoc]
theorem now_lost (asked s:List UInt8) (k:Nat) (h:k < s.length) {x:ClS} (hw:x.wrong=true) (hx:clByte asked (nowL asked (s.take k)) s[k]=x):nowL asked s=x:=by
 rw [now_split asked s k h,hx,fold_wrong asked hw]
theorem byte_wrong (asked:List UInt8) {x:ClS} (hw:x.wrong=true) (c:UInt8):clByte asked x c=x:=by
 have:=fold_wrong asked hw [c];simpa using this
theorem headed_any (hd:Bool) (asked:List UInt8) (hask:asked=if hd then headB else getB) (m t:List UInt8) (st:Int) (fs:List Fld) (A:Option Addr) (c:Nat) (w:World) (g:Nat) (o rx:List UInt8) (A1 A2 A3:Option Addr) (n1 a1 n2 a2 n3 a3:Nat) (am an rk:Bool) (si un:Int) (hb:Bk w g 44 (rdHd m t st (.slice A fs.length c)) (0,0)) (hf:Flds w (.slice A fs.length c) fs) (hne:(Value.slice A fs.length c).ownBlock≠some g) (hr:fs.all right=true) (hn:fs.length≤100) :
  Calls Tryz.prog 26 #[.pointer (some ⟨g,0,none⟩),.agg #[.bool hd,str o,.slice A1 n1 a1,.slice A2 n2 a2,.slice A3 n3 a3,.bool am,.bool an,.int .i64 si,.int .i64 un,str rx,.bool rk]] w fun e w'=>e=.returned (.tuple #[])∧w.grownBy w' (some g)∧HdEnd w w' g m t (.slice A fs.length c) (heedR asked st fs):=by
 exact headedQ_any hd asked hask m t st fs A c w g o A1 A2 A3 n1 a1 n2 a2 n3 a3 am an si un rx rk hb hf hne hr hn
theorem tell_right (s:List UInt8):(tellR s).1.2.2.2.all right=true∧(tellR s).1.2.2.2.length≤100:=by
 unfold tellR
 split
 ·split
  ·exact ⟨rfl,Nat.zero_le _⟩
  ·unfold restL
   simp only
   split
   ·exact cl_parse _
   ·exact ⟨rfl,Nat.zero_le _⟩
 ·exact ⟨rfl,Nat.zero_le _⟩
theorem heed_cases (asked:List UInt8) (st:Int) (fs:List Fld):heedR asked st fs=.bad0∨∃h fr,heedR asked st fs=.body h fr []∧h.fs=fs:=by
 unfold heedR
 split
 ·exact .inl rfl
 ·split
  ·exact .inr ⟨_,_,rfl,rfl⟩
  ·split
   ·unfold rangedR
    split
    ·split
     ·exact .inl rfl
     ·exact .inr ⟨_,_,rfl,rfl⟩
    ·split
     ·split
      ·exact .inr ⟨_,_,rfl,rfl⟩
      ·exact .inl rfl
     ·exact .inl rfl
   ·exact .inr ⟨_,_,rfl,rfl⟩
theorem head_read {W0 w1 w4 w5:World} {g:Nat} {m t asked:List UInt8} {st:Int} {fs:List Fld} {fv:Value} (hk:w4.grownBy w5 (some g)) (he:HdEnd w4 w5 g m t fv (heedR asked st fs)) (hf:Flds w4 fv fs) (hne:fv.ownBlock≠some g)
  (hW:W0.heap.size≤g) (hg:g < w4.heap.size) (hlo:∀b,fv.ownBlock=some b→W0.heap.size≤b∧w1.heap.size≤b) (h1:W0.heap.size≤w4.heap.size) (h14:w1.heap.size≤w4.heap.size) (hP:Kr [g] w1.heap.size w1 w4) :
  ∃S,RdR W0 w5 g S false (heedR asked st fs)∧Stp w1 [g] w5 S:=by
 have hP5:Kr [g] w1.heap.size w1 w5:=hP.by hk (fun k e=>.inl (by simpa using e.symm))
 have hinv:ClInv (heedR asked st fs):=inv_heed
 rcases heed_cases asked st fs with h | ⟨h,fr,hh,hfs⟩
 ·rw [h] at he hinv ⊢
  exact ⟨[g],⟨he,by simp,fun k hk=>by have e:k=g:=(by simpa using hk);omega,fun k hk'=>by have e:k=g:=(by simpa using hk');have:=hk.size;omega,hinv⟩,hP5,fun k hk=>.inl hk⟩
 ·rw [hh] at he hinv ⊢
  obtain ⟨gf,hb,hF,hgf⟩:=he
  have hfl:gf < w5.heap.size:=by obtain ⟨lv,r,hb',-⟩:=hF;exact hb'.lt
  refine ⟨g::gf::(if fs=[] then [] else blV fv),⟨⟨m,t,fv,.slice none 0 0,gf,⟨hb,⟨flds_blk (by rw [hfs];exact hf) hk.size (.inr fun j hj hjl=>hk.block j hjl (fun e=>hne (hj.trans e))),?_⟩,OwnB.nil _ _ _,hne,.inr (.inl rfl)⟩,fun _=>⟨hF,by simp,?_⟩⟩,by simp,fun k hk'=>?_,fun k hk'=>?_,hinv⟩,hP5,fun k hk'=>?_⟩
  ·rw [hfs]
   by_cases h0:fs=[]
   ·exact .inl h0
   ·exact .inr fun b hb=>by rw [if_neg h0];exact List.mem_cons_of_mem _ (List.mem_cons_of_mem _ (mem_blV.2 hb))
  ·rw [hfs]
   by_cases h0:fs=[]
   ·exact .inl h0
   ·exact .inr fun e=>by have:=flds_lt hf h0 e;omega
  ·rcases List.mem_cons.1 hk' with e | hk'
   ·omega
   ·rcases List.mem_cons.1 hk' with e | hk'
    ·omega
    ·by_cases h0:fs=[]
     ·rw [if_pos h0] at hk';cases hk'
     ·rw [if_neg h0] at hk';exact (hlo k (mem_blV.1 hk')).1
  ·have hs:=hk.size
   rcases List.mem_cons.1 hk' with e | hk'
   ·omega
   ·rcases List.mem_cons.1 hk' with e | hk'
    ·omega
    ·by_cases h0:fs=[]
     ·rw [if_pos h0] at hk';cases hk'
     ·rw [if_neg h0] at hk';have:=flds_lt hf h0 (mem_blV.1 hk');omega
  ·rcases List.mem_cons.1 hk' with e | hk'
   ·exact .inl (by simp [e])
   ·rcases List.mem_cons.1 hk' with e | hk'
    ·exact .inr (by omega)
    ·by_cases h0:fs=[]
     ·rw [if_pos h0] at hk';cases hk'
     ·rw [if_neg h0] at hk';exact .inr (hlo k (mem_blV.1 hk')).2
theorem RdB.wrong {W0 w:World} {g:Nat} {S:List Nat} {dn:Int} {m t:List UInt8} {h:ClH} {fv fp bv:Value} {b:List UInt8} (i:RdB W0 w g S 0 dn m t h fv fp bv b):RdB W0 (w.setCell ⟨g,0,none⟩ (.int .i64 2)) g S 2 dn m t h fv fp bv b:=
 ⟨i.bk.set 0 (.int .i64 2),⟨i.fs.1.st i.fg 0 _,i.fs.2⟩,⟨own_kr i.own.own (by_st ((Gr.refl w).by (some g)) 0 _) (.inr (own_ne_bk i.own.own i.bk (by decide))),i.own.mem⟩,i.fg,i.fb⟩
theorem RdB.done {W0 w:World} {g:Nat} {S:List Nat} {wr:Int} {m t:List UInt8} {h:ClH} {fv fp bv:Value} {b:List UInt8} (i:RdB W0 w g S wr 0 m t h fv fp bv b):RdB W0 (w.setCell ⟨g,9,none⟩ (.int .i64 1)) g S wr 1 m t h fv fp bv b:=
 ⟨i.bk.set 9 (.int .i64 1),⟨i.fs.1.st i.fg 9 _,i.fs.2⟩,⟨own_kr i.own.own (by_st ((Gr.refl w).by (some g)) 9 _) (.inr (own_ne_bk i.own.own i.bk (by decide))),i.own.mem⟩,i.fg,i.fb⟩
theorem rd_bad {W0 w:World} {g:Nat} {S:List Nat} {dn:Int} {m t:List UInt8} {h:ClH} {fv fp bv:Value} {b:List UInt8} (i:RdB W0 w g S 0 dn m t h fv fp bv b) (hg:g∈S) (lo:∀k∈S,W0.heap.size≤k) (hi:∀k∈S,k < w.heap.size) (hinv:HeadInv h∧(h.tells=2→(b.length:Int)≤h.til-h.fro)):RdR W0 (w.setCell ⟨g,0,none⟩ (.int .i64 2)) g S false (.bad1 h b):=
 ⟨⟨dn,m,t,fv,fp,bv,i.wrong⟩,hg,lo,fun k hk=>by have:=hi k hk;simpa [World.setCell] using this,hinv⟩
set_option maxHeartbeats 32000000 in
set_option maxRecDepth 100000 in
theorem now16_any (hd:Bool) (asked:List UInt8) (hask:asked=if hd then headB else getB) (o rx:List UInt8) (A1 A2 A3:Option Addr) (n1 a1 n2 a2 n3 a3:Nat) (am an rk:Bool) (si un:Int) (s:List UInt8) (w:World) (hs:s.length≤60000) :
  Calls Tryz.prog 8 #[.agg #[.bool hd,str o,.slice A1 n1 a1,.slice A2 n2 a2,.slice A3 n3 a3,.bool am,.bool an,.int .i64 si,.int .i64 un,str rx,.bool rk],str s] w (NowC w (nowL asked s)):=by
 have hq1:=(Bk.new w 29 #[.bool hd,str o,.slice A1 n1 a1,.slice A2 n2 a2,.slice A3 n3 a3,.bool am,.bool an,.int .i64 si,.int .i64 un,str rx,.bool rk] (0,0)).al (.cells #[.int .i64 0,.int .i64 0,str [],str [],.int .i64 0,.slice none 0 0,.int .i64 0,.int .i64 0,.slice none 0 0,.int .i64 0,.int .i64 0,.int .i64 0,.int .i64 0,str [],.pointer none] 44)
 have hb1:=Bk.new (w.alloc (.cells #[.bool hd,str o,.slice A1 n1 a1,.slice A2 n2 a2,.slice A3 n3 a3,.bool am,.bool an,.int .i64 si,.int .i64 un,str rx,.bool rk] 29)) 44 #[.int .i64 0,.int .i64 0,str [],str [],.int .i64 0,.slice none 0 0,.int .i64 0,.int .i64 0,.slice none 0 0,.int .i64 0,.int .i64 0,.int .i64 0,.int .i64 0,str [],.pointer none] (0,0)
 have hg1:=Gr.al (Gr.al (Gr.refl w) (.cells #[.bool hd,str o,.slice A1 n1 a1,.slice A2 n2 a2,.slice A3 n3 a3,.bool am,.bool an,.int .i64 si,.int .i64 un,str rx,.bool rk] 29)) (.cells #[.int .i64 0,.int .i64 0,str [],str [],.int .i64 0,.slice none 0 0,.int .i64 0,.int .i64 0,.slice none 0 0,.int .i64 0,.int .i64 0,.int .i64 0,.int .i64 0,str [],.pointer none] 44)
 rw [show (w.alloc (Obj.cells #[.bool hd,str o,.slice A1 n1 a1,.slice A2 n2 a2,.slice A3 n3 a3,.bool am,.bool an,.int .i64 si,.int .i64 un,str rx,.bool rk] 29)).heap.size=w.heap.size+1 from by show (w.heap.push _).size=_;simp] at hb1
 have HASK:=hid hask
 clear hask
 go_enter Tryz.func8,Tryz.ntmps8
 go_upto_region 3 with fail
 generalize (w.alloc (Obj.cells #[.bool hd,str o,.slice A1 n1 a1,.slice A2 n2 a2,.slice A3 n3 a3,.bool am,.bool an,.int .i64 si,.int .i64 un,str rx,.bool rk] 29)).alloc (Obj.cells #[.int .i64 0,.int .i64 0,str [],str [],.int .i64 0,.slice none 0 0,.int .i64 0,.int .i64 0,.slice none 0 0,.int .i64 0,.int .i64 0,.int .i64 0,.int .i64 0,str [],.pointer none] 44)=w1 at *
 obtain ⟨gq,hgq⟩:∃gq,gq=w.heap.size:=⟨_,rfl⟩
 obtain ⟨g,hgg⟩:∃g,g=w.heap.size+1:=⟨_,rfl⟩
 rw [←hgg] at hb1 ⊢
 rw [←hgq] at hq1 ⊢
 have HQ1:=hid hq1
 have HG1:=hid hg1
 have HGE:=hid (show w.heap.size≤g by omega)
 have HGN:=hid (show gq≠g by omega)
 have HGL:=hid hb1.lt
 have HQL:=hid hq1.lt
 have HRD:=hid (show RdR w w1 g [g] false (.head []) from ⟨hb1,by simp,fun k hk=>by have e:k=g:=(by simpa using hk);omega,fun k hk=>by have e:k=g:=(by simpa using hk);have:=hb1.lt;omega,clInv_start⟩)
 clear hq1 hg1 hgq hgg hb1
 go_loopw [6,7,8,9,10,11,12] (fun i x7 x8 x9 x10 x11 x12 wr=>∃k:Nat,k≤s.length∧i=.int .i64 ((k:Int)+1)∧∃S,RdR w wr g S false (nowL asked (s.take k))∧Stp w1 [g] wr S) (fun i _ _ _ _ _ _ _=>s.length+1-(intOf i).toNat)
 case atStart=>exact ⟨0,Nat.zero_le _,rfl,[g],HRD.out,Stp.refl _ _⟩
 case round=>
  obtain ⟨k,hk,rfl,S,hR,hP⟩:=hrel
  have HR:=hid hR
  have HP:=hid hP
  have HGW:=hid (show Gr w wr from hP.old HG1.out (fun k hk=>by have e:k=g:=(by simpa using hk);have:=HGE.out;omega))
  have HSZ:=hid (show w1.heap.size≤wr.heap.size from hP.kr.size)
  clear hR hP HRD
  by_cases hlt:k < s.length
  case neg=>
   have e:k=s.length:=by omega
   subst e
   rw [List.take_length] at HR
   have dle:decide ((s.length:Int)+1≤(s.length:Int))=false:=decide_eq_false (by omega)
   go_wp2_with fail
   go_ret
   exact ⟨HGW.out,g,S,rfl,HR.out⟩
  have dle:decide ((k:Int)+1≤(s.length:Int))=true:=decide_eq_true (by omega)
  have HLOST:=hid (fun (x:ClS) (hw:x.wrong=true) (hx:clByte asked (nowL asked (s.take k)) s[k]=x)=>now_lost asked s k hlt hw hx)
  have HNX:=hid (now_next asked s k hlt)
  have HRAW:=hid (fun (r:List UInt8) (h:nowL asked (s.take k)=.head r)=>now_raw h)
  have HSB:=hid (show (nowL asked (s.take k)).sz≤60000 from by have h1:=fold_sz asked (s.take k) (.head []);rw [List.length_take,show (ClS.head ([]:List UInt8)).sz=0 from rfl] at h1;unfold nowL;omega)
  generalize nowL asked (s.take k)=s1 at *
  cases s1 with
  | bad0=>
    have z0:wr.cell? ⟨g,0,none⟩=some (.int .i64 2):=by obtain ⟨_,_,_,_,_,_,_,_,_,_,_,_,_,h2⟩:=HR.out.at_;exact h2.cell 0
    have HX:=hid (HLOST.out .bad0 rfl rfl)
    clear HLOST HNX HRAW
    go_wp2_with fail
    go_ret
    exact ⟨HGW.out,g,S,rfl,by rw [HX.out];exact HR.out⟩
  | bad1 h b=>
    have z0:wr.cell? ⟨g,0,none⟩=some (.int .i64 2):=by obtain ⟨_,_,_,_,_,_,h2⟩:=HR.out.at_;exact h2.bk.cell 0
    have HX:=hid (HLOST.out (.bad1 h b) rfl rfl)
    clear HLOST HNX HRAW
    go_wp2_with fail
    go_ret
    exact ⟨HGW.out,g,S,rfl,by rw [HX.out];exact HR.out⟩
  | head raw=>
    obtain rfl:raw=s.take k:=HRAW.out raw rfl
    have hbk:Bk wr g 44 #[.int .i64 0,.int .i64 0,str [],str [],.int .i64 0,.slice none 0 0,.int .i64 0,.int .i64 0,.slice none 0 0,.int .i64 0,.int .i64 0,.int .i64 0,.int .i64 0,str [],.pointer none] (0,0):=HR.out.at_
    have HBK:=hid hbk
    have z0:wr.cell? ⟨g,0,none⟩=some (.int .i64 0):=hbk.cell 0
    have z1:wr.cell? ⟨g,1,none⟩=some (.int .i64 0):=hbk.cell 1
    have hts:s.take (k+1)=s.take k++[s[k]]:=List.take_succ_eq_append_getElem hlt
    have HTL:=hid (fun (x:World)=>refTell_any (s.take (k+1)) x (by rw [List.length_take];omega))
    have HFO:=hid (tell_right (s.take (k+1)))
    have HFI:=hid (show (tellR (s.take (k+1))).2.2=0→(tellR (s.take (k+1))).2.1=k+1 from fun h0=>by rw [hts] at h0 ⊢;rw [tellR_first HR.out.inv h0,List.length_take];omega)
    have HCB:=hid (show nowL asked (s.take (k+1))=if (tellR (s.take (k+1))).2.2=3 then .head (s.take (k+1)) else if (tellR (s.take (k+1))).2.2=0 then heedR asked (tellR (s.take (k+1))).1.2.2.1 (tellR (s.take (k+1))).1.2.2.2 else .bad0 from by rw [HNX.out,clByte_head,←hts])
    have HI3:=hid (show (tellR (s.take (k+1))).2.2=3→ClInv (.head (s.take (k+1))) from id)
    clear HLOST HNX HRAW hts hbk
    generalize tellR (s.take (k+1))=TR at *
    obtain ⟨⟨tm,tt,st,fs⟩,tn,er⟩:=TR
    simp only at HFO HFI HCB HI3
    go_upto_region 17 with (go_at_call 25;refine (HTL.out _).mono ?_;rintro e w2 ⟨A,c,rfl,hF2,hg2,hfr2⟩)
    have hgb:=Gr.al (Gr.refl w2) (.cells #[str tm,str tt,.int .i64 st,.slice A fs.length c] 39)
    have hbb:=Bk.new w2 39 #[str tm,str tt,.int .i64 st,.slice A fs.length c] (0,0)
    generalize w2.alloc (Obj.cells #[str tm,str tt,.int .i64 st,.slice A fs.length c] 39)=w3 at *
    have HHL:=hid (show g < w2.heap.size from by have:=HGL.out;have:=HSZ.out;have:=hg2.size;omega)
    generalize w2.heap.size=gh at *
    have HG3:=hid (Gr.tr hg2 hgb)
    have HF3:=hid (hF2.gr hgb)
    have HBB:=hid hbb
    have HFR:=hid hfr2
    clear hgb hbb hg2 hF2 hfr2 HTL z0 z1
    by_cases h3:er=3
    case pos=>
     have d0:((er:Int)==0)=false:=by rw [beq_eq_false_iff_ne];omega
     have d3:((er:Int) != 3)=false:=by simp;omega
     have HX:=hid (HCB.out.trans (if_pos h3))
     have HJ:=hid (HI3.out h3)
     clear h3
     go_wp2_with fail
     exact ⟨⟨k+1,by omega,by go_num,S,by rw [HX.out];exact ⟨HBK.out.gr HG3.out,HR.out.g,HR.out.lo,fun j hj=>Nat.lt_of_lt_of_le (HR.out.hi j hj) HG3.out.size,HJ.out⟩,HP.out.gr HG3.out⟩,by simp [intOf];omega⟩
    have d3:((er:Int) != 3)=true:=by simp;omega
    have HCC:=hid (HCB.out.trans (if_neg h3))
    clear HCB HI3
    by_cases h0:er=0
    case neg=>
     have d0:((er:Int)==0)=false:=by rw [beq_eq_false_iff_ne];omega
     have HX:=hid (HCC.out.trans (if_neg h0))
     have HB3:=hid (HBK.out.gr HG3.out)
     have z0:w3.cell? ⟨g,0,none⟩=some (.int .i64 0):=HB3.out.cell 0
     have f0:w3.frozen? ⟨g,0,none⟩=false:=HB3.out.free 0 (.inr (Nat.zero_le _))
     clear h3 h0 HCC
     go_wp2_with fail
     exact ⟨⟨k+1,by omega,by go_num,S,by rw [HX.out];exact ⟨⟨_,_,_,_,_,_,_,_,_,_,_,_,_,HB3.out.set 0 (.int .i64 2)⟩,HR.out.g,HR.out.lo,fun j hj=>by have:=HR.out.hi j hj;have:=HG3.out.size;simp [World.setCell];omega,trivial⟩,(HP.out.gr HG3.out).st HR.out.g 0 _⟩,by simp [intOf];omega⟩
    subst h0
    have HX:=hid (HCC.out.trans (if_pos rfl))
    obtain rfl:tn=k+1:=HFI.out rfl
    clear h3 HCC HFI
    have b0:w3.cell? ⟨gh,0,none⟩=some (str tm):=HBB.out.cell 0
    have b1:w3.cell? ⟨gh,1,none⟩=some (str tt):=HBB.out.cell 1
    have b2:w3.cell? ⟨gh,2,none⟩=some (.int .i64 st):=HBB.out.cell 2
    have b3:w3.cell? ⟨gh,3,none⟩=some (.slice A fs.length c):=HBB.out.cell 3
    have HB3:=hid (HBK.out.gr HG3.out)
    have z2:w3.cell? ⟨g,2,none⟩=some (str []):=HB3.out.cell 2
    have f2:w3.frozen? ⟨g,2,none⟩=false:=HB3.out.free 2 (.inr (Nat.zero_le _))
    have z3:w3.cell? ⟨g,3,none⟩=some (str []):=HB3.out.cell 3
    have f3:w3.frozen? ⟨g,3,none⟩=false:=HB3.out.free 3 (.inr (Nat.zero_le _))
    have z4:w3.cell? ⟨g,4,none⟩=some (.int .i64 0):=HB3.out.cell 4
    have f4:w3.frozen? ⟨g,4,none⟩=false:=HB3.out.free 4 (.inr (Nat.zero_le _))
    have z5:w3.cell? ⟨g,5,none⟩=some (.slice none 0 0):=HB3.out.cell 5
    have f5:w3.frozen? ⟨g,5,none⟩=false:=HB3.out.free 5 (.inr (Nat.zero_le _))
    go_upto_region 19 with fail
    refine at_world (P:=Code.wp _ _ _ _) (w0:=((((w3.setCell ⟨g,2,none⟩ (str tm)).setCell ⟨g,3,none⟩ (str tt)).setCell ⟨g,4,none⟩ (.int .i64 st)).setCell ⟨g,5,none⟩ (.slice A fs.length c))) ?_
    intro w4 hw4
    have HK4:=hid (show w3.grownBy w4 (some g) from by rw [hw4];exact by_st (by_st (by_st (by_st ((Gr.refl w3).by (some g)) 2 _) 3 _) 4 _) 5 _)
    have HB4:=hid (show Bk w4 g 44 (rdHd tm tt st (.slice A fs.length c)) (0,0) from by rw [hw4];exact (((HB3.out.set 2 _).set 3 _).set 4 _).set 5 _)
    have HFN:=hid (show (Value.slice A fs.length c).ownBlock≠some g from fun e=>by have:=HFR.out g e;have:=HGL.out;have:=HSZ.out;omega)
    have HF4:=hid (show Flds w4 (.slice A fs.length c) fs from HF3.out.byo HK4.out HFN.out)
    clear hw4 b0 b1 b2 b3 z2 z3 z4 z5 f2 f3 f4 f5
    have HQ4:=hid (show Bk w4 gq 29 #[.bool hd,str o,.slice A1 n1 a1,.slice A2 n2 a2,.slice A3 n3 a3,.bool am,.bool an,.int .i64 si,.int .i64 un,str rx,.bool rk] (0,0) from bk_byo (((HQ1.out.blk (HP.out.keeps HQL.out (by simpa using HGN.out))).gr HG3.out)) HK4.out (by simpa using HGN.out))
    have r0:w4.cell? ⟨gq,0,none⟩=some (.bool hd):=HQ4.out.cell 0
    have r1:w4.cell? ⟨gq,1,none⟩=some (str o):=HQ4.out.cell 1
    have r2:w4.cell? ⟨gq,2,none⟩=some (.slice A1 n1 a1):=HQ4.out.cell 2
    have r3:w4.cell? ⟨gq,3,none⟩=some (.slice A2 n2 a2):=HQ4.out.cell 3
    have r4:w4.cell? ⟨gq,4,none⟩=some (.slice A3 n3 a3):=HQ4.out.cell 4
    have r5:w4.cell? ⟨gq,5,none⟩=some (.bool am):=HQ4.out.cell 5
    have r6:w4.cell? ⟨gq,6,none⟩=some (.bool an):=HQ4.out.cell 6
    have r7:w4.cell? ⟨gq,7,none⟩=some (.int .i64 si):=HQ4.out.cell 7
    have r8:w4.cell? ⟨gq,8,none⟩=some (.int .i64 un):=HQ4.out.cell 8
    have r9:w4.cell? ⟨gq,9,none⟩=some (str rx):=HQ4.out.cell 9
    have r10:w4.cell? ⟨gq,10,none⟩=some (.bool rk):=HQ4.out.cell 10
    have HHD:=hid (headed_any hd asked HASK.out tm tt st fs A c w4 g o rx A1 A2 A3 n1 a1 n2 a2 n3 a3 am an rk si un HB4.out HF4.out HFN.out HFO.out.1 HFO.out.2)
    have HSZ4:=hid (show w1.heap.size≤w4.heap.size from by have h1:=HSZ.out;have h2:=HG3.out.size;have h3:=HK4.out.size;omega)
    have HKR:=hid (show Kr [g] w1.heap.size w1 w4 from (HP.out.gr HG3.out).kr.by HK4.out (fun j e=>.inl (by simpa using e.symm)))
    have HLO:=hid (show ∀b,(Value.slice A fs.length c).ownBlock=some b→w.heap.size≤b∧w1.heap.size≤b from fun b e=>by have h1:=HFR.out b e;have h2:=HSZ.out;have h3:=HG1.out.size;omega)
    clear HQ4 HB4 HBK HBB HF3 HFR HK4
    go_wp2_with (go_at_call 26;refine HHD.out.mono ?_;rintro e w5 ⟨rfl,hk5,he5⟩)
    obtain ⟨S5,hR5,hP5⟩:=head_read hk5 he5 HF4.out HFN.out HGE.out (by have h1:=HGL.out;have h2:=HSZ4.out;omega) HLO.out (by have h1:=HSZ4.out;have h2:=HG1.out.size;omega) HSZ4.out HKR.out
    exact ⟨⟨k+1,by omega,by go_num,S5,by rw [HX.out];exact hR5,hP5⟩,by simp [intOf];omega⟩
  | body h fr b=>
    obtain ⟨tm,tt,fv,bv,gf,hB,hF⟩:=HR.out.at_
    obtain ⟨hF,hgf,hfd⟩:=hF rfl
    have hi:BodyInv h fr b:=HR.out.inv
    have HB:=hid hB
    have HF:=hid hF
    have HGF:=hid hgf
    have HFD:=hid hfd
    have HI:=hid hi
    have z0:wr.cell? ⟨g,0,none⟩=some (.int .i64 0):=hB.bk.cell 0
    have z1:wr.cell? ⟨g,1,none⟩=some (.int .i64 1):=hB.bk.cell 1
    have HCB:=hid (show clByte asked (.body h fr b) s[k]=bodyB1 h fr b s[k] from rfl)
    clear hB hF hgf hfd hi HRAW
    cases hdn:frDone fr with
    | true=>
      have hx:bodyB1 h fr b s[k]=.bad1 h b:=by unfold bodyB1;rw [if_pos hdn]
      have HX:=hid (HLOST.out (.bad1 h b) rfl hx)
      rw [hdn] at HB
      have z9:wr.cell? ⟨g,9,none⟩=some (.int .i64 1):=HB.out.bk.cell 9
      have f0:wr.frozen? ⟨g,0,none⟩=false:=HB.out.bk.free 0 (.inr (Nat.zero_le _))
      clear hx hdn HLOST HNX HCB
      go_wp2_with fail
      go_ret
      refine ⟨HGW.out.st (p:=⟨g,0,none⟩) HGE.out _,g,S,rfl,?_⟩
      rw [HX.out]
      exact rd_bad HB.out HR.out.g HR.out.lo HR.out.hi ⟨BodyInv.hd HI.out,HI.out.room⟩
    | false=>
      rw [hdn] at HB
      have z9:wr.cell? ⟨g,9,none⟩=some (.int .i64 0):=HB.out.bk.cell 9
      have z14:wr.cell? ⟨g,14,none⟩=some (.pointer (some ⟨gf,0,none⟩)):=HB.out.bk.cell 14
      have HDN:=hid hdn
      have HCC:=hid (show bodyB1 h fr b s[k]=if (frTk fr [s[k]]).2.2.1≠0 then .bad1 h b else if h.tells=2∧h.til-h.fro < (b.length:Int)+((frTk fr [s[k]]).1.length:Int) then .bad1 h b else .body h (frTk fr [s[k]]).2.2.2 (b++(frTk fr [s[k]]).1) from by unfold bodyB1;rw [if_neg (by simp [hdn])])
      have HLN:=hid (show (frTk fr [s[k]]).1.length≤1 from frTk_one s[k])
      clear hdn
      have HGFN:=hid (show g≠gf from by obtain ⟨lv,r,hb,-⟩:=HF.out;exact bk_ne HB.out.bk hb (by decide))
      go_upto_region 9 with fail
      have p14:=gx_cell (r:=some gf) z14 (by simpa using HGFN.out)
      have e1:IntKind.i64.wrap (k:Int)=(k:Int):=IntWalk.i64_in _ (by omega)
      refine wp_region_mix [0,1,2,3,4,5,6,7] (some gf) 9 (by kernel_rfl) rfl (by kernel_rfl) (fun o _ _ _ _ h=>by cases o <;> exact h) ?_
      simp only [pickOps,List.filterMap_cons,List.filterMap_nil,List.getElem?_cons_zero,List.getElem?_cons_succ]
      repeat (first | (refine wpGq_step (fun K hK=>?_);go_simp;refine hK _ ?_;clear hK K) | (refine wpGq_step (fun K hK=>?_);go_simp;simp only [↓IntWalk.iteOmega];go_simp;refine hK _ ?_;clear hK K) | (refine wpGq_step (fun K hK=>?_);go_simp;apply Exists.intro;refine ⟨fun _=>?_,hK _ ?_⟩;fail;clear hK K))
      refine wpGq_nil ?_
      clear p14 e1
      refine wpG_one 8 (by kernel_rfl) rfl rfl (fun K hK wa hga=>?_)
      go_simp
      refine hK _ _ ((Gr.al hga _).by _) ?_
      clear hK K
      have hsl:Byts (wa.alloc (.cells [byt s[k]].toArray 5)) (.slice (some ⟨wa.heap.size,0,none⟩) 1 1) [s[k]]:=byts_litC wa [s[k]] 5 (0,0) 1 rfl (by decide)
      have hgal:=Gr.al hga (.cells [byt s[k]].toArray 5)
      refine wpG_one 9 (by kernel_rfl) rfl rfl (fun K hK wb hgb=>?_)
      have hgwb:=Gr.tr hgal hgb
      have hne:wa.heap.size≠gf:=by have h1:=HR.out.hi gf HGF.out;have h2:=hga.size;omega
      have HT:=hid (take13_any fr b.length gf wa.heap.size 0 1 s[k] wb (HF.out.gr hgwb) HI.out.bad HI.out.ck (by rw [HI.out.kind];exact HI.out.k1) (by rw [HI.out.kind];exact HI.out.k4) HI.out.ended HDN.out (by have h1:b.length≤60000:=HSB.out;omega) (Nat.le_trans HI.out.left HI.out.size) (hsl.gr hgb) hne)
      have HAS:=hid (show wr.heap.size≤wa.heap.size from hga.size)
      generalize wa.heap.size=ga at *
      go_simp
      refine HT.out.mono ?_
      rintro e wc ⟨hkc,hres⟩
      have hkw:wr.grownBy wc (some gf):=by_by (hgwb.by _) hkc
      have HFX:=hid (show RdB w wc g S 0 0 tm tt h fv (.pointer (some ⟨gf,0,none⟩)) bv b from HB.out.frame HF.out HFD.out hkw)
      have HPX:=hid (show Stp w1 [g] wc S from ⟨HP.out.kr.by hkw (fun j e=>by obtain rfl:gf=j:=(by simpa using e);exact HP.out.sub gf HGF.out),HP.out.sub⟩)
      generalize frTk fr [s[k]]=FR at *
      obtain ⟨fd,fn,fe,fr2⟩:=FR
      simp only at hres HCC HLN
      by_cases hE:fe=0
      case neg=>
       rw [if_neg hE] at hres
       obtain ⟨v,kk,rfl,-⟩:=hres
       refine hK _ _ hkw ?_
       clear hK K
       refine wpG_quiet [10,11,12,13,14,15,16] 0 (hkw) rfl (by kernel_rfl) (fun o _ _ _ _ h=>by cases o <;> exact h) ?_
       simp only [pickOps,List.filterMap_cons,List.filterMap_nil,List.getElem?_cons_zero,List.getElem?_cons_succ]
       repeat (first | (refine wpGq_step (fun K hK=>?_);go_simp;refine hK _ ?_;clear hK K) | (refine wpGq_step (fun K hK=>?_);go_simp;simp only [↓IntWalk.iteOmega];go_simp;refine hK _ ?_;clear hK K) | (refine wpGq_step (fun K hK=>?_);go_simp;apply Exists.intro;refine ⟨fun _=>?_,hK _ ?_⟩;fail;clear hK K))
       refine wpGq_nil ?_
       refine wpG_done (by kernel_rfl) (fun wd hgd=>?_)
       have HX:=hid (HLOST.out (.bad1 h b) rfl (HCB.out.trans (HCC.out.trans (if_pos hE))))
       have hIL:∀j∈S,j < wc.heap.size:=fun j hj=>Nat.lt_of_lt_of_le (HR.out.hi j hj) hkw.size
       have HFD2:=hid (show RdB w wd g S 0 0 tm tt h fv (.pointer (some ⟨gf,0,none⟩)) bv b from HFX.out.blk HR.out.g (fun j hj=>hgd.block j (hIL j hj)) hgd.size)
       have HIL:=hid (fun j (hj:j∈S)=>Nat.lt_of_lt_of_le (hIL j hj) hgd.size)
       have HGD:=hid (show Gr w wd from (HPX.out.gr hgd).old HG1.out (fun j hj=>by have e:j=g:=(by simpa using hj);have:=HGE.out;omega))
       clear hE HCC HCB hgd hIL
       clear z0 z1 z9 z14
       go_upto_region 10 with fail
       go_quiet (fail)
       have hdr:=Gr.drN (Gr.refl wd) nq
       have HFE:=hid (show RdB w (wd.drewN nq) g S 0 0 tm tt h fv (.pointer (some ⟨gf,0,none⟩)) bv b from HFD2.out.blk HR.out.g (fun j hj=>hdr.block j (HIL.out j hj)) hdr.size)
       have HIE:=hid (fun j (hj:j∈S)=>Nat.lt_of_lt_of_le (HIL.out j hj) hdr.size)
       have HGE2:=hid (Gr.tr HGD.out hdr)
       clear hdr
       generalize wd.drewN nq=we at *
       have z0:we.cell? ⟨g,0,none⟩=some (.int .i64 0):=HFE.out.bk.cell 0
       have f0:we.frozen? ⟨g,0,none⟩=false:=HFE.out.bk.free 0 (.inr (Nat.zero_le _))
       go_wp2_with fail
       go_ret
       refine ⟨HGE2.out.st (p:=⟨g,0,none⟩) HGE.out _,g,S,rfl,?_⟩
       rw [HX.out]
       exact rd_bad HFE.out HR.out.g HR.out.lo HIE.out ⟨BodyInv.hd HI.out,HI.out.room⟩
      subst hE
      rw [if_pos rfl] at hres
      obtain ⟨v,kk,rfl,hyv,hvb,hF2⟩:=hres
      refine hK _ _ hkw ?_
      clear hK K
      refine wpG_quiet [10,11,12,13,14,15,16] 0 (hkw) rfl (by kernel_rfl) (fun o _ _ _ _ h=>by cases o <;> exact h) ?_
      simp only [pickOps,List.filterMap_cons,List.filterMap_nil,List.getElem?_cons_zero,List.getElem?_cons_succ]
      repeat (first | (refine wpGq_step (fun K hK=>?_);go_simp;refine hK _ ?_;clear hK K) | (refine wpGq_step (fun K hK=>?_);go_simp;simp only [↓IntWalk.iteOmega];go_simp;refine hK _ ?_;clear hK K) | (refine wpGq_step (fun K hK=>?_);go_simp;apply Exists.intro;refine ⟨fun _=>?_,hK _ ?_⟩;fail;clear hK K))
      refine wpGq_nil ?_
      refine wpG_done (by kernel_rfl) (fun wd hgd=>?_)
      have HCD:=hid (HCC.out.trans (if_neg (by simp)))
      have hIL:∀j∈S,j < wc.heap.size:=fun j hj=>Nat.lt_of_lt_of_le (HR.out.hi j hj) hkw.size
      have HFD2:=hid (show RdB w wd g S 0 0 tm tt h fv (.pointer (some ⟨gf,0,none⟩)) bv b from HFX.out.blk HR.out.g (fun j hj=>hgd.block j (hIL j hj)) hgd.size)
      have HIL:=hid (fun j (hj:j∈S)=>Nat.lt_of_lt_of_le (hIL j hj) hgd.size)
      have HPD:=hid (HPX.out.gr hgd)
      have HGD:=hid (show Gr w wd from HPD.out.old HG1.out (fun j hj=>by have e:j=g:=(by simpa using hj);have:=HGE.out;omega))
      have HYD:=hid (hyv.gr hgd)
      have HF3:=hid (hF2.gr hgd)
      obtain ⟨Av,cv,rfl,-,-,-⟩:=id hyv.open
      obtain ⟨Ab,cb,hbv⟩:=HFD2.out.own.own.form
      subst hbv
      have hroom:=HI.out.room
      have hspan:=HI.out.span
      have hbl:b.length≤60000:=HSB.out
      have hfl:fd.length≤1:=HLN.out
      clear HFX HPX HCC hIL hyv hF2 hgd z0 z1 z9 z14 HT HF HB
      have z10:wd.cell? ⟨g,10,none⟩=some (.int .i64 (h.tells:Nat)):=HFD2.out.bk.cell 10
      have e2:IntKind.i64.wrap ((b.length:Int)+(fd.length:Int))=(b.length:Int)+(fd.length:Int):=IntWalk.i64_in _ (by omega)
      by_cases ht:h.tells=2
      case pos=>
       have d2:(((h.tells:Nat):Int)==2)=true:=by simp;omega
       obtain ⟨hs1,hs2,hs3⟩:=hspan ht
       have e3:IntKind.i64.wrap (h.til-h.fro)=h.til-h.fro:=IntWalk.i64_in _ (by omega)
       have z8:wd.cell? ⟨g,8,none⟩=some (.slice Ab b.length cb):=HFD2.out.bk.cell 8
       have z11:wd.cell? ⟨g,11,none⟩=some (.int .i64 h.fro):=HFD2.out.bk.cell 11
       have z12:wd.cell? ⟨g,12,none⟩=some (.int .i64 h.til):=HFD2.out.bk.cell 12
       by_cases hov:h.til-h.fro < (b.length:Int)+(fd.length:Int)
       case pos=>
        have dv:decide (h.til-h.fro < (b.length:Int)+(fd.length:Int))=true:=decide_eq_true hov
        have HX:=hid (HLOST.out (.bad1 h b) rfl (HCB.out.trans (HCD.out.trans (if_pos ⟨ht,hov⟩))))
        have z0:True:=trivial
        clear hov ht hspan hroom
        clear z0
        go_upto_region 10 with fail
        go_quiet (fail)
        have hdr:=Gr.drN (Gr.refl wd) nq
        have HFE:=hid (show RdB w (wd.drewN nq) g S 0 0 tm tt h fv (.pointer (some ⟨gf,0,none⟩)) (.slice Ab b.length cb) b from HFD2.out.blk HR.out.g (fun j hj=>hdr.block j (HIL.out j hj)) hdr.size)
        have HIE:=hid (fun j (hj:j∈S)=>Nat.lt_of_lt_of_le (HIL.out j hj) hdr.size)
        have HGE2:=hid (Gr.tr HGD.out hdr)
        clear hdr
        generalize wd.drewN nq=we at *
        have z0:we.cell? ⟨g,0,none⟩=some (.int .i64 0):=HFE.out.bk.cell 0
        have f0:we.frozen? ⟨g,0,none⟩=false:=HFE.out.bk.free 0 (.inr (Nat.zero_le _))
        go_wp2_with fail
        go_ret
        refine ⟨HGE2.out.st (p:=⟨g,0,none⟩) HGE.out _,g,S,rfl,?_⟩
        rw [HX.out]
        exact rd_bad HFE.out HR.out.g HR.out.lo HIE.out ⟨BodyInv.hd HI.out,HI.out.room⟩
       have dv:decide (h.til-h.fro < (b.length:Int)+(fd.length:Int))=false:=decide_eq_false hov
       have HX:=hid (HNX.out.trans (HCB.out.trans (HCD.out.trans (if_neg (fun h=>hov h.2)))))
       clear hov ht hspan hroom
       go_upto_region 10 with fail
       go_quiet (fail)
       have hdr:=Gr.drN (Gr.refl wd) nq
       have HFE:=hid (show RdB w (wd.drewN nq) g S 0 0 tm tt h fv (.pointer (some ⟨gf,0,none⟩)) (.slice Ab b.length cb) b from HFD2.out.blk HR.out.g (fun j hj=>hdr.block j (HIL.out j hj)) hdr.size)
       have HIE:=hid (fun j (hj:j∈S)=>Nat.lt_of_lt_of_le (HIL.out j hj) hdr.size)
       have HPE:=hid (HPD.out.gr hdr)
       have HYE:=hid (show Byts (wd.drewN nq) (.slice Av fd.length cv) fd from HYD.out.gr hdr)
       have HF4:=hid (HF3.out.gr hdr)
       have hwe:=(Gr.tr HGD.out hdr).size
       clear hdr HFD2 HIL HPD HYD HF3 z10 z8 z11 z12 e2 e3 d2 dv
       generalize wd.drewN nq=we at *
       have z8:we.cell? ⟨g,8,none⟩=some (.slice Ab b.length cb):=HFE.out.bk.cell 8
       go_upto_region 14 with (at_builtin;refine wpList_appS (W0:=w) (W:=we) (v:=.slice Ab b.length cb) (u:=.slice Av fd.length cv) (n:=b.length) (m:=fd.length) (xs:=b.map byt) (news:=fd.map byt) elemByte rfl _ _ rfl rfl rfl hwe HFE.out.own.own HYE.out (by simp) (one_byt fd) (by omega) (by omega) ?_;intro v4 w4 hown4 happ4;obtain ⟨A4,c4,rfl⟩:=hown4.form;have hb4:=bk_byo HFE.out.bk happ4.grown (Ne.symm (own_ne_bk HFE.out.own.own HFE.out.bk (by decide)));have z84:w4.cell? ⟨g,8,none⟩=some (.slice Ab b.length cb):=hb4.cell 8;have f84:w4.frozen? ⟨g,8,none⟩=false:=hb4.free 8 (.inr (Nat.zero_le _)))
       obtain ⟨hR5,hP5,hlo5,hhi5⟩:=RdB.app HFE.out HR.out.g HR.out.lo HIE.out hown4 happ4
       have hF5:F13 (w4.setCell ⟨g,8,none⟩ (.slice A4 (b.length+fd.length) c4)) gf fr2 (b.length+fd.length):=by
        obtain ⟨lv,r,hb',hr'⟩:=HF4.out
        exact F13.far ⟨lv,r,bk_byo hb' happ4.grown (Ne.symm (own_ne_bk HFE.out.own.own hb' (by decide))),hr'⟩ (by_st ((Gr.refl w4).by (some g)) 8 _) HGFN.out
       have HR5:=hid hR5
       have HP5:=hid (HPE.out.tr hP5)
       have HLO5:=hid hlo5
       have HHI5:=hid hhi5
       have HF5:=hid hF5
       clear hR5 hP5 hlo5 hhi5 hF5 hown4 happ4 hb4 z84 f84 z8 hwe HFE HIE HPE HYE HF4
       generalize w4.setCell ⟨g,8,none⟩ (.slice A4 (b.length+fd.length) c4)=w5 at *
       have HG5:=hid (show g∈blV (.slice A4 (b.length+fd.length) c4)++S∧gf∈blV (.slice A4 (b.length+fd.length) c4)++S from ⟨List.mem_append_right _ HR.out.g,List.mem_append_right _ HGF.out⟩)
       generalize blV (.slice A4 (b.length+fd.length) c4)++S=S5 at *
       have HI2:=hid (show BodyInv h fr2 (b++fd) from by have h1:=inv_body1 HI.out s[k];rw [←HCB.out,←HNX.out,HX.out] at h1;exact h1)
       have HDN2:=hid (done13_any fr2 (b.length+fd.length) gf w5 HF5.out HI2.out.bad HI2.out.ck.pos (by rw [HI2.out.kind];exact HI2.out.k1) (by rw [HI2.out.kind];exact HI2.out.k4))
       have z14:w5.cell? ⟨g,14,none⟩=some (.pointer (some ⟨gf,0,none⟩)):=HR5.out.bk.cell 14
       cases hd2:frDone fr2 with
       | false=>
         rw [hd2] at HDN2
         have HD2:=hid hd2
         clear hd2
         go_wp2_with (go_at_call 24;refine HDN2.out.mono ?_;rintro e w6 ⟨rfl,hg6⟩)
         refine ⟨⟨k+1,by omega,by go_num,S5,?_,HP5.out.gr hg6⟩,by simp [intOf];omega⟩
         rw [HX.out]
         refine RdR.gr (w:=w5) ⟨⟨tm,tt,fv,_,gf,by rw [HD2.out];exact HR5.out,fun _=>⟨by rw [List.length_append];exact HF5.out,HG5.out.2,HFD.out⟩⟩,HG5.out.1,HLO5.out,HHI5.out,HI2.out⟩ hg6
       | true=>
         rw [hd2] at HDN2
         have HD2:=hid hd2
         clear hd2
         have r9:∀x,Gr w5 x→x.cell? ⟨g,9,none⟩=some (.int .i64 0):=fun x h=>(HR5.out.bk.gr h).cell 9
         have q9:∀x,Gr w5 x→x.frozen? ⟨g,9,none⟩=false:=fun x h=>(HR5.out.bk.gr h).free 9 (.inr (Nat.zero_le _))
         go_wp2_with (go_at_call 24;refine HDN2.out.mono ?_;rintro e w6 ⟨rfl,hg6⟩)
         refine ⟨⟨k+1,by omega,by go_num,S5,?_,(HP5.out.gr hg6).st HG5.out.1 9 _⟩,by simp [intOf];omega⟩
         rw [HX.out]
         have hR6:=HR5.out.blk (w':=w6) HG5.out.1 (fun j hj=>hg6.block j (HHI5.out j hj)) hg6.size
         exact ⟨⟨tm,tt,fv,_,gf,by rw [HD2.out];exact hR6.done,fun _=>⟨by rw [List.length_append];exact (HF5.out.gr hg6).far (by_st ((Gr.refl w6).by (some g)) 9 _) HGFN.out,HG5.out.2,HFD.out⟩⟩,HG5.out.1,HLO5.out,fun j hj=>by have h1:=HHI5.out j hj;have h2:=hg6.size;simp [World.setCell];omega,HI2.out⟩
      have d2:(((h.tells:Nat):Int)==2)=false:=by simp;omega
      have HX:=hid (HNX.out.trans (HCB.out.trans (HCD.out.trans (if_neg (fun h=>ht h.1)))))
      clear ht hspan hroom
      go_upto_region 10 with fail
      go_quiet (fail)
      have hdr:=Gr.drN (Gr.refl wd) nq
      have HFE:=hid (show RdB w (wd.drewN nq) g S 0 0 tm tt h fv (.pointer (some ⟨gf,0,none⟩)) (.slice Ab b.length cb) b from HFD2.out.blk HR.out.g (fun j hj=>hdr.block j (HIL.out j hj)) hdr.size)
      have HIE:=hid (fun j (hj:j∈S)=>Nat.lt_of_lt_of_le (HIL.out j hj) hdr.size)
      have HPE:=hid (HPD.out.gr hdr)
      have HYE:=hid (show Byts (wd.drewN nq) (.slice Av fd.length cv) fd from HYD.out.gr hdr)
      have HF4:=hid (HF3.out.gr hdr)
      have hwe:=(Gr.tr HGD.out hdr).size
      clear hdr HFD2 HIL HPD HYD HF3 z10 e2 d2
      generalize wd.drewN nq=we at *
      have z8:we.cell? ⟨g,8,none⟩=some (.slice Ab b.length cb):=HFE.out.bk.cell 8
      go_upto_region 14 with (at_builtin;refine wpList_appS (W0:=w) (W:=we) (v:=.slice Ab b.length cb) (u:=.slice Av fd.length cv) (n:=b.length) (m:=fd.length) (xs:=b.map byt) (news:=fd.map byt) elemByte rfl _ _ rfl rfl rfl hwe HFE.out.own.own HYE.out (by simp) (one_byt fd) (by omega) (by omega) ?_;intro v4 w4 hown4 happ4;obtain ⟨A4,c4,rfl⟩:=hown4.form;have hb4:=bk_byo HFE.out.bk happ4.grown (Ne.symm (own_ne_bk HFE.out.own.own HFE.out.bk (by decide)));have z84:w4.cell? ⟨g,8,none⟩=some (.slice Ab b.length cb):=hb4.cell 8;have f84:w4.frozen? ⟨g,8,none⟩=false:=hb4.free 8 (.inr (Nat.zero_le _)))
      obtain ⟨hR5,hP5,hlo5,hhi5⟩:=RdB.app HFE.out HR.out.g HR.out.lo HIE.out hown4 happ4
      have hF5:F13 (w4.setCell ⟨g,8,none⟩ (.slice A4 (b.length+fd.length) c4)) gf fr2 (b.length+fd.length):=by
       obtain ⟨lv,r,hb',hr'⟩:=HF4.out
       exact F13.far ⟨lv,r,bk_byo hb' happ4.grown (Ne.symm (own_ne_bk HFE.out.own.own hb' (by decide))),hr'⟩ (by_st ((Gr.refl w4).by (some g)) 8 _) HGFN.out
      have HR5:=hid hR5
      have HP5:=hid (HPE.out.tr hP5)
      have HLO5:=hid hlo5
      have HHI5:=hid hhi5
      have HF5:=hid hF5
      clear hR5 hP5 hlo5 hhi5 hF5 hown4 happ4 hb4 z84 f84 z8 hwe HFE HIE HPE HYE HF4
      generalize w4.setCell ⟨g,8,none⟩ (.slice A4 (b.length+fd.length) c4)=w5 at *
      have HG5:=hid (show g∈blV (.slice A4 (b.length+fd.length) c4)++S∧gf∈blV (.slice A4 (b.length+fd.length) c4)++S from ⟨List.mem_append_right _ HR.out.g,List.mem_append_right _ HGF.out⟩)
      generalize blV (.slice A4 (b.length+fd.length) c4)++S=S5 at *
      have HI2:=hid (show BodyInv h fr2 (b++fd) from by have h1:=inv_body1 HI.out s[k];rw [←HCB.out,←HNX.out,HX.out] at h1;exact h1)
      have HDN2:=hid (done13_any fr2 (b.length+fd.length) gf w5 HF5.out HI2.out.bad HI2.out.ck.pos (by rw [HI2.out.kind];exact HI2.out.k1) (by rw [HI2.out.kind];exact HI2.out.k4))
      have z14:w5.cell? ⟨g,14,none⟩=some (.pointer (some ⟨gf,0,none⟩)):=HR5.out.bk.cell 14
      cases hd2:frDone fr2 with
      | false=>
        rw [hd2] at HDN2
        have HD2:=hid hd2
        clear hd2
        go_wp2_with (go_at_call 24;refine HDN2.out.mono ?_;rintro e w6 ⟨rfl,hg6⟩)
        refine ⟨⟨k+1,by omega,by go_num,S5,?_,HP5.out.gr hg6⟩,by simp [intOf];omega⟩
        rw [HX.out]
        refine RdR.gr (w:=w5) ⟨⟨tm,tt,fv,_,gf,by rw [HD2.out];exact HR5.out,fun _=>⟨by rw [List.length_append];exact HF5.out,HG5.out.2,HFD.out⟩⟩,HG5.out.1,HLO5.out,HHI5.out,HI2.out⟩ hg6
      | true=>
        rw [hd2] at HDN2
        have HD2:=hid hd2
        clear hd2
        have r9:∀x,Gr w5 x→x.cell? ⟨g,9,none⟩=some (.int .i64 0):=fun x h=>(HR5.out.bk.gr h).cell 9
        have q9:∀x,Gr w5 x→x.frozen? ⟨g,9,none⟩=false:=fun x h=>(HR5.out.bk.gr h).free 9 (.inr (Nat.zero_le _))
        go_wp2_with (go_at_call 24;refine HDN2.out.mono ?_;rintro e w6 ⟨rfl,hg6⟩)
        refine ⟨⟨k+1,by omega,by go_num,S5,?_,(HP5.out.gr hg6).st HG5.out.1 9 _⟩,by simp [intOf];omega⟩
        rw [HX.out]
        have hR6:=HR5.out.blk (w':=w6) HG5.out.1 (fun j hj=>hg6.block j (HHI5.out j hj)) hg6.size
        exact ⟨⟨tm,tt,fv,_,gf,by rw [HD2.out];exact hR6.done,fun _=>⟨by rw [List.length_append];exact (HF5.out.gr hg6).far (by_st ((Gr.refl w6).by (some g)) 9 _) HGFN.out,HG5.out.2,HFD.out⟩⟩,HG5.out.1,HLO5.out,fun j hj=>by have h1:=HHI5.out j hj;have h2:=hg6.size;simp [World.setCell];omega,HI2.out⟩
end Go.Proofs.YtgfckbhkgggkeaaGreatDoor
/- XClient26 -/
namespace Go.Proofs.YtgfckbhkgggkeaaGreatDoor
open Lib (hid)
open Go.RowKit
theorem wpG_quietD {P:Program} {md:Region.Mode} {Q:Exit→Act→World→Prop} {r:Option Nat} {w0 w:World} {l:List Oper} {fuel:Nat} {listed:Array Bool} {a:Act} (idx:List Nat) (n d:Nat) (hd:pickOps l idx=l.drop d) (hw:w0.grownBy w r) (hn:fuel=idx.length+n) (hB:(Region.noSelect l.toArray&&mixGo md l.toArray idx listed)=true)
  (hQ:∀(o:Option Tmp) (v:Value) c a w,Q (.panic c) (a.put o v) w→Q (.panic c) a w)
  (h:wpGq P l.toArray w r (fun a'=>wpG P md l.toArray Q w r n (mixAt idx listed) a' w) (l.drop d) a):wpG P md l.toArray Q w0 r fuel listed a w:=
 wpG_quiet idx n hw hn hB hQ (by rw [hd];exact h)
def offAll (ops:Array Oper):List Oper→Act→Bool
 | [],_=>true
 | o::r,a=>!(Region.wanted o (yielded ops a.tmps))&&offAll ops r (a.put o.dst undef)
def offPut:List Oper→Act→Act
 | [],a=>a
 | o::r,a=>offPut r (a.put o.dst undef)
theorem wpGq_off {P:Program} {ops:Array Oper} {w:World} {r:Option Nat} {Q:Act→Prop}:∀(u rest:List Oper) (a:Act),offAll ops u a=true→wpGq P ops w r Q rest (offPut u a)→wpGq P ops w r Q (u++rest) a
 | [],_,_,_,h=>h
 | o::u,rest,a,hu,h=>by
   unfold offAll at hu
   simp only [Bool.and_eq_true,Bool.not_eq_true'] at hu
   show if Region.wanted o (yielded ops a.tmps) then gqOp P o a w r (wpGq P ops w r Q (u++rest)) else wpGq P ops w r Q (u++rest) (a.put o.dst undef)
   rw [if_neg (by rw [hu.1];decide)]
   exact wpGq_off u rest _ hu.2 h
theorem wpGq_gap {P:Program} {ops:Array Oper} {w:World} {r:Option Nat} {Q:Act→Prop} (n1 n2:Nat):∀{l:List Oper} {a:Act},wpGq P ops w r (fun a1=>offAll ops ((l.drop n1).take n2) a1=true∧offPut ((l.drop n1).take n2) a1=a1∧wpGq P ops w r Q ((l.drop n1).drop n2) a1) (l.take n1) a→wpGq P ops w r Q l a:=by
 have key:∀(pre u rest:List Oper) (a:Act),wpGq P ops w r (fun a1=>offAll ops u a1=true∧offPut u a1=a1∧wpGq P ops w r Q rest a1) pre a→wpGq P ops w r Q (pre++(u++rest)) a:=by
  intro pre u rest
  induction pre with
  | nil=>intro a h;exact wpGq_off u rest a h.1 (by rw [h.2.1];exact h.2.2)
  | cons o pre ih=>
    intro a h
    unfold wpGq at h
    show if Region.wanted o (yielded ops a.tmps) then gqOp P o a w r (wpGq P ops w r Q (pre++(u++rest))) else wpGq P ops w r Q (pre++(u++rest)) (a.put o.dst undef)
    by_cases hw:Region.wanted o (yielded ops a.tmps)=true
    ·rw [if_pos hw] at h ⊢
     obtain ⟨v,h1,h2⟩:=h
     exact ⟨v,h1,ih _ h2⟩
    ·rw [if_neg hw] at h ⊢
     exact ih _ h
 intro l a h
 have:=key _ _ _ a h
 rwa [List.take_append_drop,List.take_append_drop] at this
set_option maxHeartbeats 32000000 in
set_option maxRecDepth 100000 in
theorem end16_any {W0 w:World} {g:Nat} {S:List Nat} {s:ClS} (k:RdR W0 w g S false s) (hw:s.wrong=false) (hsz:s.sz≤60000):Calls Tryz.prog 9 #[.pointer (some ⟨g,0,none⟩)] w fun e w'=>e=.returned (.int .i64 (s.ends:Nat))∧RdR W0 w' g S true s∧Stp w S w' S:=by
 have HK:=hid k
 cases s with
 | bad0=>cases hw
 | bad1 h b=>cases hw
 | head raw=>
   have hbk:Bk w g 44 rd0Cs (0,0):=k.at_
   have z1:w.cell? ⟨g,1,none⟩=some (.int .i64 0):=hbk.cell 1
   clear hbk k hw
   go_enter Tryz.func9,Tryz.ntmps9
   go_upto_region 1 with fail
   go_quiet (fail)
   have hdr:=Gr.drN (Gr.refl w) nq
   generalize w.drewN nq=w2 at *
   clear z1
   go_wp2_with fail
   go_ret
   have hR:RdR W0 w g S true (.head raw):=⟨HK.out.at_,HK.out.g,HK.out.lo,HK.out.hi,HK.out.inv⟩
   exact ⟨rfl,hR.gr hdr,Stp.of_gr S hdr⟩
 | body h fr b=>
   obtain ⟨tm,tt,fv,bv,gf,hB,hF0⟩:=k.at_
   obtain ⟨hF,hgf,hfd⟩:=hF0 rfl
   clear hF0
   have hi:BodyInv h fr b:=k.inv
   have hbl:b.length≤60000:=hsz
   have HEN:=hid (fun (x:World) (hx:Gr w x)=>end13_any fr b.length gf x (hF.gr hx) hi.bad hi.ck.pos (by rw [hi.kind];exact hi.k1) (by rw [hi.kind];exact hi.k4))
   have HX:=hid (show (ClS.body h fr b).ends=if frDone fr.stop=false then 13 else if h.kind=4 then 0 else if h.tells=2 then (if (b.length:Int) < h.til-h.fro then 13 else 0) else if h.tells=3 then (match multiL h.bnd b with | .inl e=>if e=13 then 13 else 2 | .inr _=>0) else 0 from rfl)
   have HFR:=hid (fun (x:World) (hk:w.grownBy x (some gf))=>hB.frame hF hfd hk)
   have HGN:=hid (show g≠gf from by obtain ⟨lv,r,hb,-⟩:=hF;exact bk_ne hB.bk hb (by decide))
   have HGF:=hid hgf
   have HI:=hid hi
   have z1:w.cell? ⟨g,1,none⟩=some (.int .i64 1):=hB.bk.cell 1
   have z14:w.cell? ⟨g,14,none⟩=some (.pointer (some ⟨gf,0,none⟩)):=hB.bk.cell 14
   clear k hw hB hF hgf hfd hsz
   have HFIN:=hid (fun (x:World) (hk:w.grownBy x (some gf))=>(show RdR W0 x g S true (.body h fr b)∧Stp w S x S from
    ⟨⟨⟨tm,tt,fv,bv,gf,HFR.out x hk,fun h=>by cases h⟩,HK.out.g,HK.out.lo,fun j hj=>Nat.lt_of_lt_of_le (HK.out.hi j hj) hk.size,HI.out⟩,(Kr.refl (Nat.le_refl _)).by hk (fun j e=>.inl (by obtain rfl:gf=j:=(by simpa using e);exact HGF.out)),fun _ hj=>.inl hj⟩))
   go_enter Tryz.func9,Tryz.ntmps9
   go_upto_region 1 with fail
   have p1:=gx_cell (r:=some gf) z1 (by simpa using HGN.out)
   have p14:=gx_cell (r:=some gf) z14 (by simpa using HGN.out)
   refine wp_region_mix [0,1,2,3,4,5,6,7,8,9] (some gf) 36 (by kernel_rfl) rfl (by kernel_rfl) (fun o _ _ _ _ h=>by cases o <;> exact h) ?_
   simp only [pickOps,List.filterMap_cons,List.filterMap_nil,List.getElem?_cons_zero,List.getElem?_cons_succ]
   repeat (first | (refine wpGq_step (fun K hK=>?_);go_simp;refine hK _ ?_;clear hK K) | (refine wpGq_step (fun K hK=>?_);go_simp;simp only [↓IntWalk.iteOmega];go_simp;refine hK _ ?_;clear hK K) | (refine wpGq_step (fun K hK=>?_);go_simp;apply Exists.intro;refine ⟨fun _=>?_,hK _ ?_⟩;fail;clear hK K))
   refine wpGq_nil ?_
   clear p1 p14
   refine wpG_oneW 10 (by kernel_rfl) rfl (by go_simp) (fun K hK wa hga=>?_)
   go_simp
   refine (HEN.out wa hga).mono ?_
   rintro e wb ⟨rfl,hkb⟩
   have hkw:w.grownBy wb (some gf):=by_by (hga.by _) hkb
   refine hK _ _ hkw ?_
   clear hK K HEN
   generalize frDone fr.stop=D at *
   cases D with
   | false=>
     have HE:=hid (HX.out.trans (if_pos rfl))
     clear HX hga hkb z1 z14 hi
     refine wpG_quietD [11,12,13,14,15,16,17,18,19,20,21,22,23,24,25,26,27,28,29,30,31,32,33,34,35,36,37,38,39,40,41,42,43,44,45] 0 11 (by kernel_rfl) (hkw) rfl (by kernel_rfl) (fun o _ _ _ _ h=>by cases o <;> exact h) ?_
     refine wpGq_gap 3 31 ?_
     simp only [List.drop_succ_cons,List.drop_zero,List.take_succ_cons,List.take_zero]
     repeat (first | (refine wpGq_step (fun K hK=>?_);go_simp;refine hK _ ?_;clear hK K) | (refine wpGq_step (fun K hK=>?_);go_simp;simp only [↓IntWalk.iteOmega];go_simp;refine hK _ ?_;clear hK K))
     refine wpGq_nil ⟨by kernel_rfl,by kernel_rfl,?_⟩
     repeat (first | (refine wpGq_step (fun K hK=>?_);go_simp;refine hK _ ?_;clear hK K) | (refine wpGq_step (fun K hK=>?_);go_simp;simp only [↓IntWalk.iteOmega];go_simp;refine hK _ ?_;clear hK K))
     refine wpGq_nil ?_
     refine wpG_done (by kernel_rfl) (fun w2 hg2=>?_)
     have HKW:=hid (by_tr hkw hg2)
     clear hkw hg2
     go_wp2_with fail
     go_ret
     rw [HE.out]
     exact ⟨rfl,HFIN.out _ HKW.out⟩
   | true=>
     have HE:=hid (HX.out.trans (if_neg (by decide)))
     clear HX hi
     have hRB:=HFR.out wb hkw
     have hYB:Byts wb bv b:=hRB.own.own.sl (by decide)
     obtain ⟨Ab,cb,rfl,-,-,-⟩:=id hYB.open
     have HRB:=hid hRB
     have HYB:=hid hYB
     have z10:wb.cell? ⟨g,10,none⟩=some (.int .i64 (h.tells:Nat)):=hRB.bk.cell 10
     have z6:wb.cell? ⟨g,6,none⟩=some (.int .i64 (h.kind:Nat)):=hRB.bk.cell 6
     have z8:wb.cell? ⟨g,8,none⟩=some (.slice Ab b.length cb):=hRB.bk.cell 8
     have z11:wb.cell? ⟨g,11,none⟩=some (.int .i64 h.fro):=hRB.bk.cell 11
     have z12:wb.cell? ⟨g,12,none⟩=some (.int .i64 h.til):=hRB.bk.cell 12
     have p10:=gx_cell (r:=some gf) z10 (by simpa using HGN.out)
     have p6:=gx_cell (r:=some gf) z6 (by simpa using HGN.out)
     have p8:=gx_cell (r:=some gf) z8 (by simpa using HGN.out)
     have p11:=gx_cell (r:=some gf) z11 (by simpa using HGN.out)
     have p12:=gx_cell (r:=some gf) z12 (by simpa using HGN.out)
     clear hRB hYB z1 z14 z10 z6 z8 z11 z12 hga hkb
     by_cases ht2:h.tells=2
     case pos=>
      have d2:(((h.tells:Nat):Int)==2)=true:=by simp;omega
      have d3:(((h.tells:Nat):Int) != 3)=true:=by simp;omega
      obtain ⟨hs1,hs2,hs3⟩:=HI.out.span ht2
      have e3:IntKind.i64.wrap (h.til-h.fro)=h.til-h.fro:=IntWalk.i64_in _ (by omega)
      by_cases h4:h.kind=4
      case pos=>
       have d4:(((h.kind:Nat):Int) != 4)=false:=by simp;omega
       have HE2:=hid (HE.out.trans (if_pos h4))
       clear h4 ht2 HE
       refine wpG_quietD [11,12,13,14,15,16,17,18,19,20,21,22,23,24,25,26,27,28,29,30,31,32,33,34,35,36,37,38,39,40,41,42,43,44,45] 0 11 (by kernel_rfl) (hkw) rfl (by kernel_rfl) (fun o _ _ _ _ h=>by cases o <;> exact h) ?_
       refine wpGq_gap 16 17 ?_
       simp only [List.drop_succ_cons,List.drop_zero,List.take_succ_cons,List.take_zero]
       repeat (first | (refine wpGq_step (fun K hK=>?_);go_simp;refine hK _ ?_;clear hK K) | (refine wpGq_step (fun K hK=>?_);go_simp;simp only [↓IntWalk.iteOmega];go_simp;refine hK _ ?_;clear hK K))
       refine wpGq_nil ⟨by kernel_rfl,by kernel_rfl,?_⟩
       repeat (first | (refine wpGq_step (fun K hK=>?_);go_simp;refine hK _ ?_;clear hK K) | (refine wpGq_step (fun K hK=>?_);go_simp;simp only [↓IntWalk.iteOmega];go_simp;refine hK _ ?_;clear hK K))
       refine wpGq_nil ?_
       refine wpG_done (by kernel_rfl) (fun w2 hg2=>?_)
       have HKW:=hid (by_tr hkw hg2)
       have y10:w2.cell? ⟨g,10,none⟩=some (.int .i64 (h.tells:Nat)):=(HRB.out.bk.gr hg2).cell 10
       have y6:w2.cell? ⟨g,6,none⟩=some (.int .i64 (h.kind:Nat)):=(HRB.out.bk.gr hg2).cell 6
       clear p10 p6 p8 p11 p12 hkw hg2
       go_wp2_with fail
       go_ret
       rw [HE2.out]
       exact ⟨rfl,HFIN.out _ HKW.out⟩
      have d4:(((h.kind:Nat):Int) != 4)=true:=by simp;omega
      by_cases hlt:(b.length:Int) < h.til-h.fro
      case pos=>
       have dl:decide ((b.length:Int) < h.til-h.fro)=true:=decide_eq_true hlt
       have HE2:=hid (HE.out.trans ((if_neg h4).trans ((if_pos ht2).trans (if_pos hlt))))
       clear h4 ht2 HE hlt
       refine wpG_quietD [11,12,13,14,15,16,17,18,19,20,21,22,23,24,25,26,27,28,29,30,31,32,33,34,35,36,37,38,39,40,41,42,43,44,45] 0 11 (by kernel_rfl) (hkw) rfl (by kernel_rfl) (fun o _ _ _ _ h=>by cases o <;> exact h) ?_
       simp only [List.drop_succ_cons,List.drop_zero,List.take_succ_cons,List.take_zero]
       repeat (first | (refine wpGq_step (fun K hK=>?_);go_simp;refine hK _ ?_;clear hK K) | (refine wpGq_step (fun K hK=>?_);go_simp;simp only [↓IntWalk.iteOmega];go_simp;refine hK _ ?_;clear hK K))
       refine wpGq_nil ?_
       refine wpG_done (by kernel_rfl) (fun w2 hg2=>?_)
       have HKW:=hid (by_tr hkw hg2)
       have y10:w2.cell? ⟨g,10,none⟩=some (.int .i64 (h.tells:Nat)):=(HRB.out.bk.gr hg2).cell 10
       have y6:w2.cell? ⟨g,6,none⟩=some (.int .i64 (h.kind:Nat)):=(HRB.out.bk.gr hg2).cell 6
       clear p10 p6 p8 p11 p12 hkw hg2
       go_wp2_with fail
       go_ret
       rw [HE2.out]
       exact ⟨rfl,HFIN.out _ HKW.out⟩
      have dl:decide ((b.length:Int) < h.til-h.fro)=false:=decide_eq_false hlt
      have HE2:=hid (HE.out.trans ((if_neg h4).trans ((if_pos ht2).trans (if_neg hlt))))
      clear h4 ht2 HE hlt
      refine wpG_quietD [11,12,13,14,15,16,17,18,19,20,21,22,23,24,25,26,27,28,29,30,31,32,33,34,35,36,37,38,39,40,41,42,43,44,45] 0 11 (by kernel_rfl) (hkw) rfl (by kernel_rfl) (fun o _ _ _ _ h=>by cases o <;> exact h) ?_
      simp only [List.drop_succ_cons,List.drop_zero,List.take_succ_cons,List.take_zero]
      repeat (first | (refine wpGq_step (fun K hK=>?_);go_simp;refine hK _ ?_;clear hK K) | (refine wpGq_step (fun K hK=>?_);go_simp;simp only [↓IntWalk.iteOmega];go_simp;refine hK _ ?_;clear hK K))
      refine wpGq_nil ?_
      refine wpG_done (by kernel_rfl) (fun w2 hg2=>?_)
      have HKW:=hid (by_tr hkw hg2)
      have y10:w2.cell? ⟨g,10,none⟩=some (.int .i64 (h.tells:Nat)):=(HRB.out.bk.gr hg2).cell 10
      have y6:w2.cell? ⟨g,6,none⟩=some (.int .i64 (h.kind:Nat)):=(HRB.out.bk.gr hg2).cell 6
      clear p10 p6 p8 p11 p12 hkw hg2
      go_wp2_with fail
      go_ret
      rw [HE2.out]
      exact ⟨rfl,HFIN.out _ HKW.out⟩
     have d2:(((h.tells:Nat):Int)==2)=false:=by simp;omega
     by_cases h4:h.kind=4
     case pos=>
      have HE2:=hid (HE.out.trans (if_pos h4))
      have d4:(((h.kind:Nat):Int)==4)=true:=by simp;omega
      clear h4 HE
      refine wpG_quietD [11,12,13,14,15,16,17,18,19,20,21,22,23,24,25,26,27,28,29,30,31,32,33,34,35,36,37,38,39,40,41,42,43,44,45] 0 11 (by kernel_rfl) (hkw) rfl (by kernel_rfl) (fun o _ _ _ _ h=>by cases o <;> exact h) ?_
      refine wpGq_gap 9 5 ?_
      simp only [List.drop_succ_cons,List.drop_zero,List.take_succ_cons,List.take_zero]
      repeat (first | (refine wpGq_step (fun K hK=>?_);go_simp;refine hK _ ?_;clear hK K) | (refine wpGq_step (fun K hK=>?_);go_simp;simp only [↓IntWalk.iteOmega];go_simp;refine hK _ ?_;clear hK K))
      refine wpGq_nil ⟨by kernel_rfl,by kernel_rfl,?_⟩
      refine wpGq_gap 2 17 ?_
      simp only [List.drop_succ_cons,List.drop_zero,List.take_succ_cons,List.take_zero]
      repeat (first | (refine wpGq_step (fun K hK=>?_);go_simp;refine hK _ ?_;clear hK K) | (refine wpGq_step (fun K hK=>?_);go_simp;simp only [↓IntWalk.iteOmega];go_simp;refine hK _ ?_;clear hK K))
      refine wpGq_nil ⟨by kernel_rfl,by kernel_rfl,?_⟩
      repeat (first | (refine wpGq_step (fun K hK=>?_);go_simp;refine hK _ ?_;clear hK K) | (refine wpGq_step (fun K hK=>?_);go_simp;simp only [↓IntWalk.iteOmega];go_simp;refine hK _ ?_;clear hK K))
      refine wpGq_nil ?_
      refine wpG_done (by kernel_rfl) (fun w2 hg2=>?_)
      have HKW:=hid (by_tr hkw hg2)
      have y10:w2.cell? ⟨g,10,none⟩=some (.int .i64 (h.tells:Nat)):=(HRB.out.bk.gr hg2).cell 10
      have y6:w2.cell? ⟨g,6,none⟩=some (.int .i64 (h.kind:Nat)):=(HRB.out.bk.gr hg2).cell 6
      clear p10 p6 p8 p11 p12 hkw hg2
      cases d3:(((h.tells:Nat):Int) != 3)
      all_goals
       go_wp2_with fail
       go_ret
       rw [HE2.out]
       exact ⟨rfl,HFIN.out _ HKW.out⟩
     have d4:(((h.kind:Nat):Int)==4)=false:=by simp;omega
     by_cases h3:h.tells=3
     case neg=>
      have HE2:=hid (HE.out.trans ((if_neg h4).trans ((if_neg ht2).trans (if_neg h3))))
      have d3:(((h.tells:Nat):Int) != 3)=true:=by simp;omega
      clear h4 ht2 h3 HE
      refine wpG_quietD [11,12,13,14,15,16,17,18,19,20,21,22,23,24,25,26,27,28,29,30,31,32,33,34,35,36,37,38,39,40,41,42,43,44,45] 0 11 (by kernel_rfl) (hkw) rfl (by kernel_rfl) (fun o _ _ _ _ h=>by cases o <;> exact h) ?_
      refine wpGq_gap 9 5 ?_
      simp only [List.drop_succ_cons,List.drop_zero,List.take_succ_cons,List.take_zero]
      repeat (first | (refine wpGq_step (fun K hK=>?_);go_simp;refine hK _ ?_;clear hK K) | (refine wpGq_step (fun K hK=>?_);go_simp;simp only [↓IntWalk.iteOmega];go_simp;refine hK _ ?_;clear hK K))
      refine wpGq_nil ⟨by kernel_rfl,by kernel_rfl,?_⟩
      refine wpGq_gap 2 17 ?_
      simp only [List.drop_succ_cons,List.drop_zero,List.take_succ_cons,List.take_zero]
      repeat (first | (refine wpGq_step (fun K hK=>?_);go_simp;refine hK _ ?_;clear hK K) | (refine wpGq_step (fun K hK=>?_);go_simp;simp only [↓IntWalk.iteOmega];go_simp;refine hK _ ?_;clear hK K))
      refine wpGq_nil ⟨by kernel_rfl,by kernel_rfl,?_⟩
      repeat (first | (refine wpGq_step (fun K hK=>?_);go_simp;refine hK _ ?_;clear hK K) | (refine wpGq_step (fun K hK=>?_);go_simp;simp only [↓IntWalk.iteOmega];go_simp;refine hK _ ?_;clear hK K))
      refine wpGq_nil ?_
      refine wpG_done (by kernel_rfl) (fun w2 hg2=>?_)
      have HKW:=hid (by_tr hkw hg2)
      have y10:w2.cell? ⟨g,10,none⟩=some (.int .i64 (h.tells:Nat)):=(HRB.out.bk.gr hg2).cell 10
      have y6:w2.cell? ⟨g,6,none⟩=some (.int .i64 (h.kind:Nat)):=(HRB.out.bk.gr hg2).cell 6
      clear p10 p6 p8 p11 p12 hkw hg2
      go_wp2_with fail
      go_ret
      rw [HE2.out]
      exact ⟨rfl,HFIN.out _ HKW.out⟩
     have HE3:=hid (HE.out.trans ((if_neg h4).trans ((if_neg ht2).trans (if_pos h3))))
     have d3:(((h.tells:Nat):Int) != 3)=false:=by simp;omega
     have HBL:=hid (boundB_len (HI.out.bnd h3))
     clear h4 ht2 h3 HE
     refine wpG_quietD [11,12,13,14,15,16,17,18,19,20,21,22,23,24,25,26,27,28,29,30,31,32,33,34,35,36,37,38,39,40,41,42,43,44,45] 0 11 (by kernel_rfl) (hkw) rfl (by kernel_rfl) (fun o _ _ _ _ h=>by cases o <;> exact h) ?_
     refine wpGq_gap 9 5 ?_
     simp only [List.drop_succ_cons,List.drop_zero,List.take_succ_cons,List.take_zero]
     repeat (first | (refine wpGq_step (fun K hK=>?_);go_simp;refine hK _ ?_;clear hK K) | (refine wpGq_step (fun K hK=>?_);go_simp;simp only [↓IntWalk.iteOmega];go_simp;refine hK _ ?_;clear hK K))
     refine wpGq_nil ⟨by kernel_rfl,by kernel_rfl,?_⟩
     refine wpGq_gap 2 17 ?_
     simp only [List.drop_succ_cons,List.drop_zero,List.take_succ_cons,List.take_zero]
     repeat (first | (refine wpGq_step (fun K hK=>?_);go_simp;refine hK _ ?_;clear hK K) | (refine wpGq_step (fun K hK=>?_);go_simp;simp only [↓IntWalk.iteOmega];go_simp;refine hK _ ?_;clear hK K))
     refine wpGq_nil ⟨by kernel_rfl,by kernel_rfl,?_⟩
     repeat (first | (refine wpGq_step (fun K hK=>?_);go_simp;refine hK _ ?_;clear hK K) | (refine wpGq_step (fun K hK=>?_);go_simp;simp only [↓IntWalk.iteOmega];go_simp;refine hK _ ?_;clear hK K))
     refine wpGq_nil ?_
     refine wpG_done (by kernel_rfl) (fun w2 hg2=>?_)
     have HKW:=hid (by_tr hkw hg2)
     have y10:w2.cell? ⟨g,10,none⟩=some (.int .i64 (h.tells:Nat)):=(HRB.out.bk.gr hg2).cell 10
     have y6:w2.cell? ⟨g,6,none⟩=some (.int .i64 (h.kind:Nat)):=(HRB.out.bk.gr hg2).cell 6
     clear p10 p6 p8 p11 p12 hkw 
     have y8:w2.cell? ⟨g,8,none⟩=some (.slice Ab b.length cb):=(HRB.out.bk.gr hg2).cell 8
     have y13:w2.cell? ⟨g,13,none⟩=some (str h.bnd):=(HRB.out.bk.gr hg2).cell 13
     have HRD:=hid (fun (x:World) (k:Gr w2 x)=>refRead_any (.slice Ab b.length cb) b h.bnd x ((HYB.out.gr hg2).gr k) (by omega) HBL.out)
     clear hg2
     go_upto_region 5 with fail
     have p13:=gx_cell (r:=none) y13 (by simp)
     have p8:=gx_cell (r:=none) y8 (by simp)
     refine wp_region_mix [0,1,2,3,4,5,6,7] none 6 (by kernel_rfl) rfl (by kernel_rfl) (fun o _ _ _ _ h=>by cases o <;> exact h) ?_
     simp only [pickOps,List.filterMap_cons,List.filterMap_nil,List.getElem?_cons_zero,List.getElem?_cons_succ]
     repeat (first | (refine wpGq_step (fun K hK=>?_);go_simp;refine hK _ ?_;clear hK K) | (refine wpGq_step (fun K hK=>?_);go_simp;simp only [↓IntWalk.iteOmega];go_simp;refine hK _ ?_;clear hK K) | (refine wpGq_step (fun K hK=>?_);go_simp;apply Exists.intro;refine ⟨fun _=>?_,hK _ ?_⟩;fail;clear hK K))
     refine wpGq_nil ?_
     refine wpG_one 8 (by kernel_rfl) rfl rfl (fun K hK wc hgc=>?_)
     go_simp
     refine (HRD.out wc hgc).mono ?_
     rintro e wd ⟨hgd,hE⟩
     have hgw:=Gr.tr hgc hgd
     clear p13 p8 y8 y13 y10 y6
     cases hmm:multiL h.bnd b with
     | inr ps=>
       have HE2:=hid (HE3.out.trans (by rw [hmm]:_=0))
       rw [hmm] at hE
       obtain ⟨vp,rfl,-⟩:=hE
       clear hmm
       refine hK _ _ (hgw.by _) ?_
       clear hK K
       refine wpG_quiet [9,10,11,12,13] 0 (hgw.by _) rfl (by kernel_rfl) (fun o _ _ _ _ h=>by cases o <;> exact h) ?_
       simp only [pickOps,List.filterMap_cons,List.filterMap_nil,List.getElem?_cons_zero,List.getElem?_cons_succ]
       repeat (first | (refine wpGq_step (fun K hK=>?_);go_simp;refine hK _ ?_;clear hK K) | (refine wpGq_step (fun K hK=>?_);go_simp;simp only [↓IntWalk.iteOmega];go_simp;refine hK _ ?_;clear hK K) | (refine wpGq_step (fun K hK=>?_);go_simp;apply Exists.intro;refine ⟨fun _=>?_,hK _ ?_⟩;fail;clear hK K))
       refine wpGq_nil ?_
       refine wpG_done (by kernel_rfl) (fun w5 hg5=>?_)
       have HK5:=hid (by_tr HKW.out (Gr.tr hgw hg5))
       clear hgw hg5 hgc hgd
       go_wp2_with fail
       go_ret
       rw [HE2.out]
       exact ⟨rfl,HFIN.out _ HK5.out⟩
     | inl er=>
       have hne:=multiL_ne hmm
       have HE2:=hid (HE3.out.trans (by rw [hmm]:_=if er=13 then 13 else 2))
       rw [hmm] at hE
       subst hE
       have d0:((er:Int) != 0)=true:=by simp;omega
       clear hmm
       refine hK _ _ (hgw.by _) ?_
       clear hK K
       refine wpG_quiet [9,10,11,12,13] 0 (hgw.by _) rfl (by kernel_rfl) (fun o _ _ _ _ h=>by cases o <;> exact h) ?_
       simp only [pickOps,List.filterMap_cons,List.filterMap_nil,List.getElem?_cons_zero,List.getElem?_cons_succ]
       repeat (first | (refine wpGq_step (fun K hK=>?_);go_simp;refine hK _ ?_;clear hK K) | (refine wpGq_step (fun K hK=>?_);go_simp;simp only [↓IntWalk.iteOmega];go_simp;refine hK _ ?_;clear hK K) | (refine wpGq_step (fun K hK=>?_);go_simp;apply Exists.intro;refine ⟨fun _=>?_,hK _ ?_⟩;fail;clear hK K))
       refine wpGq_nil ?_
       refine wpG_done (by kernel_rfl) (fun w5 hg5=>?_)
       have HK5:=hid (by_tr HKW.out (Gr.tr hgw hg5))
       clear hgw hg5 hgc hgd
       by_cases h13:er=13
       ·have d13:((er:Int) != 13)=false:=by simp;omega
        have HE4:=hid (HE2.out.trans (if_pos h13))
        have h13:=hid h13
        go_wp2_with fail
        go_ret
        rw [HE4.out,h13.out]
        exact ⟨rfl,HFIN.out _ HK5.out⟩
       ·have d13:((er:Int) != 13)=true:=by simp;omega
        have HE4:=hid (HE2.out.trans (if_neg h13))
        clear h13 hne
        go_wp2_with fail
        go_ret
        rw [HE4.out]
        exact ⟨rfl,HFIN.out _ HK5.out⟩
end Go.Proofs.YtgfckbhkgggkeaaGreatDoor
