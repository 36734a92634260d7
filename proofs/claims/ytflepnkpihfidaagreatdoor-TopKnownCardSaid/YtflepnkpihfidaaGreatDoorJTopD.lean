/- Parts. No conditions but those that each theorem names. -/
import Derived.Test.YtflepnkpihfidaaGreatDoorJTopB
import Derived.Test.YtflepnkpihfidaaGreatDoorJTopL
import Derived.Test.YtflepnkpihfidaaGreatDoorMulti20
import Derived.Test.YtflepnkpihfidaaGreatDoorJSpec
import Derived.Test.YtflepnkpihfidaaGreatDoorJTopC
import Derived.Test.YtflepnkpihfidaaGreatDoorJClB
import Derived.Test.YtflepnkpihfidaaGreatDoorJGate3
set_option linter.unusedVariables false
set_option linter.unusedSimpArgs false
namespace Go.Proofs.YtflepnkpihfidaaGreatDoor
open Lib (hid)
open Go.RowKit Go.Sort Go.Shelf
abbrev SpT:=Int×Int
def encS (x:SpT):List Value:=[.int .i64 x.1,.int .i64 x.2]
theorem encS_len (x:SpT):(encS x).length=2:=rfl
theorem encS_one (x:SpT):∀v∈encS x,v.oneCell'=true:=one_span x.1 x.2
theorem spansV_enc (l:List SpT):spansV l=l.flatMap encS:=rfl
def cfS (a b:SpT):Int:=Lib.compareInt a.1 b.1
theorem swoS:SWO (ltOf cfS) where
 irrefl x:=by unfold ltOf cfS Lib.compareInt;simp
 trans x y z h1 h2:=by
  unfold ltOf cfS Lib.compareInt at *
  simp only [decide_eq_true_eq] at *
  repeat' split at h1
  all_goals repeat' split at h2
  all_goals repeat' split
  all_goals omega
 ntrans x y z h1 h2:=by
  unfold ltOf cfS Lib.compareInt at *
  simp only [decide_eq_false_iff_not] at *
  repeat' split at h1
  all_goals repeat' split at h2
  all_goals repeat' split
  all_goals omega
def sortS (l:List SpT):List SpT:=(Go.Sort.insertionSort (ltOf cfS) l.toArray 0 l.length).toList
theorem sortS_perm (l:List SpT):(sortS l).Perm l:=by
 have:=(insertionSort_holds (lt:=ltOf cfS) swoS l.toArray 0 l.length (Nat.zero_le _) (by simp)).1
 obtain ⟨h1,_,h3⟩:=this
 unfold sortS
 have e:∀a:Array SpT,a.size=l.length→(a.extract 0 l.length).toList=a.toList:=fun a ha=>by rw [←ha];simp
 rw [e _ (by rw [h1];simp),e _ (by simp)] at h3
 simpa using h3
theorem sortS_none:sortS []=[]:=by
 unfold sortS Go.Sort.insertionSort
 rw [Go.Sort.insOuter,if_neg (by simp)]
theorem sortS_arr (l:List SpT):(sortS l).toArray=Go.Sort.insertionSort (ltOf cfS) l.toArray 0 l.length:=by unfold sortS;simp
theorem setFrom_any (x y:SpT) (w:World):Calls Tryz.prog 44 #[.agg (encS x).toArray,.agg (encS y).toArray] w fun e w'=>e=.returned (.int .i64 (cfS x y))∧∃q os',w'=grow (w.drewN q) os':=by
 have hcon:=fun (v:World)=>Tryz.cmp_Compare_int_f45 x.1 y.1 v
 unfold cfS encS
 obtain ⟨a,b⟩:=x
 obtain ⟨a',b'⟩:=y
 simp only at hcon ⊢
 generalize Lib.compareInt a a'=r at *
 obtain ⟨b1,b2,-⟩:=two_box w #[.int .i64 a,.int .i64 b] #[.int .i64 a',.int .i64 b'] 48 48
 have q0:=b1.cell 0
 have q1:=b2.cell 0
 go_enter Tryz.func44,Tryz.ntmps44
 go_upto_region 1 with fail
 have HW:=hid (show ∃q os',(w.alloc (Obj.cells #[.int .i64 a,.int .i64 b] 48)).alloc (Obj.cells #[.int .i64 a',.int .i64 b'] 48)=grow (w.drewN q) os' from ⟨0,_,by rw [alloc_eq_grow,alloc_eq_grow,grow_grow];rfl⟩)
 generalize (w.alloc (Obj.cells #[.int .i64 a,.int .i64 b] 48)).alloc (Obj.cells #[.int .i64 a',.int .i64 b'] 48)=w0 at *
 clear b1 b2
 go_wp2_with (go_at_call 45;refine (hcon _).mono ?_;rintro e w1 ⟨rfl,rfl⟩)
 go_ret
 exact ⟨rfl,HW.out⟩
theorem spanAgg (w:World):(isAgg 48).run Tryz.prog w=.ok true w:=by kernel_rfl
theorem spanSize (w:World):(Go.sizeOf 48).run Tryz.prog w=.ok 2 w:=by kernel_rfl
theorem sortS_any (W0 w:World) (b n cap:Nat) (l:List SpT) (hn:l.length=n) (hl:n≤12) (h:Own W0 w 48 2 (.slice (some ⟨b,0,none⟩) n cap) n (l.flatMap encS)) :
  Calls Tryz.prog 43 #[.slice (some ⟨b,0,none⟩) n cap,.func (.func 44) #[] #[]] w (fun e w'=>e=.returned (.tuple #[])∧Own W0 w' 48 2 (.slice (some ⟨b,0,none⟩) n cap) n ((sortS l).flatMap encS)∧w.grownBy w' (some b)):=by
 subst hn
 have eg:∀args w,(callFunc 44 args).run Tryz.prog w=.ok (.enter 44 args) w:=enters_of Tryz.func44 (by kernel_rfl) rfl
 obtain ⟨hH,hb,-⟩:=own_holds encS_len rfl h
 have hcon:=AnyQ.slices_SortFunc_small Tryz.sortSpan 2 spanAgg spanSize encS encS_len encS_one cfS 44 #[] b 0 cap l.toArray w eg (fun _ _ _ _ x y=>setFrom_any x y _) hH hb (by simpa using hl) bitsLen_any
 have hcon2:Calls Tryz.prog 43 _ _ _:=hcon
 refine hcon2.mono ?_
 rintro e w' ⟨rfl,m,os,rfl⟩
 rw [show Go.Sort.insertionSort (ltOf cfS) l.toArray 0 l.toArray.size=(sortS l).toArray from by rw [sortS_arr,List.size_toArray]]
 exact ⟨rfl,own_sorted encS_len (by rw [(sortS_perm l).length_eq]) h m os,sort_by encS 2 w b 0 m _ os⟩
set_option maxHeartbeats 4000000 in
set_option maxRecDepth 100000 in
theorem sortS_nil (w:World) (f:Value):Calls Tryz.prog 43 #[.slice none 0 0,f] w fun e w'=>e=.returned (.tuple #[])∧Gr w w':=by
 have HIN:=hid (show ∀v:World,Calls Tryz.prog 169 #[.slice none 0 0,.int .i64 0,.int .i64 0,f] v fun e w'=>e=.returned (.tuple #[])∧Gr v w' from by
  intro v
  go_enter Tryz.func169,Tryz.ntmps169
  go_wp2_with fail
  refine wp_loop_rounds 1 ?_
  rw [rounds_succ]
  go_wp2_with fail
  go_end0
  exact ⟨rfl,Gr.refl _⟩)
 have HPD:=hid (show ∀(v:World) (k:Int),Calls Tryz.prog 105 #[.slice none 0 0,.int .i64 0,.int .i64 0,.int .i64 k,f] v fun e w'=>e=.returned (.tuple #[])∧Gr v w' from by
  intro v k
  go_enter Tryz.func105,Tryz.ntmps105
  go_wp2_with fail
  refine wp_loop_rounds 1 ?_
  rw [rounds_succ]
  go_wp2_with (go_at_call 169;refine (HIN.out _).mono ?_;rintro e w1 ⟨rfl,hG1⟩)
  (try simp only [Exit.inBlock,Exit.then]);refine bodyPost_ret (results_none rfl _ _ _) rfl ?_
  exact ⟨rfl,hG1⟩)
 go_enter Tryz.func43,Tryz.ntmps43
 go_wp2_with (first
  | (go_at_call 106;refine (bitsLen_any 0 w (by omega)).mono ?_;rintro e w1 ⟨⟨k,rfl⟩,rfl⟩)
  | (go_at_call 105;refine (HPD.out _ _).mono ?_;rintro e w2 ⟨rfl,hG2⟩))
 go_end0
 exact ⟨rfl,hG2⟩
theorem sortS_own (W0 w:World) (l:List SpT) (v:Value) (hG:Gr W0 w) (h:Own W0 w 48 2 v l.length (spansV l)) (hl:l.length≤12):Calls Tryz.prog 43 #[v,.func (.func 44) #[] #[]] w (fun e w'=>e=.returned (.tuple #[])∧Gr W0 w'∧Own W0 w' 48 2 v l.length (spansV (sortS l))):=by
 rw [spansV_enc] at h ⊢
 rcases h.2 with ⟨hv,hn⟩ | ⟨bo,cap',cur,hv,hb,-⟩
 ·subst hv
  have hn:l=[]:=List.length_eq_zero_iff.1 hn
  subst hn
  refine (sortS_nil w _).mono ?_
  rintro e w' ⟨rfl,hg⟩
  exact ⟨rfl,Gr.tr hG hg,by rw [sortS_none];exact Own.nil _ _ _ _⟩
 ·subst hv
  refine (sortS_any W0 w bo l.length cap' l rfl hl h).mono ?_
  rintro e w' ⟨rfl,hO2,hB2⟩
  exact ⟨rfl,gr_of_by hG hB2 hb,hO2⟩
theorem gatherStep_nil (x:SpT):gatherStep [] x=[x]:=rfl
theorem gatherStep_met (T:List SpT) (g x:SpT) (h:x.1≤g.2):gatherStep (T++[g]) x=T++[(g.1,max g.2 x.2)]:=by
 unfold gatherStep
 rw [List.getLast?_concat]
 simp only
 rw [if_pos h,List.dropLast_concat]
theorem gatherStep_apart (T:List SpT) (g x:SpT) (h:¬x.1≤g.2):gatherStep (T++[g]) x=(T++[g])++[x]:=by
 unfold gatherStep
 rw [List.getLast?_concat]
 simp only
 rw [if_neg h]
theorem gathers_snoc (R:List SpT) (k:Nat) (h:k < R.length):(R.take (k+1)).foldl gatherStep []=gatherStep ((R.take k).foldl gatherStep []) R[k]:=by
 rw [take_snoc R k h,List.foldl_append];rfl
theorem spansV_len (l:List SpT):(spansV l).length=l.length*2:=by
 induction l with
 | nil=>rfl
 | cons s l ih=>rw [show spansV (s::l)=encS s++spansV l from rfl,List.length_append,ih,encS_len,List.length_cons];omega
theorem spansV_set (T:List SpT) (g:SpT) (z:Int):(spansV (T++[g])).set (T.length*2+1) (.int .i64 z)=spansV (T++[(g.1,z)]):=by
 rw [spansV_app,spansV_app,List.set_append_right _ _ (by rw [spansV_len];omega),spansV_len]
 congr 1
 rw [show T.length*2+1-T.length*2=1 from by omega]
 rfl
theorem spansV_lastat (T:List SpT) (g:SpT):(spansV (T++[g]))[T.length*2+1]?=some (.int .i64 g.2):=by
 have h:=(spansV_at (T++[g]) T.length (by simp)).2
 simpa using h
set_option maxHeartbeats 16000000 in
set_option maxRecDepth 100000 in
theorem gather_any (u:Value) (l:List SpT) (w:World) (hu:Spans w u l) (hl:l.length≤1000):Calls Tryz.prog 46 #[u] w (SpEnd (gatherL l) w):=by
 obtain ⟨A,c,rfl,hc,hm,hA⟩:=hu.open
 have HA:=hid hA
 have HLN:=hid (fun (j:Nat) (hj:j≤l.length)=>show ((l.take j).foldl gatherStep []).length≤j from by
  have:=gather_len (l.take j) []
  simp only [List.length_nil,Nat.zero_add,List.length_take] at this
  omega)
 have HSN:=hid (gathers_snoc l)
 have HX:=hid (show gatherL l=l.foldl gatherStep [] from rfl)
 generalize gatherL l=GL at *
 clear hA hu
 go_enter Tryz.func46,Tryz.ntmps46
 go_wp2_with fail
 go_loopw [3,5,6,9] (fun out x5 x6 i wr=>∃j:Nat,j≤l.length∧i=.int .i64 j∧Gr w wr∧Own w wr 48 2 out ((l.take j).foldl gatherStep []).length (spansV ((l.take j).foldl gatherStep []))) (fun _ _ _ i _=>l.length-(intOf i).toNat)
 case atStart=>exact ⟨0,Nat.zero_le _,rfl,Gr.refl _,Own.nil _ _ _ _⟩
 case round=>
  obtain ⟨j,hj,rfl,hG,hO⟩:=hrel
  have hOl:=HLN.out j hj
  by_cases hlt:j < l.length
  ·obtain ⟨b1,o1,rfl,hb1,p0,p1⟩:=HA.out j hlt
   have p0:=Gr.cell hG p0
   have p1:=Gr.cell hG p1
   have HFJ:=hid (HSN.out j hlt)
   generalize l[j]=f at *
   obtain ⟨ff,ft⟩:=f
   simp only at p0 p1
   generalize (l.take j).foldl gatherStep []=O at *
   obtain ⟨A8,c8,rfl⟩:=hO.form
   go_upto_region 5 with fail
   have hbf:=Bk.new wr 48 #[.int .i64 ff,.int .i64 ft] (0,0)
   have hGb:=Gr.al (Gr.refl wr) (Obj.cells #[.int .i64 ff,.int .i64 ft] 48)
   have HBN:=hid (fun (bb:Nat) (hv:(Value.slice A8 O.length c8).ownBlock=some bb)=>(World.ownsRow.lt hO bb hv).2)
   have HO:=hid (hO.gr hGb)
   have HG1:=hid (Gr.tr hG hGb)
   clear p0 p1 hGb hG hO
   generalize wr.alloc (Obj.cells #[.int .i64 ff,.int .i64 ft] 48)=wb at *
   generalize wr.heap.size=gb at *
   have y0:∀x,Gr wb x→x.cell? ⟨gb,0,none⟩=some (.int .i64 ff):=fun x h=>(hbf.gr h).cell 0
   have y1:∀x,Gr wb x→x.cell? ⟨gb,1,none⟩=some (.int .i64 ft):=fun x h=>(hbf.gr h).cell 1
   have hbb:=Gr.refl wb
   clear hbf
   rcases nil_or_snoc O with hOe | ⟨T,g,hOe⟩
   ·subst hOe
    rw [gatherStep_nil] at HFJ
    have HO:=hid (show Own w wb 48 2 (.slice A8 0 c8) 0 [] from HO.out)
    go_upto_region 6 with fail
    go_quiet (fail)
    have hd:=Gr.drN (Gr.refl wb) nq
    have z0:=y0 _ hd
    have z1:=y1 _ hd
    have HOD:=hid (HO.out.gr hd)
    have HGD:=hid (Gr.tr HG1.out hd)
    clear y0 y1 hbb hd HO
    generalize wb.drewN nq=wd at *
    go_wp2_with (at_builtin;refine wpList_app1 (W0:=w) (W:=wd) (n:=0) (xs:=[]) (news:=[.int .i64 ff,.int .i64 ft]) elemSpanT rfl _ _ rfl rfl rfl HGD.out HOD.out rfl (one_span _ _) (by omega) (by omega) ?_;intro v' w4 hown4 hg4;have HO4:=hid hown4;clear hown4)
    exact ⟨⟨j+1,by omega,by go_num,hg4,by rw [HFJ.out];exact HO4.out⟩,by simp [intOf];omega⟩
   ·have e:O.length=T.length+1:=by rw [hOe,List.length_append,List.length_singleton]
    obtain ⟨gf,gt⟩:=g
    have h0:=HO.out
    rw [e] at h0 ⊢
    rw [hOe] at h0 HFJ
    have hT:T.length < 1000:=by omega
    clear HO e hOe hOl
    obtain ⟨bo,rfl⟩:=own_at1 h0 (Nat.succ_pos _)
    have l1:=spansV_lastat T (gf,gt)
    have q1:∀x,Gr wb x→x.cell? ⟨bo,T.length*2+1,none⟩=some (.int .i64 gt):=fun x h=>(own_cell (h0.gr h) l1).1
    have hcap:T.length+1≤c8:=own_cap h0
    have e1:IntKind.i64.wrap ((T.length:Int)+1-1)=T.length:=by rw [show (T.length:Int)+1-1=T.length from by omega];exact IntWalk.i64_in _ (by omega)
    have e2:IntKind.i64.wrap (T.length:Int)=T.length:=IntWalk.i64_in _ (by omega)
    have hi1:(0:Int)≤(T.length:Int):=by omega
    have hi3:decide ((T.length:Int) < 0)=false:=by simp
    have hi2:(T.length:Int) < (T.length:Int)+1:=by omega
    have HO0:=hid h0
    clear h0
    have hne:bo≠gb:=Nat.ne_of_lt (HBN.out bo rfl)
    clear HBN
    go_upto_region 6 with fail
    by_cases hmet:ff≤gt
    ·rw [gatherStep_met T _ _ hmet] at HFJ
     go_quiet (fail)
     have hd:=Gr.drN (Gr.refl wb) nq
     have h1:=HO0.out.gr hd
     obtain ⟨z1,f1⟩:=own_cell h1 l1
     have x1:=y1 _ hd
     have HO1:=hid h1
     have HGD:=hid (Gr.tr HG1.out hd)
     clear hd h1 y0 y1 hbb q1
     generalize wb.drewN nq=wd at *
     go_upto_region 7 with fail
     go_region
     refine at_world (P:=Exit.then _ _ _ _) (w0:=(wd.setCell ⟨bo,T.length*2+1,none⟩ (.int .i64 (max gt ft))).drew) ?_
     intro w15 hw15
     have HOZ:=hid (show Own w w15 48 2 (.slice (some ⟨bo,0,none⟩) (T.length+1) c8) (T.length+1) (spansV (T++[(gf,max gt ft)])) from by
      rw [hw15,←spansV_set T (gf,gt)]
      exact (own_put HO1.out (T.length*2+1) (.int .i64 (max gt ft))).dr)
     have HGZ:=hid (show Gr w w15 from by rw [hw15];exact (HGD.out.st (p:=⟨bo,T.length*2+1,none⟩) (World.ownsRow.lt HO1.out bo rfl).1 _).dr)
     clear hw15 z1 f1 x1
     go_wp2_with fail
     exact ⟨⟨j+1,by omega,by go_num,HGZ.out,by rw [HFJ.out,List.length_append,List.length_singleton];exact HOZ.out⟩,by simp [intOf];omega⟩
    ·rw [gatherStep_apart T _ _ hmet] at HFJ
     go_quiet (fail)
     have hd:=Gr.drN (Gr.refl wb) nq
     have z0:=y0 _ hd
     have z1:=y1 _ hd
     have HOD:=hid (HO0.out.gr hd)
     have HGD:=hid (Gr.tr HG1.out hd)
     clear y0 y1 hbb hd HO0 q1
     generalize wb.drewN nq=wd at *
     go_wp2_with (at_builtin;refine wpList_app1 (W0:=w) (W:=wd) (n:=T.length+1) (xs:=spansV (T++[(gf,gt)])) (news:=[.int .i64 ff,.int .i64 ft]) elemSpanT rfl _ _ rfl rfl rfl HGD.out HOD.out rfl (one_span _ _) (by omega) (by omega) ?_;intro v' w4 hown4 hg4;have HO4:=hid hown4;clear hown4)
     exact ⟨⟨j+1,by omega,by go_num,hg4,by rw [HFJ.out,List.length_append,List.length_append,List.length_singleton,List.length_singleton,spansV_app];exact HO4.out⟩,by simp [intOf];omega⟩
  ·have he:l.take j=l:=List.take_of_length_le (by omega)
   rw [he,←HX.out] at hO
   obtain ⟨A8,c8,rfl⟩:=hO.form
   have HO:=hid hO
   clear he hOl hO HX HSN HLN
   go_wp2_with fail
   go_ret
   exact ⟨A8,c8,rfl,HO.out,hG⟩
def goodS (x:SpT):Bool:=spanB x.1 x.2&&decide (x.1 < x.2)
def setL (l:List SpT):List SpT:=gatherL (sortS (l.filter goodS))
theorem filt_snoc (l:List SpT) (k:Nat) (h:k < l.length):(l.take (k+1)).filter goodS=(l.take k).filter goodS++(if goodS l[k] then [l[k]] else []):=by
 rw [take_snoc l k h,List.filter_append]
 congr 1
 cases hg:goodS l[k] <;> simp [hg]
def SetEnd (l:List SpT) (w:World) (e:Ending) (w':World):Prop:=∃A c,e=.returned (.agg #[.slice A l.length c])∧Own w w' 48 2 (.slice A l.length c) l.length (spansV l)∧Gr w w'
set_option maxHeartbeats 16000000 in
set_option maxRecDepth 100000 in
theorem rangesOf_any (u:Value) (l:List SpT) (w:World) (hu:Spans w u l) (hl:l.length≤12):Calls Tryz.prog 11 #[u] w (SetEnd (setL l) w):=by
 obtain ⟨A,c,rfl,hc,hm,hA⟩:=hu.open
 have HA:=hid hA
 have HSN:=hid (filt_snoc l)
 have HFL:=hid (fun (j:Nat)=>show ((l.take j).filter goodS).length≤l.length from by
  have:=List.length_filter_le goodS (l.take j)
  rw [List.length_take] at this
  omega)
 have HX:=hid (show setL l=gatherL (sortS (l.filter goodS)) from rfl)
 have HGB:=hid (fun (a b:Int)=>show goodS (a,b)=(spanB a b&&decide (a < b)) from rfl)
 generalize setL l=SL at *
 clear hA hu
 have hb0:=Bk.new w 45 #[.slice none 0 0] (0,0)
 have hG0:=Gr.al (Gr.refl w) (Obj.cells #[.slice none 0 0] 45)
 go_enter Tryz.func11,Tryz.ntmps11
 go_upto_region 1 with fail
 generalize w.alloc (Obj.cells #[.slice none 0 0] 45)=w0 at *
 generalize hgq:w.heap.size=g at *
 have HB0:=hid hb0;have HG0:=hid hG0
 have HLO:=hid (show w.heap.size≤g from Nat.le_of_eq hgq)
 have HLT:=hid (show w.heap.size≤w0.heap.size from hG0.size)
 clear hb0 hG0 hgq
 go_wp2_with fail
 go_loopw [3,5,8] (fun out x5 i wr=>∃k:Nat,k≤l.length∧i=.int .i64 k∧Gr w0 wr∧Own w0 wr 48 2 out ((l.take k).filter goodS).length (spansV ((l.take k).filter goodS))) (fun _ _ i _=>l.length-(intOf i).toNat)
 case atStart=>exact ⟨0,Nat.zero_le _,rfl,Gr.refl _,Own.nil _ _ _ _⟩
 case round=>
  obtain ⟨k,hk,rfl,hG,hO⟩:=hrel
  obtain ⟨A6,c6,rfl⟩:=hO.form
  have hfl:=HFL.out k
  have HO:=hid hO
  clear hO
  by_cases hlt:k < l.length
  ·obtain ⟨b1,o1,rfl,hb1,p0,p1⟩:=HA.out k hlt
   have p0:=Gr.cell (Gr.tr HG0.out hG) p0
   have p1:=Gr.cell (Gr.tr HG0.out hG) p1
   have HSK:=hid (HSN.out k hlt)
   generalize l[k]=f at *
   obtain ⟨ff,ft⟩:=f
   simp only at p0 p1
   rw [HGB.out] at HSK
   go_upto_region 5 with fail
   have hbp:=Bk.new wr 48 #[.int .i64 ff,.int .i64 ft] (0,0)
   have hGb:=Gr.al (Gr.refl wr) (Obj.cells #[.int .i64 ff,.int .i64 ft] 48)
   have hG:=Gr.tr hG hGb
   have HO:=hid (HO.out.gr hGb)
   generalize wr.alloc (Obj.cells #[.int .i64 ff,.int .i64 ft] 48)=wb at *
   generalize wr.heap.size=gb at *
   have y0:wb.cell? ⟨gb,0,none⟩=some (.int .i64 ff):=hbp.cell 0
   have y1:wb.cell? ⟨gb,1,none⟩=some (.int .i64 ft):=hbp.cell 1
   clear hbp hGb p0 p1
   have HS:=hid (fun (w:World)=>spanRight_any ff ft w)
   generalize spanB ff ft=sb at *
   cases sb with
   | false=>
     go_wp2_with (go_at_call 41;refine (HS.out _).mono ?_;rintro e w2 ⟨rfl,hG2⟩)
     exact ⟨⟨k+1,by omega,by go_num,Gr.tr hG hG2,by rw [HSK.out];simpa using HO.out.gr hG2⟩,by simp [intOf];omega⟩
   | true=>
     by_cases hft:ff < ft
     ·have dft:decide (ff < ft)=true:=decide_eq_true hft
      rw [dft] at HSK
      go_wp2_with (first
       | (go_at_call 41;refine (HS.out _).mono ?_;rintro e w2 ⟨rfl,hG2⟩;have y0:=hG2.cell y0;have y1:=hG2.cell y1;have HGD:=hid (Gr.tr hG hG2);have HOD:=hid (HO.out.gr hG2))
       | (at_builtin;refine wpList_app1 (W0:=w0) (W:=w2) (n:=((l.take k).filter goodS).length) (xs:=spansV ((l.take k).filter goodS)) (news:=[.int .i64 ff,.int .i64 ft]) elemSpanT rfl _ _ rfl rfl rfl HGD.out HOD.out rfl (one_span _ _) (by omega) (by omega) ?_;intro v' w4 hown4 hg4;have HO4:=hid hown4;clear hown4))
      exact ⟨⟨k+1,by omega,by go_num,hg4,by rw [HSK.out];simp only [Bool.and_self,if_true,List.length_append,List.length_singleton,spansV_app];exact HO4.out⟩,by simp [intOf];omega⟩
     ·have dft:decide (ff < ft)=false:=decide_eq_false hft
      rw [dft] at HSK
      go_wp2_with (go_at_call 41;refine (HS.out _).mono ?_;rintro e w2 ⟨rfl,hG2⟩;have y0:=hG2.cell y0;have y1:=hG2.cell y1)
      exact ⟨⟨k+1,by omega,by go_num,Gr.tr hG hG2,by rw [HSK.out];simpa using HO.out.gr hG2⟩,by simp [intOf];omega⟩
  ·have he:l.take k=l:=List.take_of_length_le (by omega)
   rw [he] at HO hfl ⊢
   clear he HFL HSN HGB
   generalize l.filter goodS=F at *
   have HSO:=hid (sortS_own w0 wr F _ hG HO.out (by omega))
   have hSl:(sortS F).length=F.length:=(sortS_perm F).length_eq
   clear HO
   go_upto_region 9 with (go_at_call 43;refine HSO.out.mono ?_;rintro e w2 ⟨rfl,hg2,hO2⟩)
   rw [←hSl] at hO2
   have HU:=hid (show Spans w2 (.slice A6 (sortS F).length c6) (sortS F) from hO2.sl (by decide))
   rw [hSl] at HU
   have hL:(sortS F).length≤1000:=by omega
   generalize sortS F=S at *
   have HGA:=hid (gather_any _ S w2 HU.out hL)
   rw [←HX.out] at HGA
   have HB2:=hid (HB0.out.gr hg2)
   have HG2:=hid (Gr.tr HG0.out hg2)
   clear hO2 HU HSO hSl hL HX hfl hG
   go_wp2_with (go_at_call 46;refine HGA.out.mono ?_;rintro e w3 ⟨A7,c7,rfl,hO3,hg3⟩;have z0:w3.cell? ⟨g,0,none⟩=some (.slice none 0 0):=(HB2.out.gr hg3).cell 0;have f0:w3.frozen? ⟨g,0,none⟩=false:=(HB2.out.gr hg3).free 0 (.inr (Nat.zero_le _));have HO3:=hid hO3;clear hO3)
   refine at_world (P:=bodyPost _ _ _ _ _) (w0:=w3.setCell ⟨g,0,none⟩ (.slice A7 SL.length c7)) ?_
   intro w4 hw4
   have hb4:Bk w4 g 45 #[.slice A7 SL.length c7] (0,0):=by rw [hw4];simpa using (HB2.out.gr hg3).set 0 (.slice A7 SL.length c7)
   have ho4:Own w2 w4 48 2 (.slice A7 SL.length c7) SL.length (spansV SL):=by rw [hw4];exact Own.set HO3.out (own_ne_ty HO3.out (HB2.out.gr hg3) (by decide)) _ _
   have hg4:Gr w w4:=by rw [hw4];exact (Gr.tr HG2.out hg3).st (p:=⟨g,0,none⟩) HLO.out _
   clear hw4 z0 f0
   have yz0:w4.cell? ⟨g,0,none⟩=some (.slice A7 SL.length c7):=hb4.cell 0
   refine bodyPost_ret (v:=.agg #[.slice A7 SL.length c7]) (by simp [results,Tryz.results11,go_sem,yz0]) rfl ?_
   exact ⟨A7,c7,rfl,own_base ho4 HG2.out.size,hg4⟩
end Go.Proofs.YtflepnkpihfidaaGreatDoor
namespace Go.Proofs.YtflepnkpihfidaaGreatDoor
open Lib (hid)
open Go.RowKit
theorem set_alive:setL [(2,4),(4,5)]=[(2,5)]:=by decide +kernel
theorem itoa_d (n:Nat) (h:n < 10):Lib.itoa (n:Int)=[UInt8.ofNat (48+n)]:=by
 unfold Lib.itoa
 rw [if_neg (by omega),Int.toNat_natCast,Lib.decDigits,dif_pos h]
set_option maxHeartbeats 2000000 in
set_option maxRecDepth 100000 in
theorem spanText25 (w:World) (hp:Pw w):Calls Tryz.prog 103 #[.agg #[.int .i64 2,.int .i64 5]] w fun e w'=>e=.returned (str [50,45,53])∧Gr w w':=by
 have H2:=hid (fun (x:World) (g:Gr w x)=>show Calls Tryz.prog 119 #[.int .i64 2,.int .i64 10] x (fun e w'=>e=.returned (str [50])∧Gr x w') from by
  have h:=fmtInt_any 2 x (hp.gr g) (by omega) (by omega)
  rw [show Lib.itoa 2=[50] from itoa_d 2 (by omega)] at h
  exact h)
 have H5:=hid (fun (x:World) (g:Gr w x)=>show Calls Tryz.prog 119 #[.int .i64 5,.int .i64 10] x (fun e w'=>e=.returned (str [53])∧Gr x w') from by
  have h:=fmtInt_any 5 x (hp.gr g) (by omega) (by omega)
  rw [show Lib.itoa 5=[53] from itoa_d 5 (by omega)] at h
  exact h)
 have HR:=hid (fun (x:World)=>show Calls Tryz.prog 41 #[.agg #[.int .i64 2,.int .i64 5]] x (fun e w'=>e=.returned (.bool true)∧Gr x w') from spanRight_any 2 5 x)
 have HO:=hid (fun (x:World)=>spanOpen_no 2 5 x (by decide))
 have hb:=Bk.new w 48 #[.int .i64 2,.int .i64 5] (0,0)
 have hG0:=Gr.al (Gr.refl w) (Obj.cells #[.int .i64 2,.int .i64 5] 48)
 clear hp
 go_enter Tryz.func103,Tryz.ntmps103
 go_upto_region 1 with fail
 generalize w.alloc (Obj.cells #[.int .i64 2,.int .i64 5] 48)=w0 at *
 generalize w.heap.size=g at *
 have HG0:=hid hG0
 obtain ⟨q0,q1⟩:=hb.cells2
 clear hb hG0
 go_upto_region 3 with (go_at_call 41;refine (HR.out _).mono ?_;rintro e w1 ⟨rfl,h1⟩;have q0:=h1.cell q0;have q1:=h1.cell q1;have HG1:=hid (Gr.tr HG0.out h1))
 go_upto_region 4 with (go_at_call 119;refine (H2.out _ HG1.out).mono ?_;rintro e w2 ⟨rfl,h2⟩;have q0:=h2.cell q0;have q1:=h2.cell q1;have HG2:=hid (Gr.tr HG1.out h2))
 go_upto_region 6 with (go_at_call 157;refine (HO.out _).mono ?_;rintro e w3 ⟨rfl,h3⟩;have q0:=h3.cell q0;have q1:=h3.cell q1;have HG3:=hid (Gr.tr HG2.out h3))
 go_wp2_with (go_at_call 119;refine (H5.out _ HG3.out).mono ?_;rintro e w4 ⟨rfl,h4⟩;have HG4:=hid (Gr.tr HG3.out h4))
 go_ret
 exact ⟨rfl,HG4.out⟩
set_option maxHeartbeats 4000000 in
set_option maxRecDepth 100000 in
theorem setText25 (v:Value) (w:World) (hu:Spans w v [(2,5)]) (hp:Pw w):Calls Tryz.prog 39 #[.agg #[v]] w fun e w'=>e=.returned (str [50,45,53])∧Gr w w':=by
 obtain ⟨A,c,rfl,hc,hm,hA⟩:=hu.open
 obtain ⟨b1,o1,rfl,hb1,p0,p1⟩:=hA 0 (by decide)
 have HT:=hid (fun (x:World) (g:Gr w x)=>spanText25 x (hp.gr g))
 have P0:=hid (show w.cell? ⟨b1,o1,none⟩=some (.int .i64 2) from p0)
 have P1:=hid (show w.cell? ⟨b1,o1+1,none⟩=some (.int .i64 5) from p1)
 have hb:=Bk.new w 45 #[.slice (some ⟨b1,o1,none⟩) 1 c] (0,0)
 have hG0:=Gr.al (Gr.refl w) (Obj.cells #[.slice (some ⟨b1,o1,none⟩) 1 c] 45)
 have hc1:1≤c:=hc
 clear hp hu hA p0 p1 hc hm
 show Calls Tryz.prog 39 #[.agg #[.slice (some ⟨b1,o1,none⟩) 1 c]] w _
 go_enter Tryz.func39,Tryz.ntmps39
 go_upto_region 1 with fail
 generalize w.alloc (Obj.cells #[.slice (some ⟨b1,o1,none⟩) 1 c] 45)=w0 at *
 generalize w.heap.size=g at *
 have HG0:=hid hG0
 have q0:w0.cell? ⟨g,0,none⟩=some (.slice (some ⟨b1,o1,none⟩) 1 c):=hb.cell 0
 have HB:=hid hb
 clear hb hG0
 go_upto_region 4 with fail
 have hB0:=hid (bld_new w0 w0 (Gr.refl _))
 have hgl:w0.heap.size≤w0.heap.size:=Nat.le_refl _
 have q0:(w0.alloc (.cells #[.pointer none,.slice none 0 0] 171)).cell? ⟨g,0,none⟩=some (.slice (some ⟨b1,o1,none⟩) 1 c):=Gr.cell (Gr.al (Gr.refl w0) _) q0
 generalize hwb:w0.alloc (.cells #[.pointer none,.slice none 0 0] 171)=wb at *
 generalize w0.heap.size=bb at *
 clear hwb
 go_wp2_with fail
 go_loopw [4,5,13] (fun x4 x5 i wr=>∃k:Nat,k≤1∧i=.int .i64 k∧Bld w0 wr bb (if k=0 then [] else [50,45,53])) (fun _ _ i _=>1-(intOf i).toNat)
 case atStart=>exact ⟨0,Nat.zero_le _,rfl,hB0.out⟩
 case round=>
  clear hB0
  obtain ⟨k,hk,rfl,hB⟩:=hrel
  have HB:=hid hB;clear hB
  have hG:=Gr.tr HG0.out HB.out.2.1
  by_cases hlt:k < 1
  ·obtain rfl:k=0:=by omega
   have p0:=Gr.cell hG P0.out
   have p1:=Gr.cell hG P1.out
   have HB:=hid (show Bld w0 wr bb [] from HB.out)
   have hgb:bb≠wr.heap.size:=by
    obtain ⟨_,_,_,_,_,hb,_⟩:=HB.out
    have:=hb.lt;omega
   go_upto_region 7 with fail
   have hbf:=Bk.new wr 48 #[.int .i64 2,.int .i64 5] (0,0)
   have hgf:=Gr.al (Gr.refl wr) (.cells #[.int .i64 2,.int .i64 5] 48)
   have HB:=hid (HB.out.gr hgf)
   have HGF:=hid (Gr.tr hG hgf)
   generalize wr.alloc (Obj.cells #[.int .i64 2,.int .i64 5] 48)=wf at *
   generalize wr.heap.size=gf at *
   obtain ⟨y0,y1⟩:=hbf.cells2
   clear hbf hgf hG p0 p1
   go_upto_region 10 with (first
    | (go_at_call 103;refine (HT.out _ HGF.out).mono ?_;rintro e w2 ⟨rfl,h2⟩;have HB2:=hid (HB.out.gr h2))
    | (go_at_call 102;refine (writeString_any w0 w2 bb [] [50,45,53] HB2.out (by simp)).mono ?_;rintro e w3 ⟨rfl,hB3⟩;have HB3:=hid hB3;clear hB3))
   go_wp2_with fail
   exact ⟨⟨1,by omega,rfl,by simpa using HB3.out.1⟩,by simp [intOf]⟩
  ·obtain rfl:k=1:=by omega
   have HB:=hid (show Bld w0 wr bb [50,45,53] from HB.out)
   go_wp2_with (go_at_call 104;refine (string_any w0 wr bb [50,45,53] HB.out).mono ?_;rintro e w4 ⟨rfl,h4⟩)
   go_ret
   exact ⟨rfl,Gr.tr HG0.out h4⟩
set_option maxHeartbeats 4000000 in
set_option maxRecDepth 100000 in
theorem topAlive_any (w:World) (hv:VarsW w):Calls Tryz.prog 8 #[] w fun e w'=>e=.returned (.bool true)∧Gr w w':=by
 have hs:=sl_lit w 48 [.int .i64 2,.int .i64 4,.int .i64 4,.int .i64 5] 2 (by decide)
 have hg0:=Gr.al (Gr.refl w) (Obj.cells [.int .i64 2,.int .i64 4,.int .i64 4,.int .i64 5].toArray 48)
 have HOF:=hid (rangesOf_any _ [(2,4),(4,5)] _ (show Spans _ _ [(2,4),(4,5)] from hs) (by decide))
 rw [set_alive] at HOF
 have HTX:=hid (fun (x:World) (v:Value) (g:Gr w x) (h:Spans x v [(2,5)])=>setText25 v x h (hv.pw.gr g))
 have HG0:=hid hg0
 clear hv hs hg0
 go_enter Tryz.func8,Tryz.ntmps8
 go_wp2_with (first
  | (go_at_call 11;refine HOF.out.mono ?_;rintro e w1 ⟨A,c,rfl,hO,h1⟩;have HU:=hid (show Spans w1 (.slice A 1 c) [(2,5)] from hO.sl (by decide));have HG1:=hid (Gr.tr HG0.out h1))
  | (go_at_call 39;refine (HTX.out _ _ HG1.out HU.out).mono ?_;rintro e w2 ⟨rfl,h2⟩))
 go_ret
 exact ⟨rfl,Gr.tr HG1.out h2⟩
end Go.Proofs.YtflepnkpihfidaaGreatDoor
namespace Go.Proofs.YtflepnkpihfidaaGreatDoor
open Lib (hid)
open Go.RowKit
theorem topR_ten {q:ReqT} (h:topR q=true):q.2.2.1.length≤10∧reqC q=true∧q.2.2.2.mt.length≤1000000∧q.2.2.2.no.length≤1000000:=by
 unfold topR at h
 simp only [Bool.and_eq_true,decide_eq_true_eq] at h
 obtain ⟨⟨⟨⟨⟨⟨h1,h2⟩,h3⟩,h4⟩,h5⟩,h6⟩,h7⟩:=h
 refine ⟨h2,?_,by omega,by omega⟩
 unfold reqC
 rw [h5,h6,h7,decide_eq_true (show q.2.2.1.length≤64 by omega)]
 rfl
end Go.Proofs.YtflepnkpihfidaaGreatDoor
