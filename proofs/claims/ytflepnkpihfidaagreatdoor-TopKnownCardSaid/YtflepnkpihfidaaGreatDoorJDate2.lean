/- Parts. No conditions but those that each theorem names. -/
import Derived.Test.YtflepnkpihfidaaGreatDoorJDate
set_option linter.unusedVariables false
set_option linter.unusedSimpArgs false
namespace Go.Proofs.YtflepnkpihfidaaGreatDoor
open Lib (hid)
open Go.RowKit
theorem powerD_any (n:Nat) (w:World) (h:n≤9):Calls Tryz.prog 250 #[.int .i64 n] w fun e w'=>e=.returned (.int .i64 (10 ^ n:Nat))∧w=w':=by
 go_enter Tryz.func250,Tryz.ntmps250
 go_wp2_with fail
 go_loop [3,5] (fun p i=>∃k:Nat,k≤n∧p=.int .i64 (10 ^ k:Nat)∧i=.int .i64 k) (fun _ i=>n-(intOf i).toNat)
 case atStart=>exact ⟨0,Nat.zero_le _,rfl,rfl⟩
 case round=>
  obtain ⟨k,hk,rfl,rfl⟩:=hrel
  have hp:10 ^ k≤1000000000:=Nat.le_trans (Nat.pow_le_pow_right (by omega) (show k≤9 by omega)) (by decide)
  by_cases hlt:k < n
  ·have HS:=hid (Nat.pow_succ 10 k)
   generalize 10 ^ k=P at *
   go_wp2_with fail
   go_round
   case rel=>exact ⟨k+1,by omega,by rw [HS.out];go_num,by go_num⟩
   case measure=>simp [intOf];omega
  ·have:k=n:=by omega
   subst this
   go_wp2_with fail
   go_ret
   exact ⟨rfl,rfl⟩
def topD (n m:Nat):Nat→List UInt8
 | 0=>[]
 | k+1=>topD n m k++[dig1 (n / 10 ^ (m-k-1))]
theorem topD_len (n m:Nat):∀k,(topD n m k).length=k
 | 0=>rfl
 | k+1=>by rw [topD,List.length_append,topD_len n m k];rfl
theorem topD_two (n:Nat):topD n 2 2=two n:=by simp [topD,two]
theorem topD_four (n:Nat):topD n 4 4=four n:=by simp [topD,four]
set_option maxHeartbeats 4000000 in
set_option maxRecDepth 100000 in
theorem digitsD_any (v:Value) (l:List UInt8) (n m:Nat) (W0 w:World) (hG:Gr W0 w) (hO:Own W0 w 5 1 v l.length (l.map byt)) (hn:n≤1000000) (hm1:1≤m) (hm2:m≤9) (hl:l.length≤1000) :
  Calls Tryz.prog 197 #[v,.int .i64 n,.int .i64 m] w fun e w'=>∃v',e=.returned v'∧Own W0 w' 5 1 v' (l++topD n m m).length ((l++topD n m m).map byt)∧Gr W0 w':=by
 obtain ⟨A0,c0,rfl⟩:=hO.form
 have HO0:=hid hO
 have HP:=hid (fun (w:World)=>powerD_any (m-1) w (by omega))
 have HU:=hid (show 10 ^ (m-1)=10 ^ (m-0) / 10 from by
  obtain ⟨q,rfl⟩:∃q,m=q+1:=⟨m-1,by omega⟩
  rw [Nat.sub_zero,Nat.pow_succ,Nat.mul_div_cancel _ (by omega)];rfl)
 rw [show ((m-1:Nat):Int)=(m:Int)-1 by omega,HU.out] at HP
 clear hO HU
 go_enter Tryz.func197,Tryz.ntmps197
 go_upto_region 2 with (go_at_call 250;refine (HP.out _).mono ?_;rintro e w1 ⟨rfl,rfl⟩)
 clear HP
 go_loopw [0,7] (fun v u wr=>∃k:Nat,k≤m∧u=.int .i64 (10 ^ (m-k) / 10:Nat)∧Gr W0 wr∧Own W0 wr 5 1 v (l++topD n m k).length ((l++topD n m k).map byt)) (fun _ u _=>(intOf u).toNat)
 case atStart=>exact ⟨0,Nat.zero_le _,rfl,hG,by simpa [topD] using HO0.out⟩
 case round=>
  clear hG HO0
  obtain ⟨k,hk,rfl,hG,hO⟩:=hrel
  obtain ⟨A,c,rfl⟩:=hO.form
  have HO:=hid hO
  clear hO
  by_cases hlt:k < m
  ·have hU:10 ^ (m-k) / 10=10 ^ (m-k-1):=by
    obtain ⟨q,hq⟩:∃q,m-k=q+1:=⟨m-k-1,by omega⟩
    rw [hq,Nat.pow_succ,Nat.mul_div_cancel _ (by omega)];rfl
   have hN:10 ^ (m-(k+1)) / 10=10 ^ (m-k) / 10 / 10:=by rw [hU,show m-(k+1)=m-k-1 by omega]
   have HT:=hid (show l++topD n m (k+1)=(l++topD n m k)++[dig1 (n / (10 ^ (m-k) / 10))] from by rw [topD,hU,List.append_assoc])
   have hp:0 < 10 ^ (m-k) / 10:=by rw [hU];exact Nat.pow_pos (by omega)
   have hp2:10 ^ (m-k) / 10≤1000000000:=by rw [hU];exact Nat.le_trans (Nat.pow_le_pow_right (by omega) (show m-k-1≤9 by omega)) (by decide)
   have HN:=hid hN
   have htl:=topD_len n m k
   clear hU hN
   generalize 10 ^ (m-k) / 10=U at *
   have hq:(n:Int) / (U:Int)=((n / U:Nat):Int):=(Int.natCast_ediv n U).symm
   have hqd:48+((n / U:Nat):Int) % 10=((dig1 (n / U)).toNat:Int):=by rw [dig1_val];omega
   have hqb:n / U≤1000000:=Nat.le_trans (Nat.div_le_self _ _) hn
   have hcb:(dig1 (n / U)).toNat≤255:=by have:=(dig1 (n / U)).toNat_lt;omega
   generalize n / U=Q at *
   generalize dig1 Q=ch at *
   have hll:(l++topD n m k).length≤2000:=by rw [List.length_append,htl];omega
   clear htl
   generalize l++topD n m k=L at *
   have hd1:decide (0 < U)=true:=decide_eq_true hp
   go_wp2_with (at_builtin;refine wpList_app1 (news:=[byt ch]) elemByte rfl _ _ rfl rfl rfl hG HO.out rfl (one_byt [ch]) (by omega) (by omega) ?_;intro v' w' hown' hG')
   refine ⟨⟨k+1,by omega,by rw [HN.out];go_num,hG',?_⟩,by simp [intOf];omega⟩
   rw [HT.out,List.length_append,List.map_append]
   exact hown'
  ·have:k=m:=by omega
   subst this
   have h0:10 ^ (k-k) / 10=0:=by rw [Nat.sub_self]
   rw [h0]
   go_wp2_with fail
   go_ret
   exact ⟨_,rfl,HO.out,hG⟩
theorem digits2 (v:Value) (l:List UInt8) (n:Nat) (W0 w:World) (hG:Gr W0 w) (hO:Own W0 w 5 1 v l.length (l.map byt)) (hn:n≤1000000) (hl:l.length≤1000) :
  Calls Tryz.prog 197 #[v,.int .i64 n,.int .i64 2] w fun e w'=>∃v',e=.returned v'∧Own W0 w' 5 1 v' (l++two n).length ((l++two n).map byt)∧Gr W0 w':=by
 have h:=digitsD_any v l n 2 W0 w hG hO hn (by omega) (by omega) hl
 rw [topD_two] at h;exact h
theorem digits4 (v:Value) (l:List UInt8) (n:Nat) (W0 w:World) (hG:Gr W0 w) (hO:Own W0 w 5 1 v l.length (l.map byt)) (hn:n≤1000000) (hl:l.length≤1000) :
  Calls Tryz.prog 197 #[v,.int .i64 n,.int .i64 4] w fun e w'=>∃v',e=.returned v'∧Own W0 w' 5 1 v' (l++four n).length ((l++four n).map byt)∧Gr W0 w':=by
 have h:=digitsD_any v l n 4 W0 w hG hO hn (by omega) (by omega) hl
 rw [topD_four] at h;exact h
set_option maxHeartbeats 8000000 in
set_option maxRecDepth 100000 in
theorem textD_in (t:Nat) (w:World) (ht:t≤253402300799):Calls Tryz.prog 122 #[.int .i64 t] w fun e w'=>e=.returned (.tuple #[str (dateT t),.int .i64 0])∧Gr w w':=by
 have HO:=hid (fun (w:World)=>ofD_any t w ht)
 have HD:=hid (dateT_eq t)
 have d1:decide ((t:Int) < 0)=false:=decide_eq_false (by omega)
 have d2:decide (253402300799 < (t:Int))=false:=decide_eq_false (by omega)
 have hday:=day_is (t / 86400)
 have hY:=day_year hday (by omega)
 have hM1:=hday.m1;have hM2:=hday.m12;have hD:=hday.dl;have hDl:=longN_hi (yrN (t / 86400)) (mnN (t / 86400))
 have hW:(t / 86400+4) % 7 < 7:=Nat.mod_lt _ (by omega)
 have hs:t % 86400 < 86400:=Nat.mod_lt _ (by omega)
 have hD2:dyN (t / 86400)≤31:=by omega
 clear hday hD hDl
 generalize (t / 86400+4) % 7=W at *
 generalize yrN (t / 86400)=Y at *
 generalize mnN (t / 86400)=M at *
 generalize dyN (t / 86400)=D at *
 generalize t % 86400=s at *
 have HAE:=hid (show dateT t=((((((((((((wkN W++[44,32])++two D)++[32])++moN M)++[32])++four Y)++[32])++two (s / 3600))++[58])++two (s / 60 % 60))++[58])++two (s % 60))++[32,71,77,84] from HD.out)
 have HWK:=hid (show (weekN.drop (3*W)).take 3=wkN W from rfl)
 have HMO:=hid (show (yearN.drop (3*M-3)).take 3=moN M from rfl)
 obtain ⟨wa,wb,wc,hwk⟩:=wk_form W hW
 obtain ⟨ma,mb,mc,hmo⟩:=mo_form M hM1 hM2
 have hwl:(wkN W).length=3:=by rw [hwk];rfl
 have hml:(moN M).length=3:=by rw [hmo];rfl
 clear hwk hmo
 go_enter Tryz.func122,Tryz.ntmps122
 go_upto_region 4 with (go_at_call 196;refine (HO.out _).mono ?_;rintro e w1 ⟨rfl,hG1⟩)
 obtain ⟨hGb,c0,c1,c2,c3⟩:=box4 w1 (.int .i64 Y) (.int .i64 M) (.int .i64 D) (.int .i64 W) 229
 have hG2:=Gr.tr hG1 hGb
 generalize w1.alloc (Obj.cells #[.int .i64 (Y:Int),.int .i64 (M:Int),.int .i64 (D:Int),.int .i64 (W:Int)] 229)=w2 at *
 generalize w1.heap.size=g at *
 clear hG1 hGb d1 d2 HO HD
 have HW1:=hid hwl
 have HM1:=hid hml
 clear hwl hml
 go_upto_region 5 with (refine wpList_mk0 (W0:=w2) 29 elemByte rfl _ _ rfl rfl rfl rfl (by decide) (by decide) (Nat.le_refl _) ?_;intro w3 hown3 hG3)
 have HO3:=hid hown3
 have d0:=c0;have d1:=c1;have d2:=c2;have d3:=c3
 have d0:=c0;have d1:=c1;have d2:=c2;have d3:=c3
 have c0:=hG3.cell c0;have c1:=hG3.cell c1;have c2:=hG3.cell c2;have c3:=hG3.cell c3
 clear hown3
 have hsub:3*W+3-3*W=3:=by omega
 have hsub2:3*M-(3*M-3)=3:=by omega
 have hwl:(wkN W).length≤3:=Nat.le_of_eq HW1.out
 have hml:(moN M).length≤3:=Nat.le_of_eq HM1.out
 go_upto_region 6 with (at_builtin;refine wpList_appT (W0:=w2) rfl _ _ rfl rfl rfl hG3.size HO3.out ?_ ?_;simp;omega;intro v4 w4 hown4 hgr4)
 have hG4:=gr_append hG3 HO3.out hgr4
 have hs4:List.take 3 (List.drop (3*W) [83,117,110,77,111,110,84,117,101,87,101,100,84,104,117,70,114,105,83,97,116])=wkN W:=rfl
 rw [hsub,hs4,Nat.zero_add,List.nil_append] at hown4
 obtain ⟨L4,hL4⟩:∃L,L=wkN W:=⟨_,rfl⟩
 rw [←hL4] at HAE hown4
 have hl4:L4.length≤3:=by rw [hL4];exact hwl
 have HO4:=hid hown4
 obtain ⟨A4,k4,rfl⟩:=hown4.form
 clear hL4 hown4 hgr4 hs4 hwl hsub
 have c0:=hG4.cell d0
 have c1:=hG4.cell d1
 have c2:=hG4.cell d2
 have c3:=hG4.cell d3
 have hG4a:=Gr.al hG4 (Obj.cells #[byt 44,byt 32] 5)
 have HO4a:=hid (HO4.out.al (Obj.cells #[byt 44,byt 32] 5))
 have HS4:=hid (sl_lit w4 5 [byt 44,byt 32] 2 (by decide))
 go_upto_region 7 with (at_builtin;refine wpList_appS (W0:=w2) (m:=2) (news:=[byt 44,byt 32]) elemByte rfl _ _ rfl rfl rfl hG4a.size HO4a.out HS4.out rfl (one_byt [44,32]) (by omega) (by decide) ?_;intro v5 w5 hown5 happ5)
 have hG5:=happ5.gr hG4a HO4a.out
 have hown5:Own w2 w5 5 1 v5 (L4++[44,32]).length ((L4++[44,32]).map byt):=by rw [List.length_append,List.map_append];exact hown5
 obtain ⟨L5,hL5⟩:∃L,L=L4++[44,32]:=⟨_,rfl⟩
 rw [←hL5] at HAE hown5
 have hl5:L5.length≤5:=by rw [hL5];simp;omega
 have HO5:=hid hown5
 obtain ⟨A5,k5,rfl⟩:=hown5.form
 clear hL5 hown5
 clear hG4 hG4a HO4 HO4a HS4 happ5 HO3
 have c0:=hG5.cell d0
 have c1:=hG5.cell d1
 have c2:=hG5.cell d2
 have c3:=hG5.cell d3
 have HT6:=hid (fun (v:Value) (w:World) (h1:Gr w2 w) (h2:Own w2 w 5 1 v L5.length (L5.map byt))=>digits2 v L5 (D) w2 w h1 h2 (by omega) (by omega))
 obtain ⟨L6,hL6⟩:∃L,L=L5++two (D):=⟨_,rfl⟩
 rw [←hL6] at HAE HT6
 have hl6:L6.length≤7:=by rw [hL6];simp [two];omega
 clear hL6
 go_upto_region 8 with (first
  | (go_at_call 197;refine (HT6.out _ _ hG5 HO5.out).mono ?_;rintro e w6 ⟨v6,rfl,hown6,hG6⟩;have HO6:=hid hown6;obtain ⟨A6,k6,rfl⟩:=hown6.form;clear hown6)
  | (at_builtin;refine wpList_app1 (news:=[byt 32]) elemByte rfl _ _ rfl rfl rfl hG6 HO6.out rfl (one_byt [32]) (by omega) (by omega) ?_;intro v7 w7 hown7 hG7))
 have hown7:Own w2 w7 5 1 v7 (L6++[32]).length ((L6++[32]).map byt):=by rw [List.length_append,List.map_append];exact hown7
 obtain ⟨L7,hL7⟩:∃L,L=L6++[32]:=⟨_,rfl⟩
 rw [←hL7] at HAE hown7
 have hl7:L7.length≤8:=by rw [hL7];simp;omega
 have HO7:=hid hown7
 obtain ⟨A7,k7,rfl⟩:=hown7.form
 clear hL7 hown7
 clear HT6 HO6 HO5 hG6 hG5
 have c0:=hG7.cell d0
 have c1:=hG7.cell d1
 have c2:=hG7.cell d2
 have c3:=hG7.cell d3
 have hs8:List.take 3 (List.drop (3*M-3) [74,97,110,70,101,98,77,97,114,65,112,114,77,97,121,74,117,110,74,117,108,65,117,103,83,101,112,79,99,116,78,111,118,68,101,99])=moN M:=rfl
 have HS8:=hid hs8
 clear hs8
 go_upto_region 9 with (at_builtin;refine wpList_appT (W0:=w2) rfl _ _ rfl rfl rfl hG7.size HO7.out ?_ ?_;simp;omega;intro v8 w8 hown8 hgr8)
 have hG8:=gr_append hG7 HO7.out hgr8
 rw [hsub2,HS8.out,←List.map_append,←List.length_append] at hown8
 obtain ⟨L8,hL8⟩:∃L,L=L7++moN M:=⟨_,rfl⟩
 rw [←hL8] at HAE hown8
 have hl8:L8.length≤11:=by rw [hL8];simp;omega
 have HO8:=hid hown8
 obtain ⟨A8,k8,rfl⟩:=hown8.form
 clear hL8 hown8
 clear HS8 hgr8 hml HO7 hG7 hsub2
 go_upto_region 10 with (at_builtin;refine wpList_app1 (news:=[byt 32]) elemByte rfl _ _ rfl rfl rfl hG8 HO8.out rfl (one_byt [32]) (by omega) (by omega) ?_;intro v9 w9 hown9 hG9)
 have hown9:Own w2 w9 5 1 v9 (L8++[32]).length ((L8++[32]).map byt):=by rw [List.length_append,List.map_append];exact hown9
 obtain ⟨L9,hL9⟩:∃L,L=L8++[32]:=⟨_,rfl⟩
 rw [←hL9] at HAE hown9
 have hl9:L9.length≤12:=by rw [hL9];simp;omega
 have HO9:=hid hown9
 obtain ⟨A9,k9,rfl⟩:=hown9.form
 clear hL9 hown9
 clear hG8 HO8
 have c0:=hG9.cell d0
 have c1:=hG9.cell d1
 have c2:=hG9.cell d2
 have c3:=hG9.cell d3
 have HT10:=hid (fun (v:Value) (w:World) (h1:Gr w2 w) (h2:Own w2 w 5 1 v L9.length (L9.map byt))=>digits4 v L9 (Y) w2 w h1 h2 (by omega) (by omega))
 obtain ⟨L10,hL10⟩:∃L,L=L9++four (Y):=⟨_,rfl⟩
 rw [←hL10] at HAE HT10
 have hl10:L10.length≤16:=by rw [hL10];simp [four];omega
 clear hL10
 go_upto_region 11 with (first
  | (go_at_call 197;refine (HT10.out _ _ hG9 HO9.out).mono ?_;rintro e w10 ⟨v10,rfl,hown10,hG10⟩;have HO10:=hid hown10;obtain ⟨A10,k10,rfl⟩:=hown10.form;clear hown10)
  | (at_builtin;refine wpList_app1 (news:=[byt 32]) elemByte rfl _ _ rfl rfl rfl hG10 HO10.out rfl (one_byt [32]) (by omega) (by omega) ?_;intro v11 w11 hown11 hG11))
 have hown11:Own w2 w11 5 1 v11 (L10++[32]).length ((L10++[32]).map byt):=by rw [List.length_append,List.map_append];exact hown11
 obtain ⟨L11,hL11⟩:∃L,L=L10++[32]:=⟨_,rfl⟩
 rw [←hL11] at HAE hown11
 have hl11:L11.length≤17:=by rw [hL11];simp;omega
 have HO11:=hid hown11
 obtain ⟨A11,k11,rfl⟩:=hown11.form
 clear hL11 hown11
 clear HT10 HO10 HO9 hG10 hG9
 have HT12:=hid (fun (v:Value) (w:World) (h1:Gr w2 w) (h2:Own w2 w 5 1 v L11.length (L11.map byt))=>digits2 v L11 (s / 3600) w2 w h1 h2 (by omega) (by omega))
 rw [show ((s / 3600:Nat):Int)=(s:Int) / 3600 from by omega] at HT12
 obtain ⟨L12,hL12⟩:∃L,L=L11++two (s / 3600):=⟨_,rfl⟩
 rw [←hL12] at HAE HT12
 have hl12:L12.length≤19:=by rw [hL12];simp [two];omega
 clear hL12
 go_upto_region 12 with (first
  | (go_at_call 197;refine (HT12.out _ _ hG11 HO11.out).mono ?_;rintro e w12 ⟨v12,rfl,hown12,hG12⟩;have HO12:=hid hown12;obtain ⟨A12,k12,rfl⟩:=hown12.form;clear hown12)
  | (at_builtin;refine wpList_app1 (news:=[byt 58]) elemByte rfl _ _ rfl rfl rfl hG12 HO12.out rfl (one_byt [58]) (by omega) (by omega) ?_;intro v13 w13 hown13 hG13))
 have hown13:Own w2 w13 5 1 v13 (L12++[58]).length ((L12++[58]).map byt):=by rw [List.length_append,List.map_append];exact hown13
 obtain ⟨L13,hL13⟩:∃L,L=L12++[58]:=⟨_,rfl⟩
 rw [←hL13] at HAE hown13
 have hl13:L13.length≤20:=by rw [hL13];simp;omega
 have HO13:=hid hown13
 obtain ⟨A13,k13,rfl⟩:=hown13.form
 clear hL13 hown13
 clear HT12 HO12 HO11 hG12 hG11
 have HT14:=hid (fun (v:Value) (w:World) (h1:Gr w2 w) (h2:Own w2 w 5 1 v L13.length (L13.map byt))=>digits2 v L13 (s / 60 % 60) w2 w h1 h2 (by omega) (by omega))
 rw [show ((s / 60 % 60:Nat):Int)=(s:Int) / 60 % 60 from by omega] at HT14
 obtain ⟨L14,hL14⟩:∃L,L=L13++two (s / 60 % 60):=⟨_,rfl⟩
 rw [←hL14] at HAE HT14
 have hl14:L14.length≤22:=by rw [hL14];simp [two];omega
 clear hL14
 go_upto_region 13 with (first
  | (go_at_call 197;refine (HT14.out _ _ hG13 HO13.out).mono ?_;rintro e w14 ⟨v14,rfl,hown14,hG14⟩;have HO14:=hid hown14;obtain ⟨A14,k14,rfl⟩:=hown14.form;clear hown14)
  | (at_builtin;refine wpList_app1 (news:=[byt 58]) elemByte rfl _ _ rfl rfl rfl hG14 HO14.out rfl (one_byt [58]) (by omega) (by omega) ?_;intro v15 w15 hown15 hG15))
 have hown15:Own w2 w15 5 1 v15 (L14++[58]).length ((L14++[58]).map byt):=by rw [List.length_append,List.map_append];exact hown15
 obtain ⟨L15,hL15⟩:∃L,L=L14++[58]:=⟨_,rfl⟩
 rw [←hL15] at HAE hown15
 have hl15:L15.length≤23:=by rw [hL15];simp;omega
 have HO15:=hid hown15
 obtain ⟨A15,k15,rfl⟩:=hown15.form
 clear hL15 hown15
 clear HT14 HO14 HO13 hG14 hG13
 have HT16:=hid (fun (v:Value) (w:World) (h1:Gr w2 w) (h2:Own w2 w 5 1 v L15.length (L15.map byt))=>digits2 v L15 (s % 60) w2 w h1 h2 (by omega) (by omega))
 rw [show ((s % 60:Nat):Int)=(s:Int) % 60 from by omega] at HT16
 obtain ⟨L16,hL16⟩:∃L,L=L15++two (s % 60):=⟨_,rfl⟩
 rw [←hL16] at HAE HT16
 have hl16:L16.length≤25:=by rw [hL16];simp [two];omega
 clear hL16
 go_upto_region 14 with (first
  | (go_at_call 197;refine (HT16.out _ _ hG15 HO15.out).mono ?_;rintro e w16 ⟨v16,rfl,hown16,hG16⟩;have HO16:=hid hown16;obtain ⟨A16,k16,rfl⟩:=hown16.form;clear hown16)
  | (at_builtin;refine wpList_appT (W0:=w2) (s:=[32,71,77,84]) rfl _ _ rfl rfl rfl hG16.size HO16.out ?_ ?_;simp;omega;intro v17 w17 hown17 hgr17))
 have hG17:=gr_append hG16 HO16.out hgr17
 rw [←List.map_append,←List.length_append,←HAE.out] at hown17
 have HB17:=hid (own_byts hown17)
 obtain ⟨A17,k17,rfl⟩:=hown17.form
 go_wp2_with (refine wpList_toStr _ rfl rfl rfl HB17.out ?_)
 go_ret2
 exact ⟨rfl,Gr.tr hG2 hG17⟩
theorem textD_out (t:Int) (w:World) (ht:¬(0≤t∧t≤253402300799)):Calls Tryz.prog 122 #[.int .i64 t] w fun e w'=>e=.returned (.tuple #[str [],.int .i64 1])∧Gr w w':=by
 rcases (show t < 0∨(0≤t∧253402300799 < t) by omega) with h | ⟨h,h2⟩
 ·have d1:decide (t < 0)=true:=decide_eq_true h
  clear ht
  go_enter Tryz.func122,Tryz.ntmps122
  go_wp2_with fail
  go_ret2
  exact ⟨rfl,Gr.refl _⟩
 ·have d1:decide (t < 0)=false:=decide_eq_false (by omega)
  have d2:decide (253402300799 < t)=true:=decide_eq_true h2
  clear ht
  go_enter Tryz.func122,Tryz.ntmps122
  go_wp2_with fail
  go_ret2
  exact ⟨rfl,Gr.refl _⟩
end Go.Proofs.YtflepnkpihfidaaGreatDoor
namespace Go.Proofs.YtflepnkpihfidaaGreatDoor
open Lib (hid)
open Go.RowKit
def prsV:Option Nat→Value
 | some t=>.tuple #[.int .i64 t,.int .i64 0]
 | none=>.tuple #[.int .i64 0,.int .i64 2]
theorem numI_bd0:∀(l:List UInt8) (k:Nat),k≤l.length→-(23*10 ^ k-23:Int)≤numI (l.take k)∧numI (l.take k)≤23*10 ^ k-23
 | l,0,_=>by simp [numI]
 | l,k+1,h=>by
   have ih:=numI_bd0 l k (by omega)
   rw [take_snoc l k (by omega),numI_snoc]
   have hc := (l[k]'(by omega)).toNat_lt
   have hp:(10:Int) ^ (k+1)=10 ^ k*10:=Int.pow_succ 10 k
   generalize (10:Int) ^ k=P at *
   omega
theorem numI_bd (l:List UInt8) (h:l.length≤4):-1000000≤numI l∧numI l≤1000000:=by
 have h1:=numI_bd0 l l.length (Nat.le_refl _)
 rw [List.take_length] at h1
 have h2:(10:Int) ^ l.length≤10000:=by
  rcases (show l.length=0∨l.length=1∨l.length=2∨l.length=3∨l.length=4 by omega) with h | h | h | h | h <;> rw [h] <;> decide
 omega
theorem numI_bd2 (l:List UInt8) (h:l.length≤2):-3000≤numI l∧numI l≤3000:=by
 have h1:=numI_bd0 l l.length (Nat.le_refl _)
 rw [List.take_length] at h1
 have h2:(10:Int) ^ l.length≤100:=by
  rcases (show l.length=0∨l.length=1∨l.length=2 by omega) with h | h | h <;> rw [h] <;> decide
 omega
set_option maxHeartbeats 1000000 in
theorem numberD_any (s:List UInt8) (w:World) (hs:s.length≤4):Calls Tryz.prog 153 #[str s] w fun e w'=>e=.returned (.int .i64 (numI s))∧w=w':=by
 go_enter Tryz.func153,Tryz.ntmps153
 go_wp2_with fail
 go_loop [3,4,7] (fun n _ i=>∃k:Nat,k≤s.length∧n=.int .i64 (numI (s.take k))∧i=.int .i64 k) (fun _ _ i=>s.length-(intOf i).toNat)
 case atStart=>exact ⟨0,Nat.zero_le _,rfl,rfl⟩
 case round=>
  obtain ⟨k,hk,rfl,rfl⟩:=hrel
  have hb:=numI_bd (s.take k) (by rw [List.length_take];omega)
  by_cases hlt:k < s.length
  ·have HS:=hid (show numI (s.take (k+1))=numI (s.take k)*10+(s[k].toNat:Int)-48 from by rw [take_snoc s k hlt,numI_snoc])
   have hx:s[k].toNat≤255:=by have:=s[k].toNat_lt;omega
   generalize numI (s.take k)=n at *
   go_wp2_with fail
   go_round
   case rel=>exact ⟨k+1,by omega,by rw [HS.out],by go_num⟩
   case measure=>simp [intOf];omega
  ·have HE:=hid (show s.take k=s from List.take_of_length_le (by omega))
   go_wp2_with fail
   go_ret
   exact ⟨ret_int (by rw [HE.out]),rfl⟩
set_option maxHeartbeats 8000000 in
set_option maxRecDepth 100000 in
theorem parseD_any (s:List UInt8) (w:World) (_hs:s.length≤9223372036854775800):Calls Tryz.prog 78 #[str s] w fun e w'=>e=.returned (prsV (dateP s))∧Gr w w':=by
 by_cases hl:s.length=29
 ·have k1:((s.length:Int) != 29)=false:=by rw [hl];rfl
  have HP:=hid (show dateP s=readP s numI from rfl)
  have HRP:=hid (show readP s numI=(tickN (numI ((s.drop 12).take 4)) (monIx ((s.drop 8).take 3) 12) (numI ((s.drop 5).take 2)) (numI ((s.drop 17).take 2)*3600+numI ((s.drop 20).take 2)*60+numI ((s.drop 23).take 2))).bind fun t=>if dateT t=s then some t else none from by unfold readP;rw [if_pos hl])
  have hl29:29≤s.length:=Nat.le_of_eq hl.symm
  have HL:=hid hl
  clear hl
  have HNU:=hid (fun (l:List UInt8) (h:l.length≤4) (w:World)=>of_same (numberD_any l w h))
  have b1:=numI_bd ((s.drop 12).take 4) (Nat.le_trans (List.length_take_le _ _) (by decide))
  have b2:=numI_bd2 ((s.drop 5).take 2) (Nat.le_trans (List.length_take_le _ _) (by decide))
  have b3:=numI_bd2 ((s.drop 17).take 2) (Nat.le_trans (List.length_take_le _ _) (by decide))
  have b4:=numI_bd2 ((s.drop 20).take 2) (Nat.le_trans (List.length_take_le _ _) (by decide))
  have b5:=numI_bd2 ((s.drop 23).take 2) (Nat.le_trans (List.length_take_le _ _) (by decide))
  have t1:((s.drop 12).take 4).length≤4:=Nat.le_trans (List.length_take_le _ _) (by decide)
  have t2:((s.drop 5).take 2).length≤4:=Nat.le_trans (List.length_take_le _ _) (by decide)
  have t3:((s.drop 17).take 2).length≤4:=Nat.le_trans (List.length_take_le _ _) (by decide)
  have t4:((s.drop 20).take 2).length≤4:=Nat.le_trans (List.length_take_le _ _) (by decide)
  have t5:((s.drop 23).take 2).length≤4:=Nat.le_trans (List.length_take_le _ _) (by decide)
  have H1:=hid (HNU.out _ t1);have H2:=hid (HNU.out _ t2);have H3:=hid (HNU.out _ t3);have H4:=hid (HNU.out _ t4);have H5:=hid (HNU.out _ t5)
  obtain ⟨N1,hN1⟩:∃N,N=numI ((s.drop 12).take 4):=⟨_,rfl⟩
  obtain ⟨N2,hN2⟩:∃N,N=numI ((s.drop 5).take 2):=⟨_,rfl⟩
  obtain ⟨N3,hN3⟩:∃N,N=numI ((s.drop 17).take 2):=⟨_,rfl⟩
  obtain ⟨N4,hN4⟩:∃N,N=numI ((s.drop 20).take 2):=⟨_,rfl⟩
  obtain ⟨N5,hN5⟩:∃N,N=numI ((s.drop 23).take 2):=⟨_,rfl⟩
  rw [←hN1] at H1 b1 HRP;rw [←hN2] at H2 b2 HRP;rw [←hN3] at H3 b3 HRP;rw [←hN4] at H4 b4 HRP;rw [←hN5] at H5 b5 HRP
  clear hN1 hN2 hN3 hN4 hN5 t1 t2 t3 t4 t5 HNU
  go_enter Tryz.func78,Tryz.ntmps78
  go_upto_region 3 with fail
  clear k1
  refine wp_region_mix [0,1,2,3,4,5,6] none 2 (by kernel_rfl) rfl (by kernel_rfl) (fun o _ _ _ _ h=>by cases o <;> exact h) ?_
  simp only [pickOps,List.filterMap_cons,List.filterMap_nil,List.getElem?_cons_zero,List.getElem?_cons_succ]
  repeat (first | (refine wpGq_step (fun K hK=>?_);go_simp;refine hK _ ?_;clear hK K) | (refine wpGq_step (fun K hK=>?_);go_simp;simp only [↓IntWalk.iteOmega];go_simp;refine hK _ ?_;clear hK K) | (refine wpGq_step (fun K hK=>?_);go_simp;apply Exists.intro;refine ⟨fun _=>?_,hK _ ?_⟩;(go_at_call 153;first | (with_reducible exact H1.out _) | (with_reducible exact H2.out _));clear hK K))
  refine wpGq_nil ?_
  refine wpG_one 7 (by kernel_rfl) rfl rfl (fun K hK wa hga=>?_)
  go_simp
  refine hK _ _ ?_ ?_
  ·exact (Gr.al hga _).by _
  clear hK K
  refine wpG_one 8 (by kernel_rfl) rfl rfl (fun K hK wb hgb=>?_)
  have hbk:=(Bk.new wa 229 #[.int .i64 0,.int .i64 0,.int .i64 0,.int .i64 0] (0,0)).gr hgb
  have z0:=hbk.cell 0;have z1:=hbk.cell 1;have z2:=hbk.cell 2;have z3:=hbk.cell 3
  have f0:=hbk.free 0 (.inr (Nat.zero_le _));have f1:=hbk.free 1 (.inr (Nat.zero_le _));have f2:=hbk.free 2 (.inr (Nat.zero_le _));have f3:=hbk.free 3 (.inr (Nat.zero_le _))
  simp only [List.getElem?_toArray,List.getElem?_cons_zero,List.getElem?_cons_succ] at z0 z1 z2 z3
  go_simp
  refine hK _ _ ?_ ?_
  ·exact (Gr.st (Gr.st (Gr.st (Gr.st (Gr.tr (Gr.al hga _) hgb) hga.size _) hga.size _) hga.size _) hga.size _).by _
  clear hK K
  refine wpG_done (by kernel_rfl) (fun wc hgc=>?_)
  have hbk2:=((((hbk.set 0 (.int .i64 N1)).set 1 (.int .i64 0)).set 2 (.int .i64 N2)).set 3 (.int .i64 0)).gr hgc
  have hGc:Gr w wc:=Gr.tr (Gr.st (Gr.st (Gr.st (Gr.st (Gr.tr (Gr.al hga _) hgb) hga.size _) hga.size _) hga.size _) hga.size _) hgc
  have hgne:w.heap.size≤wa.heap.size:=hga.size
  clear z0 z1 z2 z3 f0 f1 f2 f3 hbk hga hgb hgc
  generalize wa.heap.size=g at *
  have hb3:Bk wc g 229 #[.int .i64 N1,.int .i64 ((monIx ((s.drop 8).take 3) 0:Nat):Int),.int .i64 N2,.int .i64 0] (0,0):=hbk2
  have HB:=hid hb3
  clear hbk2 hb3 wa wb H1 H2
  go_wp2_with fail
  go_upto_region 5 with fail
  go_loopw [5] (fun mv wr=>∃k:Nat,1≤k∧k≤13∧mv=.int .i64 k∧Gr w wr∧Bk wr g 229 #[.int .i64 N1,.int .i64 ((monIx ((s.drop 8).take 3) (k-1):Nat):Int),.int .i64 N2,.int .i64 0] (0,0)) (fun mv _=>(14-intOf mv).toNat)
  case atStart=>exact ⟨1,Nat.le_refl _,by omega,rfl,hGc,HB.out⟩
  case round=>
   clear hGc HB
   obtain ⟨k,hk1,hk2,rfl,hG,hB⟩:=hrel
   have HB:=hid hB
   clear hB
   by_cases hlt:k≤12
   ·have d1:decide ((k:Int)≤12)=true:=decide_eq_true (by omega)
    obtain ⟨q,rfl⟩:∃q,k=q+1:=⟨k-1,by omega⟩
    have HMX:=hid (show monIx ((s.drop 8).take 3) (q+1)=if ((s.drop 8).take 3==moN (q+1))=true then q+1 else monIx ((s.drop 8).take 3) q from rfl)
    rw [Nat.add_sub_cancel] at HB
    have hsub:3*(q+1)-(3*(q+1)-3)=3:=by omega
    have hmo:List.take 3 (List.drop (3*(q+1)-3) [74,97,110,70,101,98,77,97,114,65,112,114,77,97,121,74,117,110,74,117,108,65,117,103,83,101,112,79,99,116,78,111,118,68,101,99])=moN (q+1):=rfl
    go_upto_region 7 with fail
    refine wp_region_gw (by kernel_rfl) (by kernel_rfl) ?_
    repeat (first | go_big_quiet_step (fail) | quiet_step (fail))
    refine wpQuiet_nil ?_;intro wq hwq;obtain ⟨iq,rfl⟩:=hwq
    have hg2:=gw_gr wr iq
    generalize gw wr iq=wq at *
    have hb2:=HB.out.gr hg2
    have z1:=hb2.cell 1
    have f1:=hb2.free 1 (.inr (Nat.zero_le _))
    simp only [List.getElem?_toArray,List.getElem?_cons_zero,List.getElem?_cons_succ] at z1
    have HB2:=hid hb2
    clear hb2 HB
    cases he:(List.take 3 (List.drop 8 s)==moN (q+1)) with
    | true=>
      rw [he,if_pos rfl] at HMX
      clear he hmo hsub
      go_wp2_with fail
      refine ⟨⟨q+2,by omega,by omega,by go_num,Gr.st (Gr.tr hG hg2) hgne _,?_⟩,by simp [intOf];omega⟩
      have h:=HB2.out.set 1 (.int .i64 ((q+1:Nat):Int))
      rw [show q+2-1=q+1 from rfl,HMX.out]
      exact h
    | false=>
      rw [he,if_neg (by decide)] at HMX
      clear he hmo hsub
      go_wp2_with fail
      refine ⟨⟨q+2,by omega,by omega,by go_num,Gr.tr hG hg2,?_⟩,by simp [intOf];omega⟩
      rw [show q+2-1=q+1 from rfl,HMX.out]
      exact HB2.out
   ·obtain rfl:k=13:=by omega
    have HB:=hid HB.out
    rw [show (13:Nat)-1=12 from rfl] at HB
    go_upto_region 9 with fail
    refine wp_region_gw (by kernel_rfl) (by kernel_rfl) ?_
    repeat (first | go_big_quiet_step ((go_at_call 153;first | (with_reducible exact gw_call (H3.out _)) | (with_reducible exact gw_call (H4.out _)) | (with_reducible exact gw_call (H5.out _)))) | quiet_step ((go_at_call 153;first | (with_reducible exact gw_call (H3.out _)) | (with_reducible exact gw_call (H4.out _)) | (with_reducible exact gw_call (H5.out _)))))
    refine wpQuiet_nil ?_;intro wq hwq;obtain ⟨iq,rfl⟩:=hwq
    have hg2:=gw_gr wr iq
    generalize gw wr iq=wq at *
    have hb2:=HB.out.gr hg2
    have z0:=hb2.cell 0;have z1:=hb2.cell 1;have z2:=hb2.cell 2;have z3:=hb2.cell 3
    simp only [List.getElem?_toArray,List.getElem?_cons_zero,List.getElem?_cons_succ] at z0 z1 z2 z3
    have hGq:=Gr.tr hG hg2
    have hml:=monIx_le ((s.drop 8).take 3) 12
    clear hb2 HB hG hg2 H3 H4 H5
    generalize monIx ((s.drop 8).take 3) 12=M at *
    have HT:=hid (fun (w:World)=>tickD_any N1 (M:Int) N2 0 (N3*3600+N4*60+N5) w (by omega) (by omega) (by omega) (by omega))
    have HTD:=hid (fun (t:Nat) (h:tickN N1 (M:Int) N2 (N3*3600+N4*60+N5)=some t)=>(tickN_day h).2.2)
    cases ht:tickN N1 (M:Int) N2 (N3*3600+N4*60+N5) with
    | none=>
      rw [ht] at HT HRP
      have HF:=hid (show prsV (dateP s)=.tuple #[.int .i64 0,.int .i64 2] from by rw [HP.out,HRP.out];rfl)
      unfold tkV at HT
      clear ht HTD
      go_wp2_with (go_at_call 154;refine (HT.out _).mono ?_;rintro e w5 ⟨rfl,hG5⟩)
      go_ret2
      exact ⟨by rw [HF.out];rfl,Gr.tr hGq hG5⟩
    | some t=>
      have htb:=HTD.out t ht
      rw [ht] at HT HRP
      simp only [Option.bind_some] at HRP
      unfold tkV at HT
      clear ht HTD
      have HX:=hid (fun (w:World)=>textD_in t w htb)
      go_upto_region 14 with (first | (go_at_call 154;refine (HT.out _).mono ?_;rintro e w5 ⟨rfl,hG5⟩) | (go_at_call 122;refine (HX.out _).mono ?_;rintro e w6 ⟨rfl,hG6⟩))
      have hG6:=Gr.tr hGq (Gr.tr hG5 hG6)
      cases hd:(dateT t==s) with
      | true=>
        have he:dateT t=s:=by simpa using hd
        have HF:=hid (show prsV (dateP s)=.tuple #[.int .i64 t,.int .i64 0] from by rw [HP.out,HRP.out,if_pos he];rfl)
        clear he
        go_wp2_with fail
        go_ret2
        exact ⟨by rw [HF.out];rfl,hG6⟩
      | false=>
        have he:¬dateT t=s:=by simpa using hd
        have HF:=hid (show prsV (dateP s)=.tuple #[.int .i64 0,.int .i64 2] from by rw [HP.out,HRP.out,if_neg he];rfl)
        clear he
        go_wp2_with fail
        go_ret2
        exact ⟨by rw [HF.out];rfl,hG6⟩
 ·have k1:((s.length:Int) != 29)=true:=by simp;omega
  have HN:=hid (show prsV (dateP s)=.tuple #[.int .i64 0,.int .i64 2] from by rw [show dateP s=none from by unfold dateP readP;rw [if_neg hl]];rfl)
  clear hl
  go_enter Tryz.func78,Tryz.ntmps78
  go_wp2_with fail
  go_ret2
  exact ⟨by rw [HN.out];rfl,Gr.refl _⟩
end Go.Proofs.YtflepnkpihfidaaGreatDoor
