/- Several texts in one (their own heads say what each is). No conditions but those that each theorem names. -/
import Derived.Test.YtgfckbhkgggkeaaGreatDoorJClientL
import Derived.Test.YtgfckbhkgggkeaaGreatDoorJClB
import Derived.Test.YtgfckbhkgggkeaaGreatDoorJChunk
import Derived.Test.YtgfckbhkgggkeaaGreatDoorJClA
set_option linter.unusedVariables false
set_option linter.unusedSimpArgs false
/- XClientLaw8 -/
namespace Go.Proofs.YtgfckbhkgggkeaaGreatDoor
open Lib (hid)
def awkH:List UInt8:=[72,84,84,80,47,49,46,49,32,50,48,54,32,80,97,114,116,105,97,108,32,67,111,110,116,101,110,116,13,10,67,111,110,116,101,110,116,45,82,97,110,103,101,58,32,98,121,116,101,115,32,51,45,53,47,57,13,10,67,111,110,116,101,110,116,45,76,101,110,103,116,104,58,32,51,13,10,13,10]
def awkB:List UInt8:=[72,84,84,80,47,49,46,49,32,50,48,54,32,80,97,114,116,105,97,108,32,67,111,110,116,101,110,116,13,10,67,111,110,116,101,110,116,45,82,97,110,103,101,58,32,98,121,116,101,115,32,51,45,53,47,57,13,10,67,111,110,116,101,110,116,45,76,101,110,103,116,104,58,32,51,13,10,13,10,97,98]
def l206:List UInt8:=[72,84,84,80,47,49,46,49,32,50,48,54,32,80,97,114,116,105,97,108,32,67,111,110,116,101,110,116]
theorem line206 (fs:List Fld):lineP ([],[],206,fs)=l206:=by
 unfold lineP
 rw [if_pos (show tellsB [] [] 206=true by decide)]
 show httpB++[32]++Lib.itoa 206++[32]++reason 206=l206
 rw [itoa3 206 (by omega) (by omega)]
 decide
theorem put_text {f t n sz:Int} (h:contB f t n=true) (hs:-1≤sz) (hs2:sz≤1099511627776):(putH ([],[],206,headF 206 (oneF f t n) sz)).1=l206++[13,10]++(crN++[58,32]++(headC f t++(if n= -1 then [42] else Lib.itoa n))++[13,10]++(sizeF sz).1++[58,32]++(sizeF sz).2++[13,10,13,10]):=by
 have hput:=put_oneF (sz:=sz) h hs hs2
 have e1:(put (headF 206 (oneF f t n) sz)).1=block (headF 206 (oneF f t n) sz):=by
  unfold put at hput ⊢
  by_cases h1:(headF 206 (oneF f t n) sz).all right=true
  ·rw [if_pos h1] at hput ⊢
   by_cases h2:100 < (headF 206 (oneF f t n) sz).length∨65536 < (block (headF 206 (oneF f t n) sz)).length
   ·rw [if_pos h2] at hput;cases hput
   ·rw [if_neg h2]
  ·rw [if_neg h1] at hput;cases hput
 rw [putH_good (T:=([],[],206,headF 206 (oneF f t n) sz)) (show (tellsB [] [] 206||asksB [] [] 206)=true by decide) hput]
 simp only
 rw [line206,e1]
 unfold block lines headF oneF
 rw [if_pos (show bodB 206=true by decide)]
 have e2:contentL f t n=headC f t++(if n= -1 then [42] else Lib.itoa n):=by unfold contentL;rw [if_pos h]
 rw [e2]
 simp [putL]
theorem dec1 {n:Nat} (h:n < 10):Lib.itoa n=[UInt8.ofNat (48+n)]:=by
 unfold Lib.itoa
 rw [if_neg (by omega)]
 show Lib.decDigits n=_
 rw [Lib.decDigits,dif_pos (by omega)]
theorem awk_eq:(putH ([],[],206,headF 206 (oneF 3 6 9) 3)).1=awkH:=by
 rw [put_text (by decide) (by omega) (by omega)]
 unfold headC sizeF
 rw [if_neg (show ¬((9:Int)= -1) by decide),if_neg (show ¬((3:Int)= -1) by decide)]
 rw [show Lib.itoa 3=[51] from dec1 (n:=3) (by omega),show Lib.itoa (6-1)=[53] from dec1 (n:=5) (by omega),show Lib.itoa 9=[57] from dec1 (n:=9) (by omega)]
 decide
theorem awk_now:nowL getB awkB=.body ⟨206,headF 206 (oneF 3 6 9) 3,1,3,2,3,6,[]⟩ ⟨1,1,CkT.start,false,false⟩ [97,98]:=by
 have hc:contB 3 6 9=true:=by decide
 have hput:=put_oneF (sz:=3) hc (by omega) (by omega)
 have hT:tellB 206 (oneF 3 6 9) 3=true:=by
  rw [tellB_iff]
  refine ⟨by decide,by decide,by omega,by omega,?_,?_⟩
  ·unfold oneF;rw [ofN_one];rfl
  ·unfold oneF;rw [ofN_one];rfl
 have hH:(putH ([],[],206,headF 206 (oneF 3 6 9) 3)).2=0:=by
  rw [putH_good (T:=([],[],206,headF 206 (oneF 3 6 9) 3)) (show (tellsB [] [] 206||asksB [] [] 206)=true by decide) hput]
 have hk:=back_eq ([],[],206,headF 206 (oneF 3 6 9) 3) [] hH
 have hcu:=fun k hk=>cut_eq ([],[],206,headF 206 (oneF 3 6 9) 3) k hH hk
 have h0:¬((206:Int)=0):=by decide
 simp only [if_neg h0,List.append_nil] at hk hcu
 have hpos:=putH_pos hH
 have hfr:=frame_head hT
 rw [if_pos (show bodB 206=true by decide),if_neg (show ¬((3:Int)= -1) by decide)] at hfr
 have h1:=now_head getB (B:=(putH ([],[],206,headF 206 (oneF 3 6 9) 3)).1) (fun k hk=>by rw [hcu k hk]) (by rw [hk]) (by intro e;rw [e] at hpos;simp at hpos)
 rw [hk] at h1
 have hh:heedR getB 206 (headF 206 (oneF 3 6 9) 3)=.body ⟨206,headF 206 (oneF 3 6 9) 3,1,3,2,3,6,[]⟩ (FrT.new 1 3) []:=by
  unfold heedR
  rw [hfr]
  simp only [ne_eq,not_true_eq_false,if_false]
  rw [if_neg (by decide),if_pos trivial]
  unfold rangedR
  rw [oneF_get,rangeR_content hc]
  simp only
  rw [if_neg]
  ·rfl
  ·rintro ⟨_,h4⟩
   exact h4 (by decide)
 have h2:nowL getB (putH ([],[],206,headF 206 (oneF 3 6 9) 3)).1=.body ⟨206,headF 206 (oneF 3 6 9) 3,1,3,2,3,6,[]⟩ (FrT.new 1 3) []:=h1.trans hh
 have i1:=inv_now getB (putH ([],[],206,headF 206 (oneF 3 6 9) 3)).1
 rw [h2] at i1
 have e:awkB=(putH ([],[],206,headF 206 (oneF 3 6 9) 3)).1++[97,98]:=by rw [awk_eq];rfl
 rw [e,now_app,h2,fold_fixed getB [97,98] [] i1 rfl (by decide)]
 rfl
end Go.Proofs.YtgfckbhkgggkeaaGreatDoor
/- XClient12 -/
namespace Go.Proofs.YtgfckbhkgggkeaaGreatDoor
open Lib (hid)
open Go.RowKit
def plainQ:ReqT:=(false,[47,97],[],⟨[],[],false,false,-1,-1,([],false)⟩)
theorem plainQ_ok:reqC plainQ=true:=by decide
theorem plainQ_low:ReqLow plainQ:=⟨by decide,by decide,(fun x hx=>by cases hx),(fun x hx=>by cases hx)⟩
theorem plainQ_at (w:World):ReqA w plainQ (.slice none 0 0) (.slice none 0 0) (.slice none 0 0):=⟨Specs.nil _,Tags.nil _,Tags.nil _⟩
theorem byts_litC (w:World) (l:List UInt8) (t:TypeId) (fr:Nat×Nat) (n:Nat) (hn:l.length=n) (hm:n≤1000):Byts (w.alloc (.cells (l.map byt).toArray t fr)) (.slice (some ⟨w.heap.size,0,none⟩) n n) l:=by
 subst hn
 refine ⟨_,_,rfl,Nat.le_refl _,by omega,.inr ⟨w.heap.size,0,rfl,(Bk.new w t (l.map byt).toArray fr).lt,fun j u hu=>?_⟩⟩
 rw [Nat.zero_add,(Bk.new w t (l.map byt).toArray fr).cell j];simpa using hu
set_option maxHeartbeats 2000000 in
set_option maxRecDepth 100000 in
theorem plain16_any (w:World):Calls Tryz.prog 22 #[] w fun e w'=>e=.returned (reqV plainQ (.slice none 0 0) (.slice none 0 0) (.slice none 0 0))∧Gr w w':=by
 have hb:=Bk.new w 29 #[.bool false,str [],.slice none 0 0,.slice none 0 0,.slice none 0 0,.bool false,.bool false,.int .i64 0,.int .i64 0,str [],.bool false] (0,0)
 have HG:=hid (Gr.al (Gr.refl w) (Obj.cells #[.bool false,str [],.slice none 0 0,.slice none 0 0,.slice none 0 0,.bool false,.bool false,.int .i64 0,.int .i64 0,str [],.bool false] 29))
 go_enter Tryz.func22,Tryz.ntmps22
 go_upto_region 1 with fail
 generalize w.alloc (Obj.cells #[.bool false,str [],.slice none 0 0,.slice none 0 0,.slice none 0 0,.bool false,.bool false,.int .i64 0,.int .i64 0,str [],.bool false] 29)=w0 at *
 have HS:=hid (Nat.le_refl w.heap.size)
 generalize hq:w.heap.size=gr at *
 have HQ:=hid hq
 have HB:=hid hb
 have z0:=hb.cell 0
 have z1:=hb.cell 1
 have z2:=hb.cell 2
 have z3:=hb.cell 3
 have z4:=hb.cell 4
 have z5:=hb.cell 5
 have z6:=hb.cell 6
 have z7:=hb.cell 7
 have z8:=hb.cell 8
 have z9:=hb.cell 9
 have z10:=hb.cell 10
 simp only [List.getElem?_toArray,List.getElem?_cons_zero,List.getElem?_cons_succ] at z0 z1 z2 z3 z4 z5 z6 z7 z8 z9 z10
 have f0:w0.frozen? ⟨gr,0,none⟩=false:=hb.free 0 (.inr (Nat.zero_le _))
 have f1:w0.frozen? ⟨gr,1,none⟩=false:=hb.free 1 (.inr (Nat.zero_le _))
 have f2:w0.frozen? ⟨gr,2,none⟩=false:=hb.free 2 (.inr (Nat.zero_le _))
 have f3:w0.frozen? ⟨gr,3,none⟩=false:=hb.free 3 (.inr (Nat.zero_le _))
 have f4:w0.frozen? ⟨gr,4,none⟩=false:=hb.free 4 (.inr (Nat.zero_le _))
 have f5:w0.frozen? ⟨gr,5,none⟩=false:=hb.free 5 (.inr (Nat.zero_le _))
 have f6:w0.frozen? ⟨gr,6,none⟩=false:=hb.free 6 (.inr (Nat.zero_le _))
 have f7:w0.frozen? ⟨gr,7,none⟩=false:=hb.free 7 (.inr (Nat.zero_le _))
 have f8:w0.frozen? ⟨gr,8,none⟩=false:=hb.free 8 (.inr (Nat.zero_le _))
 have f9:w0.frozen? ⟨gr,9,none⟩=false:=hb.free 9 (.inr (Nat.zero_le _))
 have f10:w0.frozen? ⟨gr,10,none⟩=false:=hb.free 10 (.inr (Nat.zero_le _))
 clear hb hq
 go_wp2_with fail
 refine at_world (P:=bodyPost _ _ _ _ _) (w0:=putCs w0 gr [.bool false,str [47,97],.slice none 0 0,.slice none 0 0,.slice none 0 0,.bool false,.bool false,.int .i64 (-1),.int .i64 (-1),str [],.bool false] 0) ?_
 intro wy hwy
 have hy:Bk wy gr 29 #[.bool false,str [47,97],.slice none 0 0,.slice none 0 0,.slice none 0 0,.bool false,.bool false,.int .i64 (-1),.int .i64 (-1),str [],.bool false] (0,0):=by rw [hwy];exact putCs_bk HB.out rfl
 have hgy:Gr w wy:=by rw [hwy];exact putCs_gr (by have:=HQ.out;omega) _ _ _ HG.out
 have y0:wy.cell? ⟨gr,0,none⟩=some (.bool false):=hy.cell 0
 have y1:wy.cell? ⟨gr,1,none⟩=some (str [47,97]):=hy.cell 1
 have y2:wy.cell? ⟨gr,2,none⟩=some (.slice none 0 0):=hy.cell 2
 have y3:wy.cell? ⟨gr,3,none⟩=some (.slice none 0 0):=hy.cell 3
 have y4:wy.cell? ⟨gr,4,none⟩=some (.slice none 0 0):=hy.cell 4
 have y5:wy.cell? ⟨gr,5,none⟩=some (.bool false):=hy.cell 5
 have y6:wy.cell? ⟨gr,6,none⟩=some (.bool false):=hy.cell 6
 have y7:wy.cell? ⟨gr,7,none⟩=some (.int .i64 (-1)):=hy.cell 7
 have y8:wy.cell? ⟨gr,8,none⟩=some (.int .i64 (-1)):=hy.cell 8
 have y9:wy.cell? ⟨gr,9,none⟩=some (str []):=hy.cell 9
 have y10:wy.cell? ⟨gr,10,none⟩=some (.bool false):=hy.cell 10
 refine bodyPost_ret (v:=.agg #[.bool false,str [47,97],.slice none 0 0,.slice none 0 0,.slice none 0 0,.bool false,.bool false,.int .i64 (-1),.int .i64 (-1),str [],.bool false]) (by simp [results,Tryz.results22,go_sem,y0,y1,y2,y3,y4,y5,y6,y7,y8,y9,y10]) rfl ?_
 exact ⟨rfl,hgy⟩
set_option maxHeartbeats 16000000 in
set_option maxRecDepth 100000 in
theorem awake16_any (w:World) (hv:Vars w):Calls Tryz.prog 7 #[] w fun e w'=>e=.returned (.bool true)∧Gr w w':=by
 have kc:=fun (w:World) (C:Array Value) (n c:Nat)=>Lib.run_convert_bytes_const (P:=Tryz.prog) w 30 5 C n c Tryz.underlying30 Tryz.underlying5
 have HV:=hid (fun (x:World) (h:Gr w x)=>hv.gr h);clear hv
 have HNW:=hid (fun (x:World) (h:Gr w x)=>show Calls Tryz.prog 10 #[.agg #[.bool false,str [47,97],.slice none 0 0,.slice none 0 0,.slice none 0 0,.bool false,.bool false,.int .i64 (-1),.int .i64 (-1),str [],.bool false]] x (fun e w'=>Gr x w'∧∃g,e=.returned (.tuple #[.pointer (some ⟨g,0,none⟩),.int .i64 0])∧ClR w w' g [g] getB false false (.head [])∧x.heap.size≤g) from by
  refine (kNew_any w x h plainQ _ _ _ (plainQ_at x) plainQ_low (by decide) (by decide)).mono ?_
  intro e w' hn
  unfold NewEnd at hn
  rw [plainQ_ok] at hn
  exact hn)
 go_enter Tryz.func7,Tryz.ntmps7
 go_upto_region 2 with (first | (go_at_call 22;refine (plain16_any _).mono ?_;rintro e w1 ⟨rfl,hg1⟩;unfold reqV plainQ;simp only) | (go_at_call 10;refine (HNW.out _ hg1).mono ?_;rintro e w2 ⟨hg2,g,rfl,hR,hgl⟩))
 have hG2:=Gr.tr hg1 hg2
 go_upto_region 4 with fail
 have hG3:=Gr.al (Gr.refl w2) (Obj.cells (awkB.map byt).toArray 5 (81,82))
 have HTK:=hid (take_any w (w2.alloc (Obj.cells (awkB.map byt).toArray 5 (81,82))) g (w2.heap.size+1) [g] getB (.head []) awkB (.slice (some ⟨w2.heap.size,0,none⟩) 81 81) (hR.gr hG3) (Gr.tr hG2 hG3) (HV.out w (Gr.refl w)) ⟨byts_litC w2 awkB 5 (81,82) 81 rfl (by decide),.inr (fun b hb=>by
  have hb2:w2.heap.size=b:=by simpa [Value.ownBlock] using hb
  have:=hR.hi g (by simp)
  subst hb2
  exact ⟨by omega,by simp;omega⟩)⟩ (by simp) (by decide))
 rw [show awkB.foldl (clByte getB) (.head [])=_ from awk_now] at HTK
 have HG3:=hid (Gr.tr hG2 hG3)
 have HLO:=hid hR.lo
 clear hR hg1 hg2 hG2 hG3 hgl HNW
 go_upto_region 5 with (go_at_call 11;refine HTK.out.mono ?_;rintro e w4 ⟨he4,S4,hR4,hP4⟩;have he4:e=.returned (.int .i64 0):=he4;subst he4)
 have HG4:=hid (hP4.old HG3.out HLO.out)
 have HBY:=hid (show Calls Tryz.prog 14 #[.pointer (some ⟨g,0,none⟩)] w4 (BytesC w4 [((3,5),[97,98])]) from bytes_any hR4 (HV.out _ HG4.out) (by decide))
 have HR4:=hid hR4
 clear hR4 hP4 HTK
 go_upto_region 6 with (go_at_call 14;refine HBY.out.mono ?_;rintro e w5 ⟨hg5,v1,v2,rfl,hs1,hs2⟩)
 have hs1:Spans w5 v1 [(3,5)]:=hs1
 have hs2:Bods w5 v2 [[97,98]]:=hs2
 obtain ⟨A1,c1,e1,hc1,-,ho1⟩:=Spans.open hs1
 obtain ⟨A2,c2,e2,hc2,-,ho2⟩:=Bods.open hs2
 have e1:v1=.slice A1 1 c1:=e1
 have e2:v2=.slice A2 1 c2:=e2
 obtain ⟨b1,o1,eA1,-,x0,x1⟩:=ho1 0 (by decide)
 obtain ⟨b2,o2,u2,eA2,x2,hu2⟩:=ho2 0 (by decide)
 have x0:w5.cell? ⟨b1,o1,none⟩=some (.int .i64 3):=x0
 have x1:w5.cell? ⟨b1,o1+1,none⟩=some (.int .i64 5):=x1
 have x2:w5.cell? ⟨b2,o2,none⟩=some u2:=x2
 have hu2:Byts w5 u2 [97,98]:=hu2
 have hc1:1≤c1:=hc1
 have hc2:1≤c2:=hc2
 obtain ⟨A3,c3,e3,-,-,-⟩:=hu2.open
 have e3:u2=.slice A3 2 c3:=e3
 subst eA1 eA2 e1 e2 e3
 have hts:=hu2.toStr
 have HLO4:=hid HR4.out.lo
 have HEN:=hid (end_any w w5 g S4 getB _ (HR4.out.gr hg5) (Gr.tr HG4.out hg5) (HV.out w (Gr.refl w)) (by decide))
 have HG5:=hid (Gr.tr HG4.out hg5)
 clear hs1 hs2 ho1 ho2 hu2 HBY hg5 HR4
 go_wp2_with (first | (go_at_call 12;refine HEN.out.mono ?_;rintro e w6 ⟨he6,hR6,hP6⟩;have he6:e=.returned (.int .i64 13):=he6;subst he6;have HWH:=hid (show Calls Tryz.prog 13 #[.pointer (some ⟨g,0,none⟩)] w6 (fun e w'=>e=.returned (.bool false)∧Gr w6 w') from whole_any hR6);have HG6:=hid (hP6.old HG5.out HLO4.out);clear hR6 hP6) | (go_at_call 13;refine HWH.out.mono ?_;rintro e w7 ⟨rfl,hg7⟩))
 go_ret
 exact ⟨rfl,Gr.tr HG6.out hg7⟩
end Go.Proofs.YtgfckbhkgggkeaaGreatDoor
/- XClient15 -/
namespace Go.Proofs.YtgfckbhkgggkeaaGreatDoor
open Lib (hid)
open Go.RowKit
set_option maxHeartbeats 8000000 in
set_option maxRecDepth 100000 in
theorem spans_same (u v:Value) (l:List (Int×Int)) (w:World) (hu:Spans w u l) (hv:Spans w v l) :
  Calls Tryz.prog 39 #[u,v] w fun e w'=>e=.returned (.bool true)∧Gr w w':=by
 obtain ⟨A,c,rfl,hc,hm,ho⟩:=hu.open
 obtain ⟨A',c',rfl,hc',_,ho'⟩:=hv.open
 have HO:=hid ho;have HO':=hid ho'
 clear ho ho' hu hv
 go_enter Tryz.func39,Tryz.ntmps39
 go_wp2_with fail
 go_loopw [5,13] (fun x5 i wr=>∃k:Nat,k≤l.length∧i=.int .i64 k∧Gr w wr) (fun _ i _=>l.length-(intOf i).toNat)
 case atStart=>exact ⟨0,Nat.zero_le _,rfl,Gr.refl _⟩
 case round=>
  obtain ⟨k,hk,rfl,hG⟩:=hrel
  by_cases hlt:k < l.length
  ·obtain ⟨b1,o1,rfl,-,c1,c2⟩:=HO.out k hlt
   obtain ⟨b2,o2,rfl,-,d1,d2⟩:=HO'.out k hlt
   have c1:=Gr.cell hG c1
   have c2:=Gr.cell hG c2
   have d1:=Gr.cell hG d1
   have d2:=Gr.cell hG d2
   have gc1:=fun i=>(gw_gr wr i).cell c1
   have gc2:=fun i=>(gw_gr wr i).cell c2
   have gd1:=fun i=>(gw_gr wr i).cell d1
   have gd2:=fun i=>(gw_gr wr i).cell d2
   generalize l[k]=p at *
   obtain ⟨pf,pt⟩:=p
   simp only at *
   have HG:=hid hG
   clear hG HO HO'
   go_upto_region 6 with fail
   refine wp_region_gw (by kernel_rfl) (by kernel_rfl) ?_
   repeat (first | go_big_quiet_step (fail) | quiet_step (fail))
   refine wpQuiet_nil ?_;intro wq hwq;obtain ⟨iq,rfl⟩:=hwq
   have hGq:=gw_gr wr iq
   generalize gw wr iq=wx at *
   go_wp2_with fail
   exact ⟨⟨k+1,by omega,by go_num,Gr.tr HG.out hGq⟩,by simp [intOf];omega⟩
  ·have hk:k=l.length:=by omega
   subst hk
   go_wp2_with fail
   go_ret
   exact ⟨rfl,hG⟩
set_option maxHeartbeats 8000000 in
set_option maxRecDepth 100000 in
theorem bodies_same (u v:Value) (l:List (List UInt8)) (w:World) (hu:Bods w u l) (hv:Bods w v l) :
  Calls Tryz.prog 40 #[u,v] w fun e w'=>e=.returned (.bool true)∧Gr w w':=by
 obtain ⟨A,c,rfl,hc,hm,ho⟩:=hu.open
 obtain ⟨A',c',rfl,hc',_,ho'⟩:=hv.open
 have HO:=hid ho;have HO':=hid ho'
 clear ho ho' hu hv
 go_enter Tryz.func40,Tryz.ntmps40
 go_wp2_with fail
 go_loopw [5,13] (fun x5 i wr=>∃k:Nat,k≤l.length∧i=.int .i64 k∧Gr w wr) (fun _ i _=>l.length-(intOf i).toNat)
 case atStart=>exact ⟨0,Nat.zero_le _,rfl,Gr.refl _⟩
 case round=>
  obtain ⟨k,hk,rfl,hG⟩:=hrel
  by_cases hlt:k < l.length
  ·obtain ⟨b1,o1,u1,rfl,c1,hy⟩:=HO.out k hlt
   obtain ⟨b2,o2,u2,rfl,d1,hy'⟩:=HO'.out k hlt
   have t1:=fun i=>(hy.gr (Gr.tr hG (gw_gr wr i))).toStr
   have t2:=fun i=>(hy'.gr (Gr.tr hG (gw_gr wr i))).toStr
   obtain ⟨A3,n3,rfl,_,_,_⟩:=hy.open
   obtain ⟨A4,n4,rfl,_,_,_⟩:=hy'.open
   clear hy hy'
   have c1:=Gr.cell hG c1
   have d1:=Gr.cell hG d1
   have gc1:=fun i=>(gw_gr wr i).cell c1
   have gd1:=fun i=>(gw_gr wr i).cell d1
   generalize l[k]=p at *
   have HG:=hid hG
   clear hG HO HO'
   go_upto_region 6 with fail
   refine wp_region_gw (by kernel_rfl) (by kernel_rfl) ?_
   repeat (first | go_big_quiet_step (fail) | quiet_step (fail))
   refine wpQuiet_nil ?_;intro wq hwq;obtain ⟨iq,rfl⟩:=hwq
   have hGq:=gw_gr wr iq
   generalize gw wr iq=wx at *
   go_wp2_with fail
   exact ⟨⟨k+1,by omega,by go_num,Gr.tr HG.out hGq⟩,by simp [intOf];omega⟩
  ·have hk:k=l.length:=by omega
   subst hk
   go_wp2_with fail
   go_ret
   exact ⟨rfl,hG⟩
end Go.Proofs.YtgfckbhkgggkeaaGreatDoor
/- XClient16 -/
namespace Go.Proofs.YtgfckbhkgggkeaaGreatDoor
open Lib (hid)
open Go.RowKit
theorem bytsF_arg {W w:World} {S:List Nat} {u:Value} {l:List UInt8} (hb:Byts W u l) (g:Gr W w) (hS:∀k∈S,W.heap.size≤k):BytsF W.heap.size S w u l:=by
 refine ⟨hb.gr g,?_⟩
 obtain ⟨A,c,rfl,-,-,h⟩:=hb
 rcases h with h | ⟨b,o,rfl,hlt,-⟩
 ·refine .inl ?_
  cases l with
  | nil=>rfl
  | cons _ _=>simp at h
 ·refine .inr fun b' hb'=>?_
  have e:b=b':=by simpa [Value.ownBlock] using hb'
  subst e
  exact ⟨hlt,fun hm=>by have:=hS b hm;omega⟩
theorem take_arg {W W0 w:World} {g:Nat} {S:List Nat} {asked:List UInt8} {s:ClS} {l:List UInt8} {u:Value} (hR:ClR W0 w g S asked false false s) (hG:Gr W0 w) (hv:Vars W0) (hW:Gr W W0) (hb:Byts W u l) (hsz:s.sz+l.length≤60000) :
  Calls Tryz.prog 11 #[.pointer (some ⟨g,0,none⟩),u] w (TakeC W0 w g S asked (l.foldl (clByte asked) s)):=
 take_any W0 w g W.heap.size S asked s l u hR hG hv (bytsF_arg hb (Gr.tr hW hG) (fun k hk=>Nat.le_trans hW.size (hR.lo k hk))) (Nat.le_trans hW.size hG.size) hsz
end Go.Proofs.YtgfckbhkgggkeaaGreatDoor
/- XClient23 -/
namespace Go.Proofs.YtgfckbhkgggkeaaGreatDoor
open Lib (hid)
open Go.RowKit
theorem slArgLo {ops:Array Oper} {rest:List Oper} {o:Oper} {a:Act} {Q:Exit→Act→World→Prop} {W w:World} {A:Option Addr} {n c:Nat} {l:List UInt8} {kd:IntKind} {k:Int} (x y:Operand) (hgd:o.guard=none) (ho:o.op=.slice 30 x (some y) none none) (hx:a.eval x=.slice A n c) (hy:a.eval y=.int kd k)
  (hb:Byts W (.slice A n c) l) (hk0:0≤k) (hk:k≤l.length)
  (h:∀A2,Byts W (.slice A2 (l.length-k.toNat) (c-k.toNat)) (l.drop k.toNat)→wpList Tryz.prog ops Q rest (a.put o.dst (.slice A2 (l.length-k.toNat) (c-k.toNat))) w):wpList Tryz.prog ops Q (o::rest) a w:=by
 obtain ⟨rfl,hc⟩:=hb.len
 obtain ⟨A2,e,h2⟩:=hb.sliced k.toNat l.length c (by omega) (Nat.le_refl _) hc (Nat.le_refl _)
 rw [List.take_of_length_le (by rw [List.length_drop];omega)] at h2
 refine wpList_run hgd ?_ (h A2 h2)
 unfold execOp
 simp only [ho,hx,hy,Option.map_some,Option.map_none,Sem.run_bind,run_sliceAt_slice w _ _ _ _ _ elemT,run_slice_l w _ _ _ _ elemT kd k hk0 hk,sizeByte,Result.andThen_ok,Sem.run_pure,e]
theorem slArgHi {ops:Array Oper} {rest:List Oper} {o:Oper} {a:Act} {Q:Exit→Act→World→Prop} {W w:World} {A:Option Addr} {n c:Nat} {l:List UInt8} {kd:IntKind} {k:Int} (x y:Operand) (hgd:o.guard=none) (ho:o.op=.slice 30 x none (some y) none) (hx:a.eval x=.slice A n c) (hy:a.eval y=.int kd k)
  (hb:Byts W (.slice A n c) l) (hk0:0≤k) (hk:k≤l.length)
  (h:∀A2,Byts W (.slice A2 k.toNat c) (l.take k.toNat)→wpList Tryz.prog ops Q rest (a.put o.dst (.slice A2 k.toNat c)) w):wpList Tryz.prog ops Q (o::rest) a w:=by
 obtain ⟨rfl,hc⟩:=hb.len
 obtain ⟨A2,e,h2⟩:=hb.sliced 0 k.toNat c (Nat.zero_le _) (by omega) (by omega) (Nat.le_refl _)
 simp only [Nat.sub_zero,List.drop_zero] at h2 e
 refine wpList_run hgd ?_ (h A2 h2)
 unfold execOp
 simp only [ho,hx,hy,Option.map_some,Option.map_none,Sem.run_bind,run_sliceAt_slice w _ _ _ _ _ elemT,run_slice_h w _ _ _ _ elemT kd k hk0 (show k≤(c:Int) by omega),sizeByte,Result.andThen_ok,Sem.run_pure,e]
theorem newQ_any (W0 w:World) (hW:Gr W0 w) (q:ReqT) (vs vm vn:Value) (ha:ReqA w q vs vm vn) (hl:ReqLow q) (hf:fewC q=true) (hr:reqC q=true):Calls Tryz.prog 10 #[reqV q vs vm vn] w (fun e w'=>Gr w w'∧∃g,e=.returned (.tuple #[.pointer (some ⟨g,0,none⟩),.int .i64 0])∧ClR W0 w' g [g] (if q.1 then headB else getB) false false (.head [])∧w.heap.size≤g):=by
 have hh:q.2.2.2.mt.length≤1000000∧q.2.2.2.no.length≤1000000:=by
  unfold fewC at hf
  simp only [Bool.and_eq_true] at hf
  have:=fewB_iff.1 hf.2
  omega
 refine (kNew_any W0 w hW q vs vm vn ha hl hh.1 hh.2).mono ?_
 intro e w' hn
 unfold NewEnd at hn
 rw [hr] at hn
 exact hn
end Go.Proofs.YtgfckbhkgggkeaaGreatDoor
/- XClientLaw7 -/
namespace Go.Proofs.YtgfckbhkgggkeaaGreatDoor
open Lib (hid)
structure R10T where
 st:Nat
 dg:Nat
 ln:Nat
 lns:Nat
 lf:Int
def hexJ (c:UInt8):Int:=match hexV c with | some d=>d | none=>-1
def r10Step (r:R10T) (c:UInt8):R10T×Bool×Bool:=
 if r.st=0 then
  (if c.toNat=13 then (⟨2,r.dg,r.ln,r.lns,r.lf⟩,false,decide (0 < r.dg))
  else if c.toNat=59∧0 < r.dg then (⟨1,r.dg,r.ln+1,r.lns,r.lf⟩,false,decide (r.ln+1≤200))
  else (⟨0,r.dg+1,r.ln+1,r.lns,16*r.lf+hexJ c⟩,false,decide (0≤hexJ c)&&decide (r.dg+1≤15)))
 else if r.st=1 then
  (if c.toNat=13 then (⟨2,r.dg,r.ln,r.lns,r.lf⟩,false,true)
  else (⟨1,r.dg,r.ln+1,r.lns,r.lf⟩,false,visC c&&decide (r.ln+1≤200)))
 else if r.st=2 then (⟨if r.lf=0 then 6 else 3,r.dg,0,r.lns,r.lf⟩,false,c.toNat==10)
 else if r.st=3 then (⟨if r.lf-1=0 then 4 else 3,r.dg,r.ln,r.lns,r.lf-1⟩,true,true)
 else if r.st=4 then (⟨5,r.dg,r.ln,r.lns,r.lf⟩,false,c.toNat==13)
 else if r.st=5 then (⟨0,0,0,0,0⟩,false,c.toNat==10)
 else if r.st=6 then
  (if c.toNat=13 then (⟨9,r.dg,r.ln,r.lns,r.lf⟩,false,true)
  else (⟨7,r.dg,1,r.lns+1,r.lf⟩,false,visC c&&decide (r.lns+1≤64)))
 else if r.st=7 then
  (if c.toNat=13 then (⟨8,r.dg,r.ln,r.lns,r.lf⟩,false,true)
  else (⟨7,r.dg,r.ln+1,r.lns,r.lf⟩,false,visC c&&decide (r.ln+1≤200)))
 else if r.st=8 then (⟨6,r.dg,r.ln,r.lns,r.lf⟩,false,c.toNat==10)
 else (⟨10,r.dg,r.ln,r.lns,r.lf⟩,false,c.toNat==10)
structure R10R (s:CkT) (r:R10T):Prop where
 st:r.st=if s.pos≤5 then s.pos else if s.pos=6 then (if s.long=0 then 6 else 7) else s.pos+1
 dg:r.dg=s.digits
 lns:r.lns=s.trailers
 lf:r.lf=s.size
 no:s.pos≤5→s.trailers=0
 ln:r.ln=s.long∨((s.pos=6∧s.long=0∨s.pos=8∨s.pos=9)∧r.ln≤200)
theorem r10_start:R10R CkT.start ⟨0,0,0,0,0⟩:=⟨rfl,rfl,rfl,rfl,fun _=>rfl,.inl rfl⟩
theorem hexV_low {c:UInt8} (h:c.toNat=13∨c.toNat=59):hexV c=none:=by
 unfold hexV;rw [if_neg (by omega),if_neg (by omega),if_neg (by omega)]
theorem visC_59 {c:UInt8} (h:c.toNat=59):visC c=true:=by unfold visC;rw [h];rfl
theorem r10_data {s:CkT} {r:R10T} (hk:CkOk s) (hr:R10R s r) (h3:s.pos=3) (c:UInt8):(r10Step r c).2=(true,true)∧R10R (ckData s 1) (r10Step r c).1:=by
 obtain ⟨a1,a2,a3,a4,a5,a6⟩:=hr
 obtain ⟨st,dg,ln,lns,lf⟩:=r
 obtain ⟨pos,size,digits,long,trailers⟩:=s
 have hd:=hk.data h3
 simp only at *
 subst h3
 simp at a1 a5 a6
 subst a1 a2 a3 a4 a5 a6
 unfold r10Step ckData
 refine ⟨rfl,?_⟩
 simp only
 by_cases hz:size-1=0
 ·have e:((size:Nat):Int)-1=0:=by omega
  refine ⟨?_,rfl,rfl,?_,?_,.inl rfl⟩ <;> simp [hz,e]
 ·have e:¬((size:Nat):Int)-1=0:=by omega
  refine ⟨?_,rfl,rfl,?_,?_,.inl rfl⟩ <;> simp [hz,e];omega
theorem r10_step {s:CkT} {r:R10T} (hk:CkOk s) (hr:R10R s r) (h3:s.pos≠3) (h9:s.pos≠9) (c:UInt8):(r10Step r c).2=(false,(ckStep s c).2)∧((ckStep s c).2=true→R10R (ckStep s c).1 (r10Step r c).1):=by
 obtain ⟨a1,a2,a3,a4,a5,a6⟩:=hr
 have hp:=hk.pos
 have hdg:=hk.dig
 have htr:=hk.trail
 have hlg:=hk.long
 have hfit:=hk.fit
 obtain ⟨st,dg,ln,lns,lf⟩:=r
 obtain ⟨pos,size,digits,long,trailers⟩:=s
 simp only at *
 subst a2 a3 a4
 obtain h | h | h | h | h | h | h | h:pos=0∨pos=1∨pos=2∨pos=4∨pos=5∨pos=6∨pos=7∨pos=8:=by omega
 all_goals subst h
 ·
  simp at a1 a5 a6
  subst a1 a5 a6
  unfold ckStep ckSized r10Step
  simp only [if_true]
  by_cases h13:c.toNat=13
  ·rw [if_pos h13,hexV_low (.inl h13)]
   simp only
   by_cases hz:dg=0
   ·rw [if_pos hz];subst hz;exact ⟨rfl,fun h=>by cases h⟩
   ·rw [if_neg hz,if_neg (by omega),if_pos h13]
    exact ⟨by simp;omega,fun _=>⟨rfl,rfl,rfl,rfl,fun _=>rfl,.inl rfl⟩⟩
  rw [if_neg h13]
  by_cases h59:c.toNat=59
  ·rw [hexV_low (.inr h59)]
   simp only
   by_cases hz:dg=0
   ·rw [if_pos hz,if_neg (by omega)];unfold hexJ;rw [hexV_low (.inr h59)];exact ⟨by simp,fun h=>by cases h⟩
   ·rw [if_neg hz,if_pos h59,if_pos ⟨h59,by omega⟩]
    unfold ckPut
    rw [visC_59 h59]
    exact ⟨by simp,fun _=>⟨rfl,rfl,rfl,rfl,fun _=>rfl,.inl rfl⟩⟩
  rw [if_neg (by omega)]
  unfold hexJ
  cases hv:hexV c with
  | none=>
    simp only
    refine ⟨?_,?_⟩
    ·by_cases hz:dg=0
     ·rw [if_pos hz];simp
     ·rw [if_neg hz,if_neg h59,if_neg h13];simp
    ·by_cases hz:dg=0
     ·rw [if_pos hz];intro h;cases h
     ·rw [if_neg hz,if_neg h59,if_neg h13];intro h;cases h
  | some d=>
    simp only
    by_cases h15:dg=15
    ·rw [if_pos h15];subst h15;exact ⟨by simp,fun h=>by cases h⟩
    ·rw [if_neg h15]
     refine ⟨by simp;omega,fun _=>⟨rfl,rfl,rfl,?_,fun _=>rfl,.inl rfl⟩⟩
     simp only;omega
 ·
  simp at a1 a5 a6
  subst a1 a5 a6
  unfold ckStep r10Step
  simp only [if_true,if_neg (show ¬(1:Nat)=0 by decide)]
  by_cases h13:c.toNat=13
  ·rw [if_pos h13,if_pos h13];exact ⟨rfl,fun _=>⟨rfl,rfl,rfl,rfl,fun _=>rfl,.inl rfl⟩⟩
  ·rw [if_neg h13,if_neg h13];unfold ckPut;exact ⟨by simp [Bool.and_comm],fun _=>⟨rfl,rfl,rfl,rfl,fun _=>rfl,.inl rfl⟩⟩
 ·simp at a1 a5 a6
  subst a1 a5 a6
  unfold ckStep ckLine r10Step
  simp only [if_true,if_neg (show ¬(2:Nat)=0 by decide),if_neg (show ¬(2:Nat)=1 by decide),if_neg (show ¬(2:Nat)=4 by decide),if_neg (show ¬(2:Nat)=6 by decide)]
  by_cases h10:c.toNat=10
  ·rw [if_pos h10]
   refine ⟨by simp [h10],fun _=>?_⟩
   by_cases hz:size=0
   ·subst hz;exact ⟨rfl,rfl,rfl,rfl,fun _=>rfl,.inl rfl⟩
   ·have:¬((size:Nat):Int)=0:=by omega
    exact ⟨by simp [hz,this],rfl,rfl,rfl,fun _=>rfl,.inl rfl⟩
  ·rw [if_neg h10];exact ⟨by simp [h10],fun h=>by cases h⟩
 ·simp at a1 a5 a6
  subst a1 a5 a6
  unfold ckStep r10Step
  simp only [if_true,if_neg (show ¬(4:Nat)=0 by decide),if_neg (show ¬(4:Nat)=1 by decide),if_neg (show ¬(4:Nat)=2 by decide),if_neg (show ¬(4:Nat)=3 by decide)]
  by_cases h13:c.toNat=13
  ·rw [if_pos h13];exact ⟨by simp [h13],fun _=>⟨rfl,rfl,rfl,rfl,fun _=>rfl,.inl rfl⟩⟩
  ·rw [if_neg h13];exact ⟨by simp [h13],fun h=>by cases h⟩
 ·simp at a1 a5 a6
  subst a1 a5 a6
  unfold ckStep ckLine r10Step
  simp only [if_true,if_neg (show ¬(5:Nat)=0 by decide),if_neg (show ¬(5:Nat)=1 by decide),if_neg (show ¬(5:Nat)=2 by decide),if_neg (show ¬(5:Nat)=3 by decide),if_neg (show ¬(5:Nat)=4 by decide),if_neg (show ¬(5:Nat)=6 by decide)]
  by_cases h10:c.toNat=10
  ·rw [if_pos h10];exact ⟨by simp [h10],fun _=>⟨rfl,rfl,rfl,rfl,fun _=>rfl,.inl rfl⟩⟩
  ·rw [if_neg h10];exact ⟨by simp [h10],fun h=>by cases h⟩
 ·
  unfold ckStep ckTrail
  simp only [if_true,if_neg (show ¬(6:Nat)=0 by decide),if_neg (show ¬(6:Nat)=1 by decide),if_neg (show ¬(6:Nat)=4 by decide)]
  by_cases hl:long=0
  ·subst hl
   simp at a1 a6
   subst a1
   unfold r10Step
   simp only [if_true,if_neg (show ¬(6:Nat)=0 by decide),if_neg (show ¬(6:Nat)=1 by decide),if_neg (show ¬(6:Nat)=2 by decide),if_neg (show ¬(6:Nat)=3 by decide),if_neg (show ¬(6:Nat)=4 by decide),if_neg (show ¬(6:Nat)=5 by decide)]
   by_cases h13:c.toNat=13
   ·rw [if_pos h13,if_pos h13]
    exact ⟨rfl,fun _=>⟨rfl,rfl,rfl,rfl,fun h=>by simp at h,.inr ⟨.inr (.inl rfl),by simp only;omega⟩⟩⟩
   ·rw [if_neg h13,if_neg h13]
    by_cases h64:lns+1≤64
    ·rw [if_pos h64];unfold ckPut
     exact ⟨by simp [h64],fun _=>⟨rfl,rfl,rfl,rfl,fun h=>by simp at h,.inl rfl⟩⟩
    ·rw [if_neg h64];exact ⟨by simp [h64],fun h=>by cases h⟩
  ·simp [hl] at a1 a6
   subst a1 a6
   unfold r10Step
   simp only [if_neg hl,if_true,if_neg (show ¬(7:Nat)=0 by decide),if_neg (show ¬(7:Nat)=1 by decide),if_neg (show ¬(7:Nat)=2 by decide),if_neg (show ¬(7:Nat)=3 by decide),if_neg (show ¬(7:Nat)=4 by decide),if_neg (show ¬(7:Nat)=5 by decide),if_neg (show ¬(7:Nat)=6 by decide)]
   by_cases h13:c.toNat=13
   ·rw [if_pos h13,if_pos h13]
    exact ⟨rfl,fun _=>⟨rfl,rfl,rfl,rfl,fun h=>by simp at h,.inl rfl⟩⟩
   ·rw [if_neg h13,if_neg h13,if_pos htr];unfold ckPut
    exact ⟨by simp [Bool.and_comm],fun _=>⟨rfl,rfl,rfl,rfl,fun h=>by simp at h,.inl rfl⟩⟩
 ·simp at a1 a6
  subst a1 a6
  unfold ckStep ckLine r10Step
  simp only [if_true,if_neg (show ¬(7:Nat)=0 by decide),if_neg (show ¬(7:Nat)=1 by decide),if_neg (show ¬(7:Nat)=4 by decide),if_neg (show ¬(7:Nat)=6 by decide),if_neg (show ¬(7:Nat)=2 by decide),if_neg (show ¬(7:Nat)=5 by decide),if_neg (show ¬(8:Nat)=0 by decide),if_neg (show ¬(8:Nat)=1 by decide),if_neg (show ¬(8:Nat)=2 by decide),if_neg (show ¬(8:Nat)=3 by decide),if_neg (show ¬(8:Nat)=4 by decide),if_neg (show ¬(8:Nat)=5 by decide),if_neg (show ¬(8:Nat)=6 by decide),if_neg (show ¬(8:Nat)=7 by decide)]
  by_cases h10:c.toNat=10
  ·rw [if_pos h10];exact ⟨by simp [h10],fun _=>⟨rfl,rfl,rfl,rfl,fun h=>by simp at h,.inr ⟨.inl ⟨rfl,rfl⟩,hlg⟩⟩⟩
  ·rw [if_neg h10];exact ⟨by simp [h10],fun h=>by cases h⟩
 ·simp at a1 a6
  subst a1
  have hln:ln≤200:=by omega
  unfold ckStep ckLine r10Step
  simp only [if_true,if_neg (show ¬(8:Nat)=0 by decide),if_neg (show ¬(8:Nat)=1 by decide),if_neg (show ¬(8:Nat)=4 by decide),if_neg (show ¬(8:Nat)=6 by decide),if_neg (show ¬(8:Nat)=2 by decide),if_neg (show ¬(8:Nat)=5 by decide),if_neg (show ¬(8:Nat)=7 by decide),if_neg (show ¬(9:Nat)=0 by decide),if_neg (show ¬(9:Nat)=1 by decide),if_neg (show ¬(9:Nat)=2 by decide),if_neg (show ¬(9:Nat)=3 by decide),if_neg (show ¬(9:Nat)=4 by decide),if_neg (show ¬(9:Nat)=5 by decide),if_neg (show ¬(9:Nat)=6 by decide),if_neg (show ¬(9:Nat)=7 by decide),if_neg (show ¬(9:Nat)=8 by decide)]
  by_cases h10:c.toNat=10
  ·rw [if_pos h10];exact ⟨by simp [h10],fun _=>⟨rfl,rfl,rfl,rfl,fun h=>by simp at h,.inr ⟨.inr (.inr rfl),hln⟩⟩⟩
  ·rw [if_neg h10];exact ⟨by simp [h10],fun h=>by cases h⟩
end Go.Proofs.YtgfckbhkgggkeaaGreatDoor
/- XClientLaw9 -/
namespace Go.Proofs.YtgfckbhkgggkeaaGreatDoor
open Lib (hid)
theorem r10_take {s:CkT} {r:R10T} (hk:CkOk s) (hr:R10R s r) (h9:s.pos≠9) (c:UInt8) :
  (r10Step r c).2.2=(ckTake s [c]).2.2.2∧((ckTake s [c]).2.2.2=true→(ckTake s [c]).1=(if (r10Step r c).2.1 then [c] else [])∧R10R (ckTake s [c]).2.2.1 (r10Step r c).1):=by
 by_cases h3:s.pos=3
 ·obtain ⟨e,h⟩:=r10_data hk hr h3 c
  rw [ckTake_data1 h3,e]
  exact ⟨rfl,fun _=>⟨rfl,h⟩⟩
 ·obtain ⟨e,h⟩:=r10_step hk hr h3 h9 c
  cases hs:(ckStep s c).2 with
  | true=>
    rw [ckTake_step h9 h3 hs,e,hs]
    exact ⟨rfl,fun _=>⟨rfl,h hs⟩⟩
  | false=>
    rw [ckTake_bad h9 h3 hs,e,hs]
    exact ⟨rfl,fun h=>by cases h⟩
theorem r10_bounds {s:CkT} {r:R10T} (hk:CkOk s) (hr:R10R s r) (h9:s.pos≠9):r.st≤9∧r.dg≤15∧r.ln≤200∧r.lns≤64∧0≤r.lf∧r.lf < 1152921504606846976∧(r.st=0→r.dg≤14→r.lf < 72057594037927936):=by
 obtain ⟨a1,a2,a3,a4,a5,a6⟩:=hr
 have hp:=hk.pos;have hd:=hk.dig;have hl:=hk.long;have ht:=hk.trail;have hs:=hk.size;have hf:=hk.fit
 refine ⟨?_,by omega,?_,by omega,by omega,by omega,fun h0 h14=>?_⟩
 ·rw [a1];split
  ·omega
  ·split
   ·split <;> omega
   ·omega
 ·rcases a6 with h | ⟨-,h⟩
  ·omega
  ·exact h
 ·rw [a1] at h0
  have hpos:s.pos=0:=by
   split at h0
   ·exact h0
   ·split at h0
    ·split at h0 <;> omega
    ·omega
  have:=(hf hpos).1
  rw [a4]
  have h2:16 ^ s.digits≤16 ^ 14:=Nat.pow_le_pow_right (by omega) (by omega)
  have h3:(16:Nat) ^ 14=72057594037927936:=by decide
  omega
theorem r10_done {s:CkT} {r:R10T} (hp:s.pos≤9) (hr:R10R s r):(r.st=10)↔s.pos=9:=by
 rw [hr.st]
 split
 ·omega
 ·split
  ·split <;> omega
  ·omega
end Go.Proofs.YtgfckbhkgggkeaaGreatDoor
/- XClient14 -/
namespace Go.Proofs.YtgfckbhkgggkeaaGreatDoor
open Lib (hid)
open Go.RowKit
def r13Cs (k:Nat) (lv:Int) (r:R10T) (en:Bool):Array Value:=#[.int .i64 (k:Nat),.int .i64 lv,.int .i64 (r.st:Nat),.int .i64 (r.dg:Nat),.int .i64 (r.ln:Nat),.int .i64 (r.lns:Nat),.int .i64 r.lf,.bool en]
def F13 (w:World) (g:Nat) (fr:FrT) (m:Nat):Prop:=∃(lv:Int) (r:R10T),Bk w g 100 (r13Cs fr.kind lv r fr.ended) (0,0)∧R10R fr.ck r∧(fr.kind=1→lv=fr.left)∧(fr.kind≠1→-(m:Int)≤lv∧lv≤0)
theorem F13.blk {w w':World} {g m:Nat} {fr:FrT} (h:F13 w g fr m) (hk:w'.heap[g]?=w.heap[g]?):F13 w' g fr m:=by
 obtain ⟨lv,r,h1,h2⟩:=h
 exact ⟨lv,r,h1.blk hk,h2⟩
def rdCs (wr hd dn:Int) (m t:List UInt8) (h:ClH) (fv fp bv:Value):Array Value:=#[.int .i64 wr,.int .i64 hd,str m,str t,.int .i64 h.st,fv,.int .i64 (h.kind:Nat),.int .i64 (h.size:Nat),bv,.int .i64 dn,.int .i64 (h.tells:Nat),.int .i64 h.fro,.int .i64 h.til,str h.bnd,fp]
def rd0Cs:Array Value:=#[.int .i64 0,.int .i64 0,str [],str [],.int .i64 0,.slice none 0 0,.int .i64 0,.int .i64 0,.slice none 0 0,.int .i64 0,.int .i64 0,.int .i64 0,.int .i64 0,str [],.pointer none]
def RdBad (w:World) (g:Nat):Prop:=∃c2 c3 c4 c5 c6 c7 c8 c9 c10 c11 c12 c13 c14:Value,Bk w g 44 #[.int .i64 2,.int .i64 0,c2,c3,c4,c5,c6,c7,c8,c9,c10,c11,c12,c13,c14] (0,0)
structure RdB (W0 w:World) (g:Nat) (S:List Nat) (wr dn:Int) (m t:List UInt8) (h:ClH) (fv fp bv:Value) (b:List UInt8):Prop where
 bk:Bk w g 44 (rdCs wr 1 dn m t h fv fp bv) (0,0)
 fs:FldsS w S fv h.fs
 own:OwnB W0 w S bv b
 fg:fv.ownBlock≠some g
 fb:h.fs=[]∨bv.ownBlock=none∨fv.ownBlock≠bv.ownBlock
theorem RdB.blk {W0 w w':World} {g:Nat} {S:List Nat} {wr dn:Int} {m t:List UInt8} {h:ClH} {fv fp bv:Value} {b:List UInt8} (i:RdB W0 w g S wr dn m t h fv fp bv b) (hg:g∈S) (hk:∀b∈S,w'.heap[b]?=w.heap[b]?) (hs:w.heap.size≤w'.heap.size):RdB W0 w' g S wr dn m t h fv fp bv b:=
 ⟨i.bk.blk (hk g hg),i.fs.blk hk hs,i.own.blk hk,i.fg,i.fb⟩
def RdAt (W0 w:World) (g:Nat) (S:List Nat) (fin:Bool):ClS→Prop
 | .head _=>Bk w g 44 rd0Cs (0,0)
 | .bad0=>RdBad w g
 | .body h fr b=>∃(m t:List UInt8) (fv bv:Value) (gf:Nat),RdB W0 w g S 0 (if frDone fr then 1 else 0) m t h fv (.pointer (some ⟨gf,0,none⟩)) bv b∧(fin=false→F13 w gf fr b.length∧gf∈S∧(h.fs=[]∨fv.ownBlock≠some gf))
 | .bad1 h b=>∃(dn:Int) (m t:List UInt8) (fv fp bv:Value),RdB W0 w g S 2 dn m t h fv fp bv b
structure RdR (W0 w:World) (g:Nat) (S:List Nat) (fin:Bool) (s:ClS):Prop where
 at_:RdAt W0 w g S fin s
 g:g∈S
 lo:∀k∈S,W0.heap.size≤k
 hi:∀k∈S,k < w.heap.size
 inv:ClInv s
theorem RdR.blk {W0 w w':World} {g:Nat} {S:List Nat} {fin:Bool} {s:ClS} (h:RdR W0 w g S fin s) (hk:∀b∈S,w'.heap[b]?=w.heap[b]?) (hs:w.heap.size≤w'.heap.size):RdR W0 w' g S fin s:=by
 refine ⟨?_,h.g,h.lo,fun k hk=>Nat.lt_of_lt_of_le (h.hi k hk) hs,h.inv⟩
 have ha:=h.at_
 cases s with
 | head raw=>exact Bk.blk ha (hk _ h.g)
 | bad0=>
   obtain ⟨c2,c3,c4,c5,c6,c7,c8,c9,c10,c11,c12,c13,c14,h2⟩:=ha
   exact ⟨c2,c3,c4,c5,c6,c7,c8,c9,c10,c11,c12,c13,c14,h2.blk (hk _ h.g)⟩
 | body hh fr b=>
   obtain ⟨m,t,fv,bv,gf,h1,h2⟩:=ha
   exact ⟨m,t,fv,bv,gf,h1.blk h.g hk hs,fun he=>⟨(h2 he).1.blk (hk _ (h2 he).2.1),(h2 he).2⟩⟩
 | bad1 hh b=>
   obtain ⟨dn,m,t,fv,fp,bv,h2⟩:=ha
   exact ⟨dn,m,t,fv,fp,bv,h2.blk h.g hk hs⟩
theorem RdR.gr {W0 w w':World} {g:Nat} {S:List Nat} {fin:Bool} {s:ClS} (h:RdR W0 w g S fin s) (k:Gr w w'):RdR W0 w' g S fin s:=h.blk (fun b hb=>k.block b (h.hi b hb)) k.size
theorem RdR.stp {W0 w w':World} {g:Nat} {S T T':List Nat} {fin:Bool} {s:ClS} (h:RdR W0 w g S fin s) (k:Stp w T w' T') (hd:∀b∈S,b∉T):RdR W0 w' g S fin s:=h.blk (fun b hb=>k.keeps (h.hi b hb) (hd b hb)) k.kr.size
theorem fold_nohead (asked:List UInt8):∀(l:List UInt8) (s:ClS),(∀r,s≠.head r)→∀r,l.foldl (clByte asked) s≠.head r
 | [],_,h=>h
 | c::l,s,h=>by
   refine fold_nohead asked l (clByte asked s c) ?_
   cases s with
   | head r=>exact absurd rfl (h r)
   | bad0=>intro r e;cases e
   | body hh fr b=>
     intro r e
     have e:bodyB1 hh fr b c=.head r:=e
     unfold bodyB1 at e
     repeat (first | split at e | cases e)
   | bad1 hh b=>intro r e;cases e
theorem heedR_nohead (asked:List UInt8) (st:Int) (fs:List Fld):∀r,heedR asked st fs≠.head r:=by
 intro r e
 unfold heedR rangedR at e
 repeat (first | split at e | cases e)
theorem fold_raw (asked:List UInt8):∀(l p r:List UInt8),l.foldl (clByte asked) (.head p)=.head r→r=p++l
 | [],p,r,h=>by simp only [List.foldl_nil,ClS.head.injEq] at h;simp [h]
 | c::l,p,r,h=>by
   rw [List.foldl_cons,clByte_head] at h
   by_cases h3:(tellR (p++[c])).2.2=3
   ·rw [if_pos h3] at h
    have:=fold_raw asked l (p++[c]) r h
    simpa using this
   ·rw [if_neg h3] at h
    by_cases h0:(tellR (p++[c])).2.2=0
    ·rw [if_pos h0] at h;exact absurd h (fold_nohead asked l _ (heedR_nohead asked _ _) r)
    ·rw [if_neg h0] at h;exact absurd h (fold_nohead asked l _ (fun r e=>by cases e) r)
theorem now_raw {asked l r:List UInt8} (h:nowL asked l=.head r):r=l:=by simpa using fold_raw asked l [] r h
end Go.Proofs.YtgfckbhkgggkeaaGreatDoor
