/- Parts. No conditions but those that each theorem names. -/
import Derived.Test.YtflepnkpihfidaaGreatDoorJTopB
import Derived.Test.YtflepnkpihfidaaGreatDoorMulti20
import Derived.Deep.CutBlock
import Derived.Test.YtflepnkpihfidaaGreatDoorJTopL
set_option linter.unusedVariables false
set_option linter.unusedSimpArgs false
namespace Go.Proofs.YtflepnkpihfidaaGreatDoor
open Lib (hid)
open Go.RowKit
def AnsEnd (a:AnsT) (W0:World) (e:Ending) (w':World):Prop:=∃A c vp,e=.returned (.agg #[.int .i64 a.1,.slice A a.2.1.length c,vp,.int .i64 a.2.2.2])∧Own W0 w' 127 2 (.slice A a.2.1.length c) a.2.1.length (flat2 a.2.1)∧Parts w' vp a.2.2.1∧(a.2.2.1=[]→vp=.slice none 0 0)∧Gr W0 w'
theorem al_size (x:World) (o:Obj):(x.alloc o).heap.size=x.heap.size+1:=by show (x.heap.push _).size=_;simp
theorem box4w (w:World) (c1 c2 c3 c4:Array Value) (t1 t2 t3 t4:TypeId):let w4:=(((w.alloc (Obj.cells c1 t1)).alloc (Obj.cells c2 t2)).alloc (Obj.cells c3 t3)).alloc (Obj.cells c4 t4)
  Bk w4 w.heap.size t1 c1 (0,0)∧Bk w4 (w.heap.size+1) t2 c2 (0,0)∧Bk w4 (w.heap.size+2) t3 c3 (0,0)∧Bk w4 (w.heap.size+3) t4 c4 (0,0)∧Gr w w4:=by
 have e1:(w.alloc (Obj.cells c1 t1)).heap.size=w.heap.size+1:=al_size _ _
 have e2:((w.alloc (Obj.cells c1 t1)).alloc (Obj.cells c2 t2)).heap.size=w.heap.size+2:=by simp only [al_size]
 have e3:(((w.alloc (Obj.cells c1 t1)).alloc (Obj.cells c2 t2)).alloc (Obj.cells c3 t3)).heap.size=w.heap.size+3:=by simp only [al_size]
 refine ⟨(Bk.new w t1 c1 (0,0)).gr (Gr.al (Gr.al (Gr.al (Gr.refl _) _) _) _),?_,?_,?_,Gr.al (Gr.al (Gr.al (Gr.al (Gr.refl _) _) _) _) _⟩
 ·rw [←e1];exact (Bk.new _ t2 c2 (0,0)).gr (Gr.al (Gr.al (Gr.refl _) _) _)
 ·rw [←e2];exact (Bk.new _ t3 c3 (0,0)).gr (Gr.al (Gr.refl _) _)
 ·rw [←e3];exact Bk.new _ t4 c4 (0,0)
def rangedF (F:List Fld) (l:List SpecT) (m:MetaT) (seed:Int):AnsT:=
 if resL l m.hv=[] then (416,F++[(crN,starN++Lib.itoa (if m.len= -1 then m.hv else m.len))],[],0)
 else (206,F++(partsOf (foldL (resL l m.hv)) m seed).1,(partsOf (foldL (resL l m.hv)) m seed).2,sizePs (partsOf (foldL (resL l m.hv)) m seed).2)
theorem rangedF_eq (l:List SpecT) (m:MetaT) (seed:Int):rangedF (metaF m) l m seed=rangedL l m seed:=rfl
end Go.Proofs.YtflepnkpihfidaaGreatDoor
namespace Go.Proofs.YtflepnkpihfidaaGreatDoor
open Lib (hid)
open Go.RowKit
theorem ansNeF:(37:Nat)≠127:=by decide
theorem ansEnd_of {W0 w':World} {RF:AnsT} {st sz:Int} {FX:List Fld} {ps:List PartT} {A:Option Addr} {c:Nat} {vp:Value} (he:RF=(st,FX,ps,sz)) (ho:Own W0 w' 127 2 (.slice A FX.length c) FX.length (flat2 FX)) (hp:Parts w' vp ps) (hn:ps=[]→vp=.slice none 0 0) (hg:Gr W0 w') :
  AnsEnd RF W0 (.returned (.agg #[.int .i64 st,.slice A FX.length c,vp,.int .i64 sz])) w':=by subst he;exact ⟨A,c,vp,rfl,ho,hp,hn,hg⟩
theorem putCs_own {W0:World} {e:TypeId} {size n g:Nat} {v:Value} {xs:List Value} (hne:v.ownBlock≠some g):∀(l:List Value) (i:Nat) (w:World),Own W0 w e size v n xs→Own W0 (putCs w g l i) e size v n xs
 | [],_,_,h=>h
 | u::r,i,w,h=>putCs_own hne r (i+1) _ (Own.set h hne i u)
theorem parts_nil (w:World):Parts w (.slice none 0 0) []:=⟨none,0,rfl,by simp,by simp,.inl rfl⟩
def KeepT (w w':World) (ty:TypeId):Prop:=∀k t cs fr,t≠ty→Bk w k t cs fr→Bk w' k t cs fr
theorem KeepT.gr {w w':World} {ty:TypeId} (g:Gr w w'):KeepT w w' ty:=fun _ _ _ _ _ h=>h.gr g
theorem KeepT.to {w x y:World} {ty:TypeId} (h:KeepT w x ty) (g:Gr x y):KeepT w y ty:=fun k t cs fr h1 h2=>(h k t cs fr h1 h2).gr g
theorem KeepT.put {w x y:World} {ty:TypeId} {gl:Nat} (h:KeepT w x ty) (hK:KeepB x y gl ty) (hgl:w.heap.size≤gl):KeepT w y ty:=fun k t cs fr h1 h2=>hK k t cs fr h1 (by have:=h2.lt;omega) (h k t cs fr h1 h2)
theorem KeepT.st {w x:World} {ty:TypeId} {gl:Nat} (h:KeepT w x ty) (hgl:w.heap.size≤gl) (i:Nat) (u:Value):KeepT w (x.setCell ⟨gl,i,none⟩ u) ty:=fun k t cs fr h1 h2=>(h k t cs fr h1 h2).far (p:=⟨gl,i,none⟩) (by have:=h2.lt;simp only;omega) u
theorem KeepT.puts {w:World} {ty:TypeId} {gl:Nat} (hgl:w.heap.size≤gl):∀(l:List Value) (i:Nat) (x:World),KeepT w x ty→KeepT w (putCs x gl l i) ty
 | [],_,_,h=>h
 | v::r,i,x,h=>KeepT.puts hgl r (i+1) _ (h.st hgl i v)
theorem ans_put {W0 w wy:World} {gr:Nat} {cs:Array Value} {st sz:Int} {A:Option Addr} {c:Nat} {vp:Value} {FX:List Fld} {ps:List PartT} (hwy:wy=putCs w gr [.int .i64 st,.slice A FX.length c,vp,.int .i64 sz] 0) (hb:Bk w gr 37 cs (0,0)) (hcs:cs.size=4) (hlo:W0.heap.size≤gr) (hG:Gr W0 w)
  (ho:Own W0 w 127 2 (.slice A FX.length c) FX.length (flat2 FX)) (hp:Parts w vp ps) (hne:vp.ownBlock≠some gr) {w1:World} (hk:KeepT w1 w 127) (hlo1:w1.heap.size≤gr) :
  Bk wy gr 37 #[.int .i64 st,.slice A FX.length c,vp,.int .i64 sz] (0,0)∧Own W0 wy 127 2 (.slice A FX.length c) FX.length (flat2 FX)∧Parts wy vp ps∧Gr W0 wy∧KeepT w1 wy 127:=by
 subst hwy
 exact ⟨putCs_bk hb hcs,putCs_own (own_ne_ty ho hb ansNeF) _ _ _ ho,putCs_sl hne _ _ _ hp,putCs_gr hlo _ _ _ hG,KeepT.puts hlo1 _ _ _ hk⟩
theorem parts_ne_ans {w:World} {vp:Value} {ps:List PartT} {gr:Nat} {t:TypeId} {a b:Int} {A B:Option Addr} {n1 n2 c1 c2:Nat} (hp:Parts w vp ps) (hps:ps≠[]) (hb:Bk w gr t #[.int .i64 a,.slice A n1 c1,.slice B n2 c2,.int .i64 b] (0,0)):vp.ownBlock≠some gr:=by
 obtain ⟨A',c',rfl,_,_,ho⟩:=hp.open
 obtain ⟨k,o,rfl,_,h0,_,_⟩:=ho 0 (List.length_pos_iff.2 hps)
 intro h
 have hk:k=gr:=by simpa [Value.ownBlock] using h
 subst hk
 rw [Nat.zero_mul,Nat.add_zero,hb.cell] at h0
 rcases o with _ | _ | _ | _ | o <;> simp [str] at h0
theorem partsB_ok {tot N:Int} {kind bnd:List UInt8} (hN:N≤1099511627776) (hk:kind.length≤1000) (hb:bnd.length≤1000):∀{l:List (Int×Int)} (_:∀s∈l,InS N s) {ah:List UInt8} (_:ah.length≤2),∀p∈partsB tot kind bnd l ah,(p.1=[]→0≤p.2.1∧p.2.1≤p.2.2∧p.2.2≤1099511627776)∧p.1.length≤1000000
 | [],_,_,_,p,hp=>by simp [partsB] at hp
 | s::l,h,ah,hah,p,hp=>by
   simp only [partsB,List.mem_cons] at hp
   have hs:=h s (by simp)
   rcases hp with rfl | rfl | hp
   ·refine ⟨fun _=>⟨Int.le_refl 0,Int.le_refl 0,show (0:Int)≤1099511627776 by decide⟩,?_⟩
    have hc:=cont_len s.1 s.2 tot
    have ht:typeN.length≤20:=by decide
    have hr:rangeN.length≤20:=by decide
    simp only [ptext,List.length_append,List.length_cons,List.length_nil]
    omega
   ·have h1:=hs.lo;have h2:=hs.lt;have h3:=hs.hi
    exact ⟨fun _=>⟨h1,by simp only;omega,by simp only;omega⟩,by simp⟩
   ·exact partsB_ok hN hk hb (fun x hx=>h x (List.mem_cons_of_mem _ hx)) (by simp) p hp
theorem partsOf_ok {S:List (Int×Int)} {N:Int} (m:MetaT) (seed:Int) (h:∀s∈S,InS N s) (hN:N≤1099511627776) (hl:S.length≤12):PartsOkS (partsOf S m seed).2:=by
 have hL:PartsOkS (partsL m.len kindO (boundN seed) S):=by
  have hb:(boundN seed).length≤1000:=by rw [boundN_len];decide
  have h1:=partsB_ok (tot:=m.len) (kind:=kindO) (bnd:=boundN seed) hN (by decide) hb h (ah:=[]) (by simp)
  have hE:∀p:PartT,p∈partsL m.len kindO (boundN seed) S→(p.1=[]→0≤p.2.1∧p.2.1≤p.2.2∧p.2.2≤1099511627776)∧p.1.length≤1000000:=by
   intro p hp
   unfold partsL at hp
   rcases List.mem_append.1 hp with hp | hp
   ·exact h1 p hp
   ·have:p=(endL (boundN seed),0,0):=by simpa using hp
    subst this
    refine ⟨fun _=>⟨Int.le_refl 0,Int.le_refl 0,show (0:Int)≤1099511627776 by decide⟩,?_⟩
    simp only [endL,List.length_append,List.length_cons,List.length_nil]
    omega
  refine ⟨fun p hp=>(hE p hp).1,fun p hp=>(hE p hp).2,?_⟩
  unfold partsL
  rw [List.length_append,partsB_len];simp;omega
 rcases S with _ | ⟨s,_ | ⟨t,r⟩⟩
 ·exact hL
 ·have hs:=h s (by simp)
  have h1:=hs.lo;have h2:=hs.lt;have h3:=hs.hi
  refine ⟨fun p hp _=>?_,fun p hp=>?_,by simp [partsOf]⟩
  ·have:p=([],s.1,s.2):=by simpa [partsOf] using hp
   subst this
   exact ⟨h1,by simp only;omega,by simp only;omega⟩
  ·have:p=([],s.1,s.2):=by simpa [partsOf] using hp
   subst this;simp
 ·exact hL
theorem partsOf_more {S:List (Int×Int)} (m:MetaT) (seed:Int) (h:S.length≠1):partsOf S m seed=([(ctN,sevN++boundN seed)],partsL m.len kindO (boundN seed) S):=by
 rcases S with _ | ⟨s,_ | ⟨t,r⟩⟩
 ·rfl
 ·simp at h
 ·rfl
theorem partsOf_ne (S:List (Int×Int)) (m:MetaT) (seed:Int):(partsOf S m seed).2≠[]:=by
 rcases S with _ | ⟨s,_ | ⟨t,r⟩⟩ <;> simp [partsOf,partsL]
theorem ans_ne {w:World} {vp:Value} {ps:List PartT} {gr:Nat} {t:TypeId} {a b:Int} {A B:Option Addr} {n1 n2 c1 c2:Nat} (hp:Parts w vp ps) (hn:ps=[]→vp=.slice none 0 0) (hb:Bk w gr t #[.int .i64 a,.slice A n1 c1,.slice B n2 c2,.int .i64 b] (0,0)):vp.ownBlock≠some gr:=by
 by_cases h:ps=[]
 ·rw [hn h];simp [Value.ownBlock]
 ·exact parts_ne_ans hp h hb
theorem contB_meta {m:MetaT} (hm:MetaOk m) {s:Int×Int} (h:InS m.hv s):contB s.1 s.2 m.len=true:=by
 have h1:=h.lo;have h2:=h.lt;have h3:=h.hi
 have h4:=hm.hl;have h5:=hm.len;have h6:=hm.hv
 unfold contB spanB
 simp;omega
theorem partsL_ne (tot:Int) (kind bnd:List UInt8) (l:List (Int×Int)):partsL tot kind bnd l≠[]:=by unfold partsL;simp
theorem own_keep {W0 x x':World} {e:TypeId} {size n:Nat} {v:Value} {xs:List Value} {gl:Nat} {ty:TypeId} (h:Own W0 x e size v n xs) (hk:KeepB x x' gl ty) (hne:e≠ty) (hgl:v.ownBlock≠some gl):Own W0 x' e size v n xs:=by
 refine ⟨h.1,?_⟩
 rcases h.2 with h0 | ⟨b,cap,cur,hv,hb,hh,h1,h2,h3,h4⟩
 ·exact .inl h0
 ·exact .inr ⟨b,cap,cur,hv,hb,hk b e cur (0,0) hne (fun e=>hgl (by rw [hv,←e];rfl)) hh,h1,h2,h3,h4⟩
theorem PutG.st {W x:World} {gl k:Nat} {F:List Fld} {t:TypeId} {cs:Array Value} {fr:Nat×Nat} (h:PutG W gl F x) (hb:Bk x k t cs fr) (hk:gl≠k) (ht:t≠127) (hlo:W.heap.size≤k) (i:Nat) (u:Value):PutG W gl F (x.setCell ⟨k,i,none⟩ u):=by
 obtain ⟨v,h1,h2⟩:=h.row
 exact ⟨h.gr.st (p:=⟨k,i,none⟩) hlo u,h.lo,v,h1.far (p:=⟨k,i,none⟩) hk u,Own.set h2 (own_ne_ty h2 hb ht) i u⟩
theorem own_cell0 {W0 w:World} {S:List (Int×Int)} {b c:Nat} {s:Int×Int} (h:Own W0 w 48 2 (.slice (some ⟨b,0,none⟩) S.length c) S.length (spansV S)) (hS:S=[s]):w.cell? ⟨b,0,none⟩=some (.int .i64 s.1)∧w.cell? ⟨b,1,none⟩=some (.int .i64 s.2):=by
 subst hS
 exact ⟨(own_cell h (j:=0) rfl).1,(own_cell h (j:=1) rfl).1⟩
theorem spanNeF:(48:Nat)≠127:=by decide
end Go.Proofs.YtflepnkpihfidaaGreatDoor
namespace Go.Proofs.YtflepnkpihfidaaGreatDoor
open Lib (hid)
open Go.RowKit
set_option maxHeartbeats 16000000 in
set_option maxRecDepth 100000 in
theorem rangedS_any (q:ReqT) (m:MetaT) (vs vm vn vk:Value) (A0:Option Addr) (c0:Nat) (F:List Fld) (seed:Int) (W0 w:World) (hs:Specs w vs q.2.2.1) (hsl:q.2.2.1.length≤12) (hm:MetaOk m) (hG:Gr W0 w) (hF:Own W0 w 127 2 (.slice A0 F.length c0) F.length (flat2 F)) (hFl:F.length≤50) (hv:VarsW W0) (hz:Tz W0) :
  Calls Tryz.prog 72 #[reqV q vs vm vn,metaV m vk,.slice A0 F.length c0,.int .i64 seed] w (fun e w'=>AnsEnd (rangedF F q.2.2.1 m seed) W0 e w'∧KeepT w w' 127):=by
 obtain ⟨ok,hok⟩:∃ok,ok=decide (0 < (resL q.2.2.1 m.hv).length):=⟨_,rfl⟩
 have HRS0:=fun (x:World) (g:Gr w x)=>resolve_any vs q.2.2.1 m.hv x (hs.gr g) (by omega) hm.hv
 unfold ResEnd at HRS0
 rw [←hok] at HRS0
 have HRI0:∀s∈resL q.2.2.1 m.hv,InS m.hv s:=resL_in
 have HRL0:(resL q.2.2.1 m.hv).length≤12:=Nat.le_trans (resL_len _ _) hsl
 have HX00:=fun (h:resL q.2.2.1 m.hv=[])=>show rangedF F q.2.2.1 m seed=(416,F++[(crN,starN++Lib.itoa (if m.len= -1 then m.hv else m.len))],[],0) from if_pos h
 have HX10:=fun (h:resL q.2.2.1 m.hv≠[])=>show rangedF F q.2.2.1 m seed=(206,F++(partsOf (foldL (resL q.2.2.1 m.hv)) m seed).1,(partsOf (foldL (resL q.2.2.1 m.hv)) m seed).2,sizePs (partsOf (foldL (resL q.2.2.1 m.hv)) m seed).2) from if_neg h
 generalize rangedF F q.2.2.1 m seed=RF at *
 generalize resL q.2.2.1 m.hv=R at *
 have HFL:=hid (fun (n:Int) (h:0≤n∧n≤1099511627776) (x:World) (g:Gr W0 x)=>fmtInt_any n x (hv.pw.gr g) (by omega) (by omega))
 have HPO:=hid (fun (S:List (Int×Int)) (h:∀s∈S,InS m.hv s) (hl:S.length≤12)=>partsOf_ok m seed h hm.hv.2 hl)
 have HPM:=hid (fun (S:List (Int×Int)) (h:S.length≠1)=>partsOf_more (S:=S) m seed h)
 have HP1:=hid (fun (s:Int×Int)=>show partsOf [s] m seed=([(crN,contentL s.1 s.2 m.len)],[([],s.1,s.2)]) from rfl)
 have HCB:=hid (fun (s:Int×Int) (h:InS m.hv s)=>contB_meta hm h)
 have HML:=hid hm.len
 have HMV:=hid hm.hv
 have HMH:=hid hm.hl
 have HBD:=hid (fun (x:World) (g:Gr W0 x)=>boundary_any seed x (hz.gr g))
 have HCT:=hid (fun (s:Int×Int) (x:World) (g:Gr W0 x) (h:InS m.hv s)=>content_any s.1 s.2 m.len x (hv.pw.gr g) (by have:=h.lo;have:=h.lt;have:=h.hi;have:=hm.hv;omega) (by have:=h.lo;have:=h.lt;have:=h.hi;have:=hm.hv;omega) (by have:=hm.len;omega))
 have HPA:=hid (fun (S:List (Int×Int)) (u:Value) (x:World) (g:Gr W0 x) (h:Spans x u S) (hi:∀s∈S,InS m.hv s) (hl:S.length≤12) (hne:S≠[])=>show Calls Tryz.prog 148 #[u,.int .i64 m.len,str kindO,str (boundN seed)] x (fun e w'=>Gr x w'∧∃v,e=.returned (.tuple #[v,.int .i64 0])∧Parts w' v (partsL m.len kindO (boundN seed) S)) from by
  have h1:=parts_any u S m.len kindO (boundN seed) x (hv.gr g) h (by omega) (fun s hs=>by have hh:=hi s hs;have:=hh.lo;have:=hh.lt;have:=hh.hi;have:=hm.hv;omega) (by have:=hm.len;omega) (by decide) (by rw [boundN_len];decide)
  have h2:partsOk m.len kindO (boundN seed) S=true:=by
   rw [partsOk_rest hne (List.all_eq_true.2 fun s hs=>contB_meta hm (hi s hs)),boundN_ok]
   decide
  rw [h2] at h1
  exact h1)
 have HRS:=hid HRS0;have HRI:=hid HRI0;have HRL:=hid HRL0;have HX0:=hid HX00;have HX1:=hid HX10;have HOK:=hid hok
 clear HRS0 HRI0 HRL0 HX00 HX10 hok hs hsl hm hv hz
 obtain ⟨hd,ob,sp,cd⟩:=q
 obtain ⟨⟨tg,tk⟩,mod,len,hv,fr,wh,er,keys,ten,kp⟩:=m
 unfold reqV metaV metaCs
 simp only at HRS ⊢
 go_enter Tryz.func72,Tryz.ntmps72
 go_upto_region 1 with fail
 refine at_world (P:=Code.wp _ _ _ _) (w0:=(((w.alloc (Obj.cells #[.bool hd,str ob,vs,vm,vn,.bool cd.am,.bool cd.an,.int .i64 cd.si,.int .i64 cd.un,str cd.rg.1,.bool cd.rg.2] 29)).alloc (Obj.cells #[str tg,.bool tk,.int .i64 mod,.int .i64 len,.int .i64 hv,.int .i64 fr,.int .i64 wh,.int .i64 er,vk,str ten,.bool kp] 66)).alloc (Obj.cells #[.slice A0 F.length c0] 34)).alloc (Obj.cells #[.int .i64 0,.slice none 0 0,.slice none 0 0,.int .i64 0] 37)) ?_
 intro w4 hw4
 obtain ⟨b0,b1,b2,b3,hg4⟩:=box4w w #[.bool hd,str ob,vs,vm,vn,.bool cd.am,.bool cd.an,.int .i64 cd.si,.int .i64 cd.un,str cd.rg.1,.bool cd.rg.2] #[str tg,.bool tk,.int .i64 mod,.int .i64 len,.int .i64 hv,.int .i64 fr,.int .i64 wh,.int .i64 er,vk,str ten,.bool kp] #[.slice A0 F.length c0] #[.int .i64 0,.slice none 0 0,.slice none 0 0,.int .i64 0] 29 66 34 37
 rw [←hw4] at b0 b1 b2 b3 hg4
 clear hw4
 generalize hgq:w.heap.size=g at *
 have HG4:=hid hg4
 have HLW:=hid (show w.heap.size≤g+1+1+1 from by omega)
 have HLF:=hid (show w.heap.size≤g+1+1 from by omega)
 have HW0:=hid hG
 have q2:w4.cell? ⟨g,2,none⟩=some vs:=b0.cell 2
 have q3:w4.cell? ⟨g+1,4,none⟩=some (.int .i64 hv):=b1.cell 4
 have HP:=hid (show PutG W0 (g+1+1) F w4 from ⟨Gr.tr hG hg4,by have:=hG.size;omega,_,b2,hF.gr hg4⟩)
 have HB1:=hid b1
 have HB3:=hid (show Bk w4 (g+1+1+1) 37 #[.int .i64 0,.slice none 0 0,.slice none 0 0,.int .i64 0] (0,0) from b3)
 have HLO:=hid (show W0.heap.size≤g+1+1+1 from by have:=hG.size;omega)
 clear b0 b1 b2 b3 hg4 hG hF
 go_upto_region 3 with (go_at_call 144;refine (HRS.out _ HG4.out).mono ?_;rintro e w5 ⟨A5,c5,rfl,hO5,hg5⟩)
 have HG5:=hid (Gr.tr HG4.out hg5)
 have HP5:=hid (HP.out.to hg5)
 have HB15:=hid (HB1.out.gr hg5)
 have HB35:=hid (HB3.out.gr hg5)
 have HFO:=hid (fold_any _ R hv w5 (hO5.sl (by decide)) HRI.out HMV.out.2 HRL.out)
 clear hO5 hg5 HP HB1 HB3 HG4 HRS q2 q3
 have HSI:=hid (foldL_in HRI.out).1
 have HSL:=hid (Nat.le_trans (foldL_in HRI.out).2.1 HRL.out)
 have HSN:=hid (foldL_in HRI.out).2.2
 clear HRI HRL
 generalize foldL R=S at *
 go_upto_region 4 with (go_at_call 146;refine HFO.out.mono ?_;rintro e w6 ⟨A6,c6,rfl,hO6,hg6⟩)
 have HG6:=hid (Gr.tr HG5.out hg6)
 have HP6:=hid (HP5.out.to hg6)
 have HB16:=hid (HB15.out.gr hg6)
 have HB36:=hid (HB35.out.gr hg6)
 have HO6:=hid hO6
 clear hO6 hg6 HFO HP5 HB15 HB35 HG5
 cases ok with
 | false=>
   have HE0:=hid (HX0.out (List.eq_nil_of_length_eq_zero (by have:=HOK.out;simp at this;simpa using this)))
   have q3:w6.cell? ⟨g+1,3,none⟩=some (.int .i64 len):=HB16.out.cell 3
   have q4:w6.cell? ⟨g+1,4,none⟩=some (.int .i64 hv):=HB16.out.cell 4
   clear HX0 HX1 HPO HPM HP1 HCB HBD HCT HPA HSI HSL HSN HO6 HOK
   by_cases hm1:len= -1
   ·have k0:(len==-1)=true:=by simp [hm1]
    have HFX:=hid (HFL.out hv (by exact HMV.out))
    have HE1:=hid (show RF=(416,F++[(crN,starN++Lib.itoa hv)],[],0) from HE0.out.trans (by rw [if_pos hm1]))
    have HPT:=hid (fun (x:World) (h:PutG W0 (g+1+1) F x)=>putR_any crN (starN++Lib.itoa hv) W0 x (g+1+1) F h (by omega))
    obtain ⟨FX,hFX⟩:∃FX,FX=F++[(crN,starN++Lib.itoa hv)]:=⟨_,rfl⟩
    rw [←hFX] at HE1 HPT
    have hil:=itoa_len_int (x:=hv) (HMV.out).1 (by have:=(HMV.out).2;omega)
    clear hFX HE0 hm1 HFL
    generalize Lib.itoa hv=its at *
    go_upto_region 9 with (first
     | (go_at_call 119;refine (HFX.out _ HP6.out.gr).mono ?_;rintro e w7 ⟨rfl,hg7⟩;have HP7:=hid (HP6.out.to hg7);have HB37:=hid (HB36.out.gr hg7);have HG7:=hid hg7;clear hg7)
     | (go_at_call 145;refine (HPT.out _ HP7.out).mono ?_;rintro e w8 ⟨rfl,hP8,hK8⟩;have HP8:=hid hP8;have HB38:=hid (hK8 _ _ _ _ ansNeF (by omega) HB37.out);have HK8:=hid (KeepT.put (KeepT.gr (Gr.tr HG6.out HG7.out)) hK8 HLF.out);clear hP8 hK8))
    obtain ⟨v8,hb8,ho8⟩:=HP8.out.row
    obtain ⟨A8,c8,rfl⟩:=ho8.form
    have qf:w8.cell? ⟨g+1+1,0,none⟩=some (.slice A8 FX.length c8):=hb8.cell 0
    have HO8:=hid ho8
    have HG8:=hid HP8.out.gr
    clear hb8 ho8
    obtain ⟨z0,z1,z2,z3⟩:=HB38.out.cells4
    obtain ⟨f0,f1,f2,f3⟩:=HB38.out.free4
    go_wp2_with fail
    refine at_world (P:=bodyPost _ _ _ _ _) (w0:=putCs w8 (g+1+1+1) [.int .i64 416,.slice A8 FX.length c8,.slice none 0 0,.int .i64 0] 0) ?_
    intro wy hwy
    obtain ⟨hy,hoy,hpy,hgy,hky⟩:=ans_put hwy HB38.out rfl HLO.out HG8.out HO8.out (parts_nil _) (by simp [Value.ownBlock]) HK8.out HLW.out
    clear hwy
    obtain ⟨yz0,yz1,yz2,yz3⟩:=hy.cells4
    refine bodyPost_ret (v:=.agg #[.int .i64 416,.slice A8 FX.length c8,.slice none 0 0,.int .i64 0]) (by simp [results,Tryz.results72,go_sem,yz0,yz1,yz2,yz3]) rfl ?_
    exact ⟨ansEnd_of HE1.out hoy hpy (fun _=>rfl) hgy,hky⟩
   ·have k0:(len==-1)=false:=by simp [hm1]
    have HFX:=hid (HFL.out len (by have:=HML.out;omega))
    have HE1:=hid (show RF=(416,F++[(crN,starN++Lib.itoa len)],[],0) from HE0.out.trans (by rw [if_neg hm1]))
    have HPT:=hid (fun (x:World) (h:PutG W0 (g+1+1) F x)=>putR_any crN (starN++Lib.itoa len) W0 x (g+1+1) F h (by omega))
    obtain ⟨FX,hFX⟩:∃FX,FX=F++[(crN,starN++Lib.itoa len)]:=⟨_,rfl⟩
    rw [←hFX] at HE1 HPT
    have hil:=itoa_len_int (x:=len) ((show 0≤len∧len≤1099511627776 from by have:=HML.out;omega)).1 (by have:=((show 0≤len∧len≤1099511627776 from by have:=HML.out;omega)).2;omega)
    clear hFX HE0 hm1 HFL
    generalize Lib.itoa len=its at *
    go_upto_region 9 with (first
     | (go_at_call 119;refine (HFX.out _ HP6.out.gr).mono ?_;rintro e w7 ⟨rfl,hg7⟩;have HP7:=hid (HP6.out.to hg7);have HB37:=hid (HB36.out.gr hg7);have HG7:=hid hg7;clear hg7)
     | (go_at_call 145;refine (HPT.out _ HP7.out).mono ?_;rintro e w8 ⟨rfl,hP8,hK8⟩;have HP8:=hid hP8;have HB38:=hid (hK8 _ _ _ _ ansNeF (by omega) HB37.out);have HK8:=hid (KeepT.put (KeepT.gr (Gr.tr HG6.out HG7.out)) hK8 HLF.out);clear hP8 hK8))
    obtain ⟨v8,hb8,ho8⟩:=HP8.out.row
    obtain ⟨A8,c8,rfl⟩:=ho8.form
    have qf:w8.cell? ⟨g+1+1,0,none⟩=some (.slice A8 FX.length c8):=hb8.cell 0
    have HO8:=hid ho8
    have HG8:=hid HP8.out.gr
    clear hb8 ho8
    obtain ⟨z0,z1,z2,z3⟩:=HB38.out.cells4
    obtain ⟨f0,f1,f2,f3⟩:=HB38.out.free4
    go_wp2_with fail
    refine at_world (P:=bodyPost _ _ _ _ _) (w0:=putCs w8 (g+1+1+1) [.int .i64 416,.slice A8 FX.length c8,.slice none 0 0,.int .i64 0] 0) ?_
    intro wy hwy
    obtain ⟨hy,hoy,hpy,hgy,hky⟩:=ans_put hwy HB38.out rfl HLO.out HG8.out HO8.out (parts_nil _) (by simp [Value.ownBlock]) HK8.out HLW.out
    clear hwy
    obtain ⟨yz0,yz1,yz2,yz3⟩:=hy.cells4
    refine bodyPost_ret (v:=.agg #[.int .i64 416,.slice A8 FX.length c8,.slice none 0 0,.int .i64 0]) (by simp [results,Tryz.results72,go_sem,yz0,yz1,yz2,yz3]) rfl ?_
    exact ⟨ansEnd_of HE1.out hoy hpy (fun _=>rfl) hgy,hky⟩
 | true=>
   have hRne:R≠[]:=List.ne_nil_of_length_pos (by have:=HOK.out;simpa using this)
   have HE0:=hid (HX1.out hRne)
   have HSE:=hid (HSN.out hRne)
   have HQO:=hid (HPO.out S HSI.out HSL.out)
   have HPMS:=hid (HPM.out S)
   obtain ⟨FX,hFX⟩:∃FX,FX=F++(partsOf S ⟨(tg,tk),mod,len,hv,fr,wh,er,keys,ten,kp⟩ seed).1:=⟨_,rfl⟩
   obtain ⟨PS,hPS⟩:∃PS,PS=(partsOf S ⟨(tg,tk),mod,len,hv,fr,wh,er,keys,ten,kp⟩ seed).2:=⟨_,rfl⟩
   rw [←hFX,←hPS] at HE0
   rw [←hPS] at HQO
   have HPSN:=hid (show PS≠[] from by rw [hPS];exact partsOf_ne _ _ _)
   have HMORE:=hid (fun (h:S.length≠1)=>show FX=F++[(ctN,sevN++boundN seed)]∧PS=partsL len kindO (boundN seed) S from by rw [hFX,hPS,HPMS.out h];exact ⟨rfl,rfl⟩)
   have HONE:=hid (fun (s:Int×Int) (h:S=[s])=>show FX=F++[(crN,contentL s.1 s.2 len)]∧PS=[([],s.1,s.2)] from by rw [hFX,hPS,h];exact ⟨rfl,rfl⟩)
   have hlt:=HB36.out.lt
   clear hFX hPS HPMS HX0 HX1 HPO HPM HP1 HCB HSN HOK hRne HFL
   go_upto_region 11 with fail
   have hbA:=Bk.new w6 37 #[.int .i64 206,.slice none 0 0,.slice none 0 0,.int .i64 0] (0,0)
   have hgA:=Gr.al (Gr.refl w6) (Obj.cells #[.int .i64 206,.slice none 0 0,.slice none 0 0,.int .i64 0] 37)
   have HP7:=hid (HP6.out.to hgA)
   have HB17:=hid (HB16.out.gr hgA)
   have HB37:=hid (HB36.out.gr hgA)
   have HO7:=hid (HO6.out.gr hgA)
   have HLA:=hid (show W0.heap.size≤w6.heap.size from HP6.out.gr.size)
   have HLB:=hid (show w.heap.size≤w6.heap.size from HG6.out.size)
   have HK7:=hid (Gr.tr HG6.out hgA)
   generalize w6.alloc (Obj.cells #[.int .i64 206,.slice none 0 0,.slice none 0 0,.int .i64 0] 37)=w7 at *
   generalize w6.heap.size=gA at *
   have HA7:=hid hbA
   clear hbA hgA HP6 HB16 HB36 HO6
   go_upto_if 44 with fail
   go_cut [] (fun wx=>∃A8 n8 c8,PutG W0 (g+1+1) FX wx∧Bk wx gA 37 #[.int .i64 206,.slice none 0 0,.slice A8 n8 c8,.int .i64 0] (0,0)∧Parts wx (.slice A8 n8 c8) PS∧(Value.slice A8 n8 c8).ownBlock≠some gA∧(Value.slice A8 n8 c8).ownBlock≠some (g+1+1+1)∧Bk wx (g+1+1+1) 37 #[.int .i64 0,.slice none 0 0,.slice none 0 0,.int .i64 0] (0,0)∧KeepT w wx 127)
   case first=>
    have q3:w7.cell? ⟨g+1,3,none⟩=some (.int .i64 len):=HB17.out.cell 3
    by_cases h1:S.length=1
    ·obtain ⟨s,hS⟩:=List.length_eq_one_iff.1 h1
     have k44:((S.length:Int)==1)=true:=by rw [h1];rfl
     have h0:0 < S.length:=by omega
     obtain ⟨hF1,hP1⟩:=HONE.out s hS
     have HIN:=hid (HSI.out s (by rw [hS];simp))
     have HPT:=hid (fun (x:World) (h:PutG W0 (g+1+1) F x)=>putR_any crN (contentL s.1 s.2 len) W0 x (g+1+1) F h (by omega))
     rw [←hF1] at HPT
     obtain ⟨b1,rfl⟩:=own_at1 HO7.out h0
     have HSW:=hid hS
     have HP1W:=hid hP1
     obtain ⟨p0,p1⟩:=own_cell0 HO7.out hS
     clear hF1 hP1 hS h1 HONE HMORE HPA HBD
     go_upto_region 12 with fail
     refine wp_region_mix0 [0,1,2,4] none 4 (HP7.out.gr.by none) (by kernel_rfl) rfl (by kernel_rfl) (fun o _ _ _ _ h=>by cases o <;> exact h) ?_
     simp only [pickOps,List.filterMap_cons,List.filterMap_nil,List.getElem?_cons_zero,List.getElem?_cons_succ]
     repeat (first | (refine wpGq_step (fun K hK=>?_);go_simp;refine hK _ ?_;clear hK K) | (refine wpGq_step (fun K hK=>?_);go_simp;simp only [↓IntWalk.iteOmega];go_simp;refine hK _ ?_;clear hK K))
     refine wpGq_nil ?_
     refine wpG_two 3 5 (by kernel_rfl) rfl rfl rfl rfl (fun K hK wa hga=>?_) (fun K hK wa hga=>?_)
     ·have hg1:=hga
      have x0:wa.cell? ⟨b1,0,none⟩=some (.int .i64 s.1):=Gr.cell hg1 p0
      have x1:wa.cell? ⟨b1,1,none⟩=some (.int .i64 s.2):=Gr.cell hg1 p1
      go_simp
      refine hK _ _ ((Gr.tr HP7.out.gr hg1).by _) ?_
      clear hK K
      refine wpG_one 5 (by kernel_rfl) rfl rfl (fun K hK wb hgb=>?_)
      have hg2:=Gr.tr hg1 hgb
      have x3:wb.cell? ⟨g+1,3,none⟩=some (.int .i64 len):=Gr.cell hg2 q3
      go_simp
      refine hK _ _ ((Gr.tr HP7.out.gr hg2).by _) ?_
      clear hK K
      refine wpG_one 6 (by kernel_rfl) rfl rfl (fun K hK wc hgc=>?_)
      have hg3:=Gr.tr hg2 hgc
      go_simp
      refine (HCT.out s wc (Gr.tr HP7.out.gr hg3) HIN.out).mono ?_
      rintro e wd ⟨rfl,hgd⟩
      have hg4:=Gr.tr hg3 hgd
      refine hK _ _ ((Gr.tr HP7.out.gr hg4).by _) ?_
      clear hK K
      refine wpG_one 7 (by kernel_rfl) rfl rfl (fun K hK we hge=>?_)
      have hg5:=Gr.tr hg4 hge
      go_simp
      refine (HPT.out we (HP7.out.to hg5)).mono ?_
      rintro e wf ⟨rfl,hPf,hKf⟩
      refine hK _ _ (hPf.gr.by _) ?_
      clear hK K
      refine wpG_done (by kernel_rfl) (fun wz hgz=>?_)
      have HPz:=hid (hPf.to hgz)
      have HBz:=hid ((hKf _ _ _ _ ansNeF (by omega) (HB37.out.gr hg5)).gr hgz)
      have HKz:=hid (((KeepT.gr (Gr.tr HK7.out hg5)).put hKf HLF.out).to hgz)
      have HAz:=hid ((hKf _ _ _ _ ansNeF (by omega) (HA7.out.gr hg5)).gr hgz)
      have HOz:=hid ((own_keep (HO7.out.gr hg5) hKf spanNeF (own_ne_ty (HO7.out.gr hg5) ((HP7.out.to hg5).row.choose_spec.1) (by decide))).gr hgz)
      obtain ⟨y0,y1⟩:=own_cell0 HOz.out HSW.out
      have zA2:wz.cell? ⟨gA,2,none⟩=some (.slice none 0 0):=HAz.out.cell 2
      have fA2:wz.frozen? ⟨gA,2,none⟩=false:=HAz.out.free 2 (.inr (Nat.zero_le _))
      have hltA:=HAz.out.lt
      clear p0 p1 q3 x0 x1 x3 hPf hKf hgz hga hg1 hg2 hg3 hg4 hg5 hgb hgc hgd hge HP7 HB37 HA7 HO7 HPT HCT
      go_wp2_with fail
      obtain ⟨wq,hwq⟩:∃wq,wq=wz.setCell ⟨gA,2,none⟩ (.slice (some ⟨wz.heap.size,0,none⟩) 1 1):=⟨_,rfl⟩
      have hsz:wq.heap.size=wz.heap.size:=by rw [hwq];simp [World.setCell]
      have hPq:PutG W0 (g+1+1) FX wq:=by rw [hwq];exact HPz.out.st HAz.out (by omega) ansNeF HLA.out _ _
      have hAq:Bk wq gA 37 #[.int .i64 206,.slice none 0 0,.slice (some ⟨wz.heap.size,0,none⟩) 1 1,.int .i64 0] (0,0):=by rw [hwq];simpa using HAz.out.set 2 (.slice (some ⟨wz.heap.size,0,none⟩) 1 1)
      have hBq:Bk wq (g+1+1+1) 37 #[.int .i64 0,.slice none 0 0,.slice none 0 0,.int .i64 0] (0,0):=by rw [hwq];exact HBz.out.far (p:=⟨gA,2,none⟩) (by simp only;omega) _
      have hKq:KeepT w wq 127:=by rw [hwq];exact HKz.out.st HLB.out _ _
      have hgB:=Gr.al (Gr.refl wq) (Obj.cells #[str [],.int .i64 s.1,.int .i64 s.2] 51)
      have hs1:=sl_lit wq 51 [str [],.int .i64 s.1,.int .i64 s.2] 1 (by decide)
      rw [hsz] at hs1
      have hBlt:=HBz.out.lt
      go_meet
      rw [←hwq]
      rw [HP1W.out]
      exact ⟨some ⟨wz.heap.size,0,none⟩,1,1,hPq.to hgB,hAq.gr hgB,hs1,by simp [Value.ownBlock];omega,by simp [Value.ownBlock];omega,hBq.gr hgB,hKq.to hgB⟩
     ·have hg1:=hga
      have x3:wa.cell? ⟨g+1,3,none⟩=some (.int .i64 len):=Gr.cell hg1 q3
      go_simp
      refine hK _ _ ((Gr.tr HP7.out.gr hg1).by _) ?_
      clear hK K
      refine wpG_one 3 (by kernel_rfl) rfl rfl (fun K hK wb hgb=>?_)
      have hg2:=Gr.tr hg1 hgb
      have x0:wb.cell? ⟨b1,0,none⟩=some (.int .i64 s.1):=Gr.cell hg2 p0
      have x1:wb.cell? ⟨b1,1,none⟩=some (.int .i64 s.2):=Gr.cell hg2 p1
      go_simp
      refine hK _ _ ((Gr.tr HP7.out.gr hg2).by _) ?_
      clear hK K
      refine wpG_one 6 (by kernel_rfl) rfl rfl (fun K hK wc hgc=>?_)
      have hg3:=Gr.tr hg2 hgc
      go_simp
      refine (HCT.out s wc (Gr.tr HP7.out.gr hg3) HIN.out).mono ?_
      rintro e wd ⟨rfl,hgd⟩
      have hg4:=Gr.tr hg3 hgd
      refine hK _ _ ((Gr.tr HP7.out.gr hg4).by _) ?_
      clear hK K
      refine wpG_one 7 (by kernel_rfl) rfl rfl (fun K hK we hge=>?_)
      have hg5:=Gr.tr hg4 hge
      go_simp
      refine (HPT.out we (HP7.out.to hg5)).mono ?_
      rintro e wf ⟨rfl,hPf,hKf⟩
      refine hK _ _ (hPf.gr.by _) ?_
      clear hK K
      refine wpG_done (by kernel_rfl) (fun wz hgz=>?_)
      have HPz:=hid (hPf.to hgz)
      have HBz:=hid ((hKf _ _ _ _ ansNeF (by omega) (HB37.out.gr hg5)).gr hgz)
      have HKz:=hid (((KeepT.gr (Gr.tr HK7.out hg5)).put hKf HLF.out).to hgz)
      have HAz:=hid ((hKf _ _ _ _ ansNeF (by omega) (HA7.out.gr hg5)).gr hgz)
      have HOz:=hid ((own_keep (HO7.out.gr hg5) hKf spanNeF (own_ne_ty (HO7.out.gr hg5) ((HP7.out.to hg5).row.choose_spec.1) (by decide))).gr hgz)
      obtain ⟨y0,y1⟩:=own_cell0 HOz.out HSW.out
      have zA2:wz.cell? ⟨gA,2,none⟩=some (.slice none 0 0):=HAz.out.cell 2
      have fA2:wz.frozen? ⟨gA,2,none⟩=false:=HAz.out.free 2 (.inr (Nat.zero_le _))
      have hltA:=HAz.out.lt
      clear p0 p1 q3 x0 x1 x3 hPf hKf hgz hga hg1 hg2 hg3 hg4 hg5 hgb hgc hgd hge HP7 HB37 HA7 HO7 HPT HCT
      go_wp2_with fail
      obtain ⟨wq,hwq⟩:∃wq,wq=wz.setCell ⟨gA,2,none⟩ (.slice (some ⟨wz.heap.size,0,none⟩) 1 1):=⟨_,rfl⟩
      have hsz:wq.heap.size=wz.heap.size:=by rw [hwq];simp [World.setCell]
      have hPq:PutG W0 (g+1+1) FX wq:=by rw [hwq];exact HPz.out.st HAz.out (by omega) ansNeF HLA.out _ _
      have hAq:Bk wq gA 37 #[.int .i64 206,.slice none 0 0,.slice (some ⟨wz.heap.size,0,none⟩) 1 1,.int .i64 0] (0,0):=by rw [hwq];simpa using HAz.out.set 2 (.slice (some ⟨wz.heap.size,0,none⟩) 1 1)
      have hBq:Bk wq (g+1+1+1) 37 #[.int .i64 0,.slice none 0 0,.slice none 0 0,.int .i64 0] (0,0):=by rw [hwq];exact HBz.out.far (p:=⟨gA,2,none⟩) (by simp only;omega) _
      have hKq:KeepT w wq 127:=by rw [hwq];exact HKz.out.st HLB.out _ _
      have hgB:=Gr.al (Gr.refl wq) (Obj.cells #[str [],.int .i64 s.1,.int .i64 s.2] 51)
      have hs1:=sl_lit wq 51 [str [],.int .i64 s.1,.int .i64 s.2] 1 (by decide)
      rw [hsz] at hs1
      have hBlt:=HBz.out.lt
      go_meet
      rw [←hwq]
      rw [HP1W.out]
      exact ⟨some ⟨wz.heap.size,0,none⟩,1,1,hPq.to hgB,hAq.gr hgB,hs1,by simp [Value.ownBlock];omega,by simp [Value.ownBlock];omega,hBq.gr hgB,hKq.to hgB⟩
    ·have k44:((S.length:Int)==1)=false:=by simp;omega
     obtain ⟨hF1,hP1⟩:=HMORE.out h1
     have HPT:=hid (fun (x:World) (h:PutG W0 (g+1+1) F x)=>putR_any ctN (sevN++boundN seed) W0 x (g+1+1) F h (by omega))
     rw [←hF1] at HPT
     have HPA1:=hid (fun (x:World) (g:Gr W0 x) (h:Spans x (.slice A6 S.length c6) S)=>HPA.out S _ x g h HSI.out HSL.out HSE.out)
     rw [←hP1] at HPA1
     have HPN:=hid (show PS≠[] from by rw [hP1];exact partsL_ne _ _ _ _)
     clear hF1 hP1 HONE HMORE HPA HCT h1
     have hbl:(boundN seed).length≤21:=Nat.le_of_eq (boundN_len seed)
     generalize boundN seed=bs at *
     go_upto_region 16 with (first
      | (go_at_call 20;refine (HBD.out _ HP7.out.gr).mono ?_;rintro e wa ⟨rfl,hga⟩;have HPa:=hid (HP7.out.to hga);have HBa:=hid (HB37.out.gr hga);have HAa:=hid (HA7.out.gr hga);have HOa:=hid (HO7.out.gr hga);have HMa:=hid (HB17.out.gr hga);have HKa:=hid (Gr.tr HK7.out hga))
      | (go_at_call 145;refine (HPT.out _ HPa.out).mono ?_;rintro e wb ⟨rfl,hPb,hKb⟩;have HPb:=hid hPb;have HBb:=hid (hKb _ _ _ _ ansNeF (by omega) HBa.out);have HAb:=hid (hKb _ _ _ _ ansNeF (by omega) HAa.out);have HMb:=hid (hKb _ _ _ _ metaNeF (by omega) HMa.out);have HOb:=hid (own_keep HOa.out hKb spanNeF (own_ne_ty HOa.out HPa.out.row.choose_spec.1 (by decide)));have HKb:=hid ((KeepT.gr HKa.out).put hKb HLF.out);clear hPb hKb))
     have q3:wb.cell? ⟨g+1,3,none⟩=some (.int .i64 len):=HMb.out.cell 3
     have HSPb:=hid (HOb.out.sl (by decide))
     have HPA2:=hid (HPA1.out wb HPb.out.gr HSPb.out)
     clear HPA1 HPT HBD HP7 HB37 HA7 HO7 HB17 HPa HBa HAa HOa HMa
     go_wp2_with (go_at_call 148;refine HPA2.out.mono ?_;rintro e wc ⟨hgc,v10,rfl,hp10⟩;obtain ⟨A10,c10,rfl,hc10,-⟩:=id hp10.open;have HAc:=hid (HAb.out.gr hgc);have HBc:=hid (HBb.out.gr hgc);have HPc:=hid (HPb.out.to hgc);have HPP:=hid hp10;have HKc:=hid (HKb.out.to hgc);have zA2:wc.cell? ⟨gA,2,none⟩=some (.slice none 0 0):=HAc.out.cell 2;have fA2:wc.frozen? ⟨gA,2,none⟩=false:=HAc.out.free 2 (.inr (Nat.zero_le _));clear hp10)
     go_meet
     have hn1:=parts_ne_ans HPP.out HPN.out HAc.out
     have hn2:=parts_ne_ans HPP.out HPN.out HBc.out
     refine ⟨A10,PS.length,c10,HPc.out.st HAc.out (by omega) ansNeF HLA.out _ _,?_,Sl.st HPP.out hn1 _ _,hn1,hn2,HBc.out.far (p:=⟨gA,2,none⟩) (by simp only;omega) _,HKc.out.st HLB.out _ _⟩
     simpa using HAc.out.set 2 (.slice A10 PS.length c10)
   case rest=>
    obtain ⟨A8,n8,c8,hP8,hA8,hps8,hn1,hn2,hB8,hk8⟩:=hcut
    have HK8:=hid hk8
    have HPS:=hid hps8
    have HB8:=hid hB8
    have HN1:=hid hn1;have HN2:=hid hn2
    obtain ⟨v9,hb9,ho9⟩:=hP8.row
    obtain ⟨A9,c9,rfl⟩:=ho9.form
    have HO9:=hid ho9;have HG9:=hid hP8.gr
    have qf:wc.cell? ⟨g+1+1,0,none⟩=some (.slice A9 FX.length c9):=hb9.cell 0
    have zA1:wc.cell? ⟨gA,1,none⟩=some (.slice none 0 0):=hA8.cell 1
    have fA1:wc.frozen? ⟨gA,1,none⟩=false:=hA8.free 1 (.inr (Nat.zero_le _))
    have HA8:=hid hA8
    clear hk8 hP8 hA8 hps8 hB8 hb9 ho9 hn1 hn2 HONE HMORE HPA HBD HCT HP7 HB37 HA7 HO7 HB17
    go_upto_region 18 with fail
    refine at_world (P:=Code.wp _ _ _ _) (w0:=wc.setCell ⟨gA,1,none⟩ (.slice A9 FX.length c9)) ?_
    intro wd hwd
    have HAd:=hid (show Bk wd gA 37 #[.int .i64 206,.slice A9 FX.length c9,.slice A8 n8 c8,.int .i64 0] (0,0) from by rw [hwd];simpa using HA8.out.set 1 (.slice A9 FX.length c9))
    have HBd:=hid (show Bk wd (g+1+1+1) 37 #[.int .i64 0,.slice none 0 0,.slice none 0 0,.int .i64 0] (0,0) from by rw [hwd];exact HB8.out.far (p:=⟨gA,1,none⟩) (by simp only;omega) _)
    have HPd:=hid (show Parts wd (.slice A8 n8 c8) PS from by rw [hwd];exact Sl.st HPS.out HN1.out _ _)
    have HOd:=hid (show Own W0 wd 127 2 (.slice A9 FX.length c9) FX.length (flat2 FX) from by rw [hwd];exact Own.set HO9.out (own_ne_ty HO9.out HA8.out ansNeF) _ _)
    have HGd:=hid (show Gr W0 wd from by rw [hwd];exact HG9.out.st (p:=⟨gA,1,none⟩) HLA.out _)
    have HKd:=hid (show KeepT w wd 127 from by rw [hwd];exact HK8.out.st HLB.out _ _)
    clear hwd qf zA1 fA1 HA8 HB8 HPS HO9 HG9
    have zA2:wd.cell? ⟨gA,2,none⟩=some (.slice A8 n8 c8):=HAd.out.cell 2
    have HSZ:=hid (sizeS_any _ PS wd HPd.out HQO.out)
    go_upto_region 19 with (go_at_call 149;refine HSZ.out.mono ?_;rintro e we ⟨rfl,hge⟩;have HAe:=hid (HAd.out.gr hge);have HBe:=hid (HBd.out.gr hge);have HPe:=hid (HPd.out.gr hge);have HOe:=hid (HOd.out.gr hge);have HGe:=hid (Gr.tr HGd.out hge);have HKe:=hid (HKd.out.to hge);have zA3:we.cell? ⟨gA,3,none⟩=some (.int .i64 0):=HAe.out.cell 3;have fA3:we.frozen? ⟨gA,3,none⟩=false:=HAe.out.free 3 (.inr (Nat.zero_le _));clear hge)
    refine at_world (P:=Code.wp _ _ _ _) (w0:=we.setCell ⟨gA,3,none⟩ (.int .i64 (sizePs PS))) ?_
    intro wf hwf
    have HAf:=hid (show Bk wf gA 37 #[.int .i64 206,.slice A9 FX.length c9,.slice A8 n8 c8,.int .i64 (sizePs PS)] (0,0) from by rw [hwf];simpa using HAe.out.set 3 (.int .i64 (sizePs PS)))
    have HBf:=hid (show Bk wf (g+1+1+1) 37 #[.int .i64 0,.slice none 0 0,.slice none 0 0,.int .i64 0] (0,0) from by rw [hwf];exact HBe.out.far (p:=⟨gA,3,none⟩) (by simp only;omega) _)
    have HPf:=hid (show Parts wf (.slice A8 n8 c8) PS from by rw [hwf];exact Sl.st HPe.out HN1.out _ _)
    have HOf:=hid (show Own W0 wf 127 2 (.slice A9 FX.length c9) FX.length (flat2 FX) from by rw [hwf];exact Own.set HOe.out (own_ne_ty HOe.out HAe.out ansNeF) _ _)
    have HGf:=hid (show Gr W0 wf from by rw [hwf];exact HGe.out.st (p:=⟨gA,3,none⟩) HLA.out _)
    have HKf:=hid (show KeepT w wf 127 from by rw [hwf];exact HKe.out.st HLB.out _ _)
    clear hwf zA2 zA3 fA3 HAd HBd HPd HOd HGd HAe HBe HPe HOe HGe HSZ
    have u0:wf.cell? ⟨gA,0,none⟩=some (.int .i64 206):=HAf.out.cell 0
    have u1:wf.cell? ⟨gA,1,none⟩=some (.slice A9 FX.length c9):=HAf.out.cell 1
    have u2:wf.cell? ⟨gA,2,none⟩=some (.slice A8 n8 c8):=HAf.out.cell 2
    have u3:wf.cell? ⟨gA,3,none⟩=some (.int .i64 (sizePs PS)):=HAf.out.cell 3
    obtain ⟨z0,z1,z2,z3⟩:=HBf.out.cells4
    obtain ⟨f0,f1,f2,f3⟩:=HBf.out.free4
    go_wp2_with fail
    refine at_world (P:=bodyPost _ _ _ _ _) (w0:=putCs wf (g+1+1+1) [.int .i64 206,.slice A9 FX.length c9,.slice A8 n8 c8,.int .i64 (sizePs PS)] 0) ?_
    intro wy hwy
    obtain ⟨hy,hoy,hpy,hgy,hky⟩:=ans_put hwy HBf.out rfl HLO.out HGf.out HOf.out HPf.out HN2.out HKf.out HLW.out
    clear hwy
    obtain ⟨yz0,yz1,yz2,yz3⟩:=hy.cells4
    refine bodyPost_ret (v:=.agg #[.int .i64 206,.slice A9 FX.length c9,.slice A8 n8 c8,.int .i64 (sizePs PS)]) (by simp [results,Tryz.results72,go_sem,yz0,yz1,yz2,yz3]) rfl ?_
    exact ⟨ansEnd_of HE0.out hoy hpy (fun h=>absurd h HPSN.out) hgy,hky⟩
end Go.Proofs.YtflepnkpihfidaaGreatDoor
namespace Go.Proofs.YtflepnkpihfidaaGreatDoor
open Lib (hid)
open Go.RowKit
theorem metaF_le8 (m:MetaT):(metaF m).length≤8:=by
 have h1:=tagF_le m;have h2:=modF_le m;have h3:=keyF_le m;have h4:=tenF_le m
 have h5:(lenF m).length≤2:=by unfold lenF;split <;> simp
 unfold metaF
 simp only [List.length_append,List.length_cons,List.length_nil]
 omega
def confV:Value:=.agg #[.int .i64 4,.int .i64 0,.int .i64 64,.int .i64 8,.int .i64 2,.int .i64 1,.int .i64 8,.int .i64 400,.int .i64 400,.int .i64 16]
set_option maxHeartbeats 16000000 in
set_option maxRecDepth 100000 in
theorem shape_any (q:ReqT) (m:MetaT) (vs vm vn vk:Value) (oc:Nat) (seed:Int) (w:World) (hs:Specs w vs q.2.2.1) (hsl:q.2.2.1.length≤12) (hk:Strs w vk m.keys) (hl:MetaLow m) (hm:MetaOk m) (hv:VarsW w) (hz:Tz w) (hoc:1≤oc∧oc≤4) :
  Calls Tryz.prog 24 #[reqV q vs vm vn,metaV m vk,.int .i64 (oc:Nat),confV,.int .i64 seed] w (AnsEnd (shapeL q m oc 8 seed) w):=by
 obtain ⟨A1,a1,rfl,_,_,_⟩:=id hs.open
 have hMF8:=metaF_le8 m
 have HMF0:=fun (x:World) (g:Gr w x)=>metaFields_any m vk x (hk.gr g) hl hm (hv.pw.gr g)
 have HRG0:=fun (x:World) (A5:Option Addr) (c5:Nat) (g:Gr w x) (hF:Own w x 127 2 (.slice A5 (metaF m).length c5) (metaF m).length (flat2 (metaF m)))=>rangedS_any q m _ vm vn vk A5 c5 (metaF m) seed w x (hs.gr g) hsl hm g hF (by omega) hv hz
 have HCO0:=fun (x:World) (g:Gr w x)=>costly_any _ q.2.2.1 m.hv 8 x (hs.gr g) (by omega) hm.hv
 have HS30:=fun (h:oc=3)=>show shapeL q m oc 8 seed=(304,metaF m,[],0) from if_pos h
 have HS40:=fun (h:oc=4)=>show shapeL q m oc 8 seed=(412,metaF m,[],0) from by unfold shapeL;rw [if_neg (by omega),if_pos h]
 obtain ⟨P,hP⟩:∃P,P=(decide (oc=1)&&(!q.1&&(decide (0 < q.2.2.1.length)&&!costL q.2.2.1 m.hv 8))):=⟨_,rfl⟩
 have HPT0:=fun (h3:oc≠3) (h4:oc≠4) (h:P=true)=>show shapeL q m oc 8 seed=rangedF (metaF m) q.2.2.1 m seed from by
  rw [hP] at h
  simp only [Bool.and_eq_true,decide_eq_true_eq,Bool.not_eq_true'] at h
  unfold shapeL
  rw [if_neg h3,if_neg h4,if_pos ⟨h.1,h.2.1,List.ne_nil_of_length_pos h.2.2.1,h.2.2.2⟩,rangedF_eq]
 have HPF0:=fun (h3:oc≠3) (h4:oc≠4) (h:P=false)=>show shapeL q m oc 8 seed=fullL q.1 m from by
  unfold shapeL
  rw [if_neg h3,if_neg h4,if_neg]
  rintro ⟨h1,h2,h5,h6⟩
  rw [hP,h2,h6,decide_eq_true h1,decide_eq_true (List.length_pos_iff.2 h5)] at h
  cases h
 generalize shapeL q m oc 8 seed=SL at *
 generalize hRFq:rangedF (metaF m) q.2.2.1 m seed=RF at *
 have HFU0:=show fullL q.1 m=(200,metaF m,if q.1=true∨m.len=0 then [] else [([],0,if m.len= -1 then 4611686018427387904 else m.len)],m.len) from rfl
 generalize fullL q.1 m=FU at *
 generalize metaF m=MF at *
 generalize costL q.2.2.1 m.hv 8=CO at *
 have HML:=hid hm.len
 have HMF:=hid HMF0;have HRG:=hid HRG0;have HCO:=hid HCO0;have HS3:=hid HS30;have HS4:=hid HS40;have HPT:=hid HPT0;have HPF:=hid HPF0;have HFU:=hid HFU0;have HPD:=hid hP
 clear HMF0 HRG0 HCO0 HS30 HS40 HPT0 HPF0 HFU0 hP hs hsl hk hl hm hv hz hRFq hMF8
 obtain ⟨hd,ob,sp,cd⟩:=q
 obtain ⟨⟨tg,tk⟩,mod,len,hv,fr,wh,er,keys,ten,kp⟩:=m
 unfold reqV metaV metaCs
 unfold metaV metaCs at HMF
 unfold confV
 generalize hvs:Value.slice A1 sp.length a1=vs at *
 simp only at HMF HCO HFU HML HPD ⊢
 go_enter Tryz.func24,Tryz.ntmps24
 go_upto_region 1 with fail
 refine at_world (P:=Code.wp _ _ _ _) (w0:=(((w.alloc (Obj.cells #[.bool hd,str ob,vs,vm,vn,.bool cd.am,.bool cd.an,.int .i64 cd.si,.int .i64 cd.un,str cd.rg.1,.bool cd.rg.2] 29)).alloc (Obj.cells #[str tg,.bool tk,.int .i64 mod,.int .i64 len,.int .i64 hv,.int .i64 fr,.int .i64 wh,.int .i64 er,vk,str ten,.bool kp] 66)).alloc (Obj.cells #[.int .i64 4,.int .i64 0,.int .i64 64,.int .i64 8,.int .i64 2,.int .i64 1,.int .i64 8,.int .i64 400,.int .i64 400,.int .i64 16] 75)).alloc (Obj.cells #[.int .i64 0,.slice none 0 0,.slice none 0 0,.int .i64 0] 37)) ?_
 intro w4 hw4
 obtain ⟨b0,b1,b2,b3,hg4⟩:=box4w w #[.bool hd,str ob,vs,vm,vn,.bool cd.am,.bool cd.an,.int .i64 cd.si,.int .i64 cd.un,str cd.rg.1,.bool cd.rg.2] #[str tg,.bool tk,.int .i64 mod,.int .i64 len,.int .i64 hv,.int .i64 fr,.int .i64 wh,.int .i64 er,vk,str ten,.bool kp] #[.int .i64 4,.int .i64 0,.int .i64 64,.int .i64 8,.int .i64 2,.int .i64 1,.int .i64 8,.int .i64 400,.int .i64 400,.int .i64 16] #[.int .i64 0,.slice none 0 0,.slice none 0 0,.int .i64 0] 29 66 75 37
 rw [←hw4] at b0 b1 b2 b3 hg4
 clear hw4
 generalize hgq:w.heap.size=g at *
 have HG4:=hid hg4
 have HB0:=hid b0
 have HB1:=hid (show Bk w4 (g+1) 66 _ (0,0) from b1)
 have HB2:=hid (show Bk w4 (g+1+1) 75 _ (0,0) from b2)
 have HB3:=hid (show Bk w4 (g+1+1+1) 37 #[.int .i64 0,.slice none 0 0,.slice none 0 0,.int .i64 0] (0,0) from b3)
 have HLO:=hid (show w.heap.size≤g+1+1+1 from by omega)
 clear b0 b1 b2 b3 hg4
 have m0:w4.cell? ⟨g+1,0,none⟩=some (str tg):=HB1.out.cell 0
 have m1:w4.cell? ⟨g+1,1,none⟩=some (.bool tk):=HB1.out.cell 1
 have m2:w4.cell? ⟨g+1,2,none⟩=some (.int .i64 mod):=HB1.out.cell 2
 have m3:w4.cell? ⟨g+1,3,none⟩=some (.int .i64 len):=HB1.out.cell 3
 have m4:w4.cell? ⟨g+1,4,none⟩=some (.int .i64 hv):=HB1.out.cell 4
 have m5:w4.cell? ⟨g+1,5,none⟩=some (.int .i64 fr):=HB1.out.cell 5
 have m6:w4.cell? ⟨g+1,6,none⟩=some (.int .i64 wh):=HB1.out.cell 6
 have m7:w4.cell? ⟨g+1,7,none⟩=some (.int .i64 er):=HB1.out.cell 7
 have m8:w4.cell? ⟨g+1,8,none⟩=some (vk):=HB1.out.cell 8
 have m9:w4.cell? ⟨g+1,9,none⟩=some (str ten):=HB1.out.cell 9
 have m10:w4.cell? ⟨g+1,10,none⟩=some (.bool kp):=HB1.out.cell 10
 go_upto_region 2 with (go_at_call 70;refine (HMF.out _ HG4.out).mono ?_;rintro e w5 ⟨A5,c5,rfl,hO5,hg5⟩)
 have HG5:=hid (Gr.tr HG4.out hg5)
 have HO5:=hid (own_base hO5 HG4.out.size)
 have HB05:=hid (HB0.out.gr hg5);have HB15:=hid (HB1.out.gr hg5);have HB25:=hid (HB2.out.gr hg5);have HB35:=hid (HB3.out.gr hg5)
 clear hO5 hg5 HB0 HB1 HB2 HB3 HG4 HMF m0 m1 m2 m3 m4 m5 m6 m7 m8 m9 m10
 have h55:=Gr.refl w5
 by_cases k3:oc=3
 ·have d3:(((oc:Nat):Int)==3)=true:=by simp;omega
  have HE:=hid (HS3.out k3)
  obtain ⟨z0,z1,z2,z3⟩:=HB35.out.cells4
  obtain ⟨f0,f1,f2,f3⟩:=HB35.out.free4
  clear k3
  go_wp2_with fail
  refine at_world (P:=bodyPost _ _ _ _ _) (w0:=putCs w5 (g+1+1+1) [.int .i64 304,.slice A5 MF.length c5,.slice none 0 0,.int .i64 0] 0) ?_
  intro wy hwy
  obtain ⟨hy,hoy,hpy,hgy,hky⟩:=ans_put hwy HB35.out rfl HLO.out HG5.out HO5.out (parts_nil _) (by simp [Value.ownBlock]) (KeepT.gr HG5.out) HLO.out
  clear hwy
  obtain ⟨yz0,yz1,yz2,yz3⟩:=hy.cells4
  refine bodyPost_ret (v:=.agg #[.int .i64 304,.slice A5 MF.length c5,.slice none 0 0,.int .i64 0]) (by simp [results,Tryz.results24,go_sem,yz0,yz1,yz2,yz3]) rfl ?_
  exact ansEnd_of HE.out hoy hpy (fun _=>rfl) hgy
 have d3:(((oc:Nat):Int)==3)=false:=by simp;omega
 by_cases k4:oc=4
 ·have d4:(((oc:Nat):Int)==4)=true:=by simp;omega
  have HE:=hid (HS4.out k4)
  obtain ⟨z0,z1,z2,z3⟩:=HB35.out.cells4
  obtain ⟨f0,f1,f2,f3⟩:=HB35.out.free4
  clear k4
  go_wp2_with fail
  refine at_world (P:=bodyPost _ _ _ _ _) (w0:=putCs w5 (g+1+1+1) [.int .i64 412,.slice A5 MF.length c5,.slice none 0 0,.int .i64 0] 0) ?_
  intro wy hwy
  obtain ⟨hy,hoy,hpy,hgy,hky⟩:=ans_put hwy HB35.out rfl HLO.out HG5.out HO5.out (parts_nil _) (by simp [Value.ownBlock]) (KeepT.gr HG5.out) HLO.out
  clear hwy
  obtain ⟨yz0,yz1,yz2,yz3⟩:=hy.cells4
  refine bodyPost_ret (v:=.agg #[.int .i64 412,.slice A5 MF.length c5,.slice none 0 0,.int .i64 0]) (by simp [results,Tryz.results24,go_sem,yz0,yz1,yz2,yz3]) rfl ?_
  exact ansEnd_of HE.out hoy hpy (fun _=>rfl) hgy
 have d4:(((oc:Nat):Int)==4)=false:=by simp;omega
 have HPT:=hid (HPT.out k3 k4);have HPF:=hid (HPF.out k3 k4)
 go_upto_region 7 with fail
 clear d3 d4
 go_cut [51] (fun s wx=>s=.bool P∧Gr w5 wx)
 case first=>
  have q0:w5.cell? ⟨g,0,none⟩=some (.bool hd):=HB05.out.cell 0
  have q2:w5.cell? ⟨g,2,none⟩=some vs:=HB05.out.cell 2
  have q4:w5.cell? ⟨g+1,4,none⟩=some (.int .i64 hv):=HB15.out.cell 4
  have q3:w5.cell? ⟨g+1+1,3,none⟩=some (.int .i64 8):=HB25.out.cell 3
  subst hvs
  by_cases k1:oc=1
  case neg=>
   have d1:(((oc:Nat):Int)==1)=false:=by simp;omega
   have HE:=hid (show P=false from by rw [HPD.out,decide_eq_false k1];rfl)
   clear k1
   go_wp2_with fail
   go_meet
   exact ⟨by rw [HE.out],h55⟩
  have d1:(((oc:Nat):Int)==1)=true:=by simp;omega
  cases hd with
  | true=>
    have HE:=hid (show P=false from by rw [HPD.out];simp)
    clear k1
    go_wp2_with fail
    go_meet
    exact ⟨by rw [HE.out],h55⟩
  | false=>
  by_cases kl:0 < sp.length
  case neg=>
   have HE:=hid (show P=false from by rw [HPD.out,decide_eq_false kl];simp)
   clear k1
   go_wp2_with fail
   go_meet
   exact ⟨by rw [HE.out],h55⟩
  cases CO
  all_goals
   have HE:=hid HPD.out
   rw [decide_eq_true k1,decide_eq_true kl] at HE
   clear k1
   go_wp2_with (go_at_call 71;refine (HCO.out _ HG5.out).mono ?_;rintro e w6 ⟨rfl,hg6⟩)
   go_meet
   exact ⟨by rw [HE.out];rfl,hg6⟩
 case rest=>
 obtain ⟨rfl,h56⟩:=hcut
 generalize wc=w6 at *
 have HG6:=hid (Gr.tr HG5.out h56)
 have HB06:=hid (HB05.out.gr h56);have HB16:=hid (HB15.out.gr h56);have HB36:=hid (HB35.out.gr h56);have HO6:=hid (HO5.out.gr h56)
 clear HB05 HB15 HB25 HB35 HO5 HG5 h55 h56 HCO HPD
 cases P with
 | true=>
   have HE:=hid (HPT.out rfl)
   have HRX:=hid (HRG.out w6 A5 c5 HG6.out HO6.out)
   clear HPF HPT HRG HFU HML
   have r0:w6.cell? ⟨g,0,none⟩=some (.bool hd):=HB06.out.cell 0
   have r1:w6.cell? ⟨g,1,none⟩=some (str ob):=HB06.out.cell 1
   have r2:w6.cell? ⟨g,2,none⟩=some (vs):=HB06.out.cell 2
   have r3:w6.cell? ⟨g,3,none⟩=some (vm):=HB06.out.cell 3
   have r4:w6.cell? ⟨g,4,none⟩=some (vn):=HB06.out.cell 4
   have r5:w6.cell? ⟨g,5,none⟩=some (.bool cd.am):=HB06.out.cell 5
   have r6:w6.cell? ⟨g,6,none⟩=some (.bool cd.an):=HB06.out.cell 6
   have r7:w6.cell? ⟨g,7,none⟩=some (.int .i64 cd.si):=HB06.out.cell 7
   have r8:w6.cell? ⟨g,8,none⟩=some (.int .i64 cd.un):=HB06.out.cell 8
   have r9:w6.cell? ⟨g,9,none⟩=some (str cd.rg.1):=HB06.out.cell 9
   have r10:w6.cell? ⟨g,10,none⟩=some (.bool cd.rg.2):=HB06.out.cell 10
   have m0:w6.cell? ⟨g+1,0,none⟩=some (str tg):=HB16.out.cell 0
   have m1:w6.cell? ⟨g+1,1,none⟩=some (.bool tk):=HB16.out.cell 1
   have m2:w6.cell? ⟨g+1,2,none⟩=some (.int .i64 mod):=HB16.out.cell 2
   have m3:w6.cell? ⟨g+1,3,none⟩=some (.int .i64 len):=HB16.out.cell 3
   have m4:w6.cell? ⟨g+1,4,none⟩=some (.int .i64 hv):=HB16.out.cell 4
   have m5:w6.cell? ⟨g+1,5,none⟩=some (.int .i64 fr):=HB16.out.cell 5
   have m6:w6.cell? ⟨g+1,6,none⟩=some (.int .i64 wh):=HB16.out.cell 6
   have m7:w6.cell? ⟨g+1,7,none⟩=some (.int .i64 er):=HB16.out.cell 7
   have m8:w6.cell? ⟨g+1,8,none⟩=some (vk):=HB16.out.cell 8
   have m9:w6.cell? ⟨g+1,9,none⟩=some (str ten):=HB16.out.cell 9
   have m10:w6.cell? ⟨g+1,10,none⟩=some (.bool kp):=HB16.out.cell 10
   go_wp2_with (go_at_call 72;refine HRX.out.mono ?_;rintro e w7 ⟨⟨A7,c7,vp,rfl,hO7,hp7,hn7,hg7⟩,hk7⟩;obtain ⟨A8,c8,rfl,-,-,-⟩:=id hp7.open;have HO7:=hid hO7;have HP7:=hid hp7;have HB37:=hid (hk7 _ _ _ _ ansNeF HB36.out);have HG7:=hid hg7;have HN7:=hid hn7;clear hO7 hp7 hg7 hk7 hn7;obtain ⟨z0,z1,z2,z3⟩:=HB37.out.cells4;obtain ⟨f0,f1,f2,f3⟩:=HB37.out.free4)
   refine at_world (P:=bodyPost _ _ _ _ _) (w0:=putCs w7 (g+1+1+1) [.int .i64 RF.1,.slice A7 RF.2.1.length c7,.slice A8 RF.2.2.1.length c8,.int .i64 RF.2.2.2] 0) ?_
   intro wy hwy
   obtain ⟨hy,hoy,hpy,hgy,hky⟩:=ans_put hwy HB37.out rfl HLO.out HG7.out HO7.out HP7.out (ans_ne HP7.out HN7.out HB37.out) (KeepT.gr HG7.out) HLO.out
   clear hwy
   obtain ⟨yz0,yz1,yz2,yz3⟩:=hy.cells4
   refine bodyPost_ret (v:=.agg #[.int .i64 RF.1,.slice A7 RF.2.1.length c7,.slice A8 RF.2.2.1.length c8,.int .i64 RF.2.2.2]) (by simp [results,Tryz.results24,go_sem,yz0,yz1,yz2,yz3]) rfl ?_
   exact ansEnd_of HE.out hoy hpy HN7.out hgy
 | false=>
   have HE:=hid ((HPF.out rfl).trans HFU.out)
   clear HPF HPT HRG HFU
   have q2:w6.cell? ⟨g+1,3,none⟩=some (.int .i64 len):=HB16.out.cell 3
   have q0:w6.cell? ⟨g,0,none⟩=some (.bool hd):=HB06.out.cell 0
   have hlt:=HB36.out.lt
   go_upto_region 10 with fail
   have hbA:=Bk.new w6 37 #[.int .i64 200,.slice A5 MF.length c5,.slice none 0 0,.int .i64 len] (0,0)
   have hgA:=Gr.al (Gr.refl w6) (Obj.cells #[.int .i64 200,.slice A5 MF.length c5,.slice none 0 0,.int .i64 len] 37)
   have HB07:=hid (HB06.out.gr hgA);have HB17:=hid (HB16.out.gr hgA);have HB37:=hid (HB36.out.gr hgA);have HO7:=hid (HO6.out.gr hgA);have HG7:=hid (Gr.tr HG6.out hgA)
   have HLA:=hid (show w.heap.size≤w6.heap.size from HG6.out.size)
   generalize w6.alloc (Obj.cells #[.int .i64 200,.slice A5 MF.length c5,.slice none 0 0,.int .i64 len] 37)=w7 at *
   generalize w6.heap.size=gA at *
   have HA7:=hid hbA
   clear hbA hgA HB06 HB16 HB36 HO6 HG6 q0 q2
   have q2:w7.cell? ⟨g+1,3,none⟩=some (.int .i64 len):=HB17.out.cell 3
   have q0:w7.cell? ⟨g,0,none⟩=some (.bool hd):=HB07.out.cell 0
   cases hd with
   | true=>
     have HE:=hid (show SL=(200,MF,[],len) from HE.out.trans (by simp))
     have u0:w7.cell? ⟨gA,0,none⟩=some (.int .i64 200):=HA7.out.cell 0
     have u1:w7.cell? ⟨gA,1,none⟩=some (.slice A5 MF.length c5):=HA7.out.cell 1
     have u2:w7.cell? ⟨gA,2,none⟩=some (.slice none 0 0):=HA7.out.cell 2
     have u3:w7.cell? ⟨gA,3,none⟩=some (.int .i64 len):=HA7.out.cell 3
     obtain ⟨z0,z1,z2,z3⟩:=HB37.out.cells4
     obtain ⟨f0,f1,f2,f3⟩:=HB37.out.free4
     go_wp2_with fail
     refine at_world (P:=bodyPost _ _ _ _ _) (w0:=putCs w7 (g+1+1+1) [.int .i64 200,.slice A5 MF.length c5,.slice none 0 0,.int .i64 len] 0) ?_
     intro wy hwy
     obtain ⟨hy,hoy,hpy,hgy,hky⟩:=ans_put hwy HB37.out rfl HLO.out HG7.out HO7.out (parts_nil _) (by simp [Value.ownBlock]) (KeepT.gr HG7.out) HLO.out
     clear hwy
     obtain ⟨yz0,yz1,yz2,yz3⟩:=hy.cells4
     refine bodyPost_ret (v:=.agg #[.int .i64 200,.slice A5 MF.length c5,.slice none 0 0,.int .i64 len]) (by simp [results,Tryz.results24,go_sem,yz0,yz1,yz2,yz3]) rfl ?_
     exact ansEnd_of HE.out hoy hpy (fun _=>rfl) hgy
   | false=>
   by_cases k0:len=0
   ·have d0:(len==0)=true:=by simp [k0]
    have HE:=hid (show SL=(200,MF,[],len) from HE.out.trans (by simp [k0]))
    clear k0
    have u0:w7.cell? ⟨gA,0,none⟩=some (.int .i64 200):=HA7.out.cell 0
    have u1:w7.cell? ⟨gA,1,none⟩=some (.slice A5 MF.length c5):=HA7.out.cell 1
    have u2:w7.cell? ⟨gA,2,none⟩=some (.slice none 0 0):=HA7.out.cell 2
    have u3:w7.cell? ⟨gA,3,none⟩=some (.int .i64 len):=HA7.out.cell 3
    obtain ⟨z0,z1,z2,z3⟩:=HB37.out.cells4
    obtain ⟨f0,f1,f2,f3⟩:=HB37.out.free4
    go_wp2_with fail
    refine at_world (P:=bodyPost _ _ _ _ _) (w0:=putCs w7 (g+1+1+1) [.int .i64 200,.slice A5 MF.length c5,.slice none 0 0,.int .i64 len] 0) ?_
    intro wy hwy
    obtain ⟨hy,hoy,hpy,hgy,hky⟩:=ans_put hwy HB37.out rfl HLO.out HG7.out HO7.out (parts_nil _) (by simp [Value.ownBlock]) (KeepT.gr HG7.out) HLO.out
    clear hwy
    obtain ⟨yz0,yz1,yz2,yz3⟩:=hy.cells4
    refine bodyPost_ret (v:=.agg #[.int .i64 200,.slice A5 MF.length c5,.slice none 0 0,.int .i64 len]) (by simp [results,Tryz.results24,go_sem,yz0,yz1,yz2,yz3]) rfl ?_
    exact ansEnd_of HE.out hoy hpy (fun _=>rfl) hgy
   have d0:(len==0)=false:=by simp [k0]
   by_cases k1:len= -1
   case pos=>
    have d1:(len==-1)=true:=by simp [k1]
    have HE:=hid (show SL=(200,MF,[([],0,4611686018427387904)],len) from HE.out.trans (by simp [k0,k1]))
    clear k0 k1
    go_upto_region 13 with fail
    have hbB:=Bk.new w7 48 #[.int .i64 0,.int .i64 len] (0,0)
    have hgB:=Gr.al (Gr.refl w7) (Obj.cells #[.int .i64 0,.int .i64 len] 48)
    have HB18:=hid (HB17.out.gr hgB);have HB38:=hid (HB37.out.gr hgB);have HO8:=hid (HO7.out.gr hgB);have HG8:=hid (Gr.tr HG7.out hgB);have HA8:=hid (HA7.out.gr hgB)
    have hla:=HA7.out.lt
    have HLB:=hid (show w.heap.size≤w7.heap.size from HG7.out.size)
    generalize w7.alloc (Obj.cells #[.int .i64 0,.int .i64 len] 48)=w8 at *
    generalize w7.heap.size=gB at *
    have HS8:=hid hbB
    clear hbB hgB HB17 HB37 HO7 HG7 HA7 q2 q0
    have q2:w8.cell? ⟨g+1,3,none⟩=some (.int .i64 len):=HB18.out.cell 3
    have fB:w8.frozen? ⟨gB,1,none⟩=false:=HS8.out.free 1 (.inr (Nat.zero_le _))
    have zB:w8.cell? ⟨gB,1,none⟩=some (.int .i64 len):=HS8.out.cell 1
    go_upto_region 15 with fail
    refine at_world (P:=Code.wp _ _ _ _) (w0:=w8.setCell ⟨gB,1,none⟩ (.int .i64 4611686018427387904)) ?_
    intro w9 hw9
    have HS9:=hid (show Bk w9 gB 48 #[.int .i64 0,.int .i64 4611686018427387904] (0,0) from by rw [hw9];simpa using HS8.out.set 1 (.int .i64 4611686018427387904))
    have HB39:=hid (show Bk w9 (g+1+1+1) 37 #[.int .i64 0,.slice none 0 0,.slice none 0 0,.int .i64 0] (0,0) from by rw [hw9];exact HB38.out.far (p:=⟨gB,1,none⟩) (by simp only;omega) _)
    have HA9:=hid (show Bk w9 gA 37 #[.int .i64 200,.slice A5 MF.length c5,.slice none 0 0,.int .i64 len] (0,0) from by rw [hw9];exact HA8.out.far (p:=⟨gB,1,none⟩) (by simp only;omega) _)
    have HO9:=hid (show Own w w9 127 2 (.slice A5 MF.length c5) MF.length (flat2 MF) from by rw [hw9];exact Own.set HO8.out (own_ne_ty HO8.out HS8.out spanNeF) _ _)
    have HG9:=hid (show Gr w w9 from by rw [hw9];exact HG8.out.st (p:=⟨gB,1,none⟩) HLB.out _)
    clear hw9 fB zB q2 HS8 HB38 HA8 HO8 HG8 HB18
    have s0:w9.cell? ⟨gB,0,none⟩=some (.int .i64 0):=HS9.out.cell 0
    have s1:w9.cell? ⟨gB,1,none⟩=some (.int .i64 4611686018427387904):=HS9.out.cell 1
    have zA:w9.cell? ⟨gA,2,none⟩=some (.slice none 0 0):=HA9.out.cell 2
    have fA:w9.frozen? ⟨gA,2,none⟩=false:=HA9.out.free 2 (.inr (Nat.zero_le _))
    have hsA:=HS9.out.lt
    have hltA:=HA9.out.lt
    have hBlt:=HB39.out.lt
    obtain ⟨wq,hwq⟩:∃wq,wq=w9.setCell ⟨gA,2,none⟩ (.slice (some ⟨w9.heap.size,0,none⟩) 1 1):=⟨_,rfl⟩
    have hsz:wq.heap.size=w9.heap.size:=by rw [hwq];simp [World.setCell]
    have hAq:Bk wq gA 37 #[.int .i64 200,.slice A5 MF.length c5,.slice (some ⟨w9.heap.size,0,none⟩) 1 1,.int .i64 len] (0,0):=by rw [hwq];simpa using HA9.out.set 2 (.slice (some ⟨w9.heap.size,0,none⟩) 1 1)
    have hBq:Bk wq (g+1+1+1) 37 #[.int .i64 0,.slice none 0 0,.slice none 0 0,.int .i64 0] (0,0):=by rw [hwq];exact HB39.out.far (p:=⟨gA,2,none⟩) (by simp only;omega) _
    have hOq:Own w wq 127 2 (.slice A5 MF.length c5) MF.length (flat2 MF):=by rw [hwq];exact Own.set HO9.out (own_ne_ty HO9.out HA9.out ansNeF) _ _
    have hGq:Gr w wq:=by rw [hwq];exact HG9.out.st (p:=⟨gA,2,none⟩) HLA.out _
    have hgP:=Gr.al (Gr.refl wq) (Obj.cells #[str [],.int .i64 0,.int .i64 4611686018427387904] 51)
    have hs1:=sl_lit wq 51 [str [],.int .i64 0,.int .i64 4611686018427387904] 1 (by decide)
    rw [hsz] at hs1
    go_upto_region 16 with fail
    rw [←hwq]
    refine at_world (P:=Code.wp _ _ _ _) (w0:=wq.alloc (Obj.cells #[str [],.int .i64 0,.int .i64 4611686018427387904] 51)) ?_
    intro wx hwx
    have HAx:=hid (show Bk wx gA 37 #[.int .i64 200,.slice A5 MF.length c5,.slice (some ⟨w9.heap.size,0,none⟩) 1 1,.int .i64 len] (0,0) from by rw [hwx];exact hAq.gr hgP)
    have HB3x:=hid (show Bk wx (g+1+1+1) 37 #[.int .i64 0,.slice none 0 0,.slice none 0 0,.int .i64 0] (0,0) from by rw [hwx];exact hBq.gr hgP)
    have HOx:=hid (show Own w wx 127 2 (.slice A5 MF.length c5) MF.length (flat2 MF) from by rw [hwx];exact hOq.gr hgP)
    have HGx:=hid (show Gr w wx from by rw [hwx];exact Gr.tr hGq hgP)
    have HPx:=hid (show Parts wx (.slice (some ⟨w9.heap.size,0,none⟩) 1 1) [([],0,4611686018427387904)] from by rw [hwx];exact hs1)
    clear hwx hs1 hgP hAq hBq hOq hGq hwq hsz hltA hBlt s0 s1 zA fA HA9 HB39 HO9 HG9 HS9
    generalize w9.heap.size=gP at *
    have u0:wx.cell? ⟨gA,0,none⟩=some (.int .i64 200):=HAx.out.cell 0
    have u1:wx.cell? ⟨gA,1,none⟩=some (.slice A5 MF.length c5):=HAx.out.cell 1
    have u2:wx.cell? ⟨gA,2,none⟩=some (.slice (some ⟨gP,0,none⟩) 1 1):=HAx.out.cell 2
    have u3:wx.cell? ⟨gA,3,none⟩=some (.int .i64 len):=HAx.out.cell 3
    obtain ⟨z0,z1,z2,z3⟩:=HB3x.out.cells4
    obtain ⟨f0,f1,f2,f3⟩:=HB3x.out.free4
    go_wp2_with fail
    refine at_world (P:=bodyPost _ _ _ _ _) (w0:=putCs wx (g+1+1+1) [.int .i64 200,.slice A5 MF.length c5,.slice (some ⟨gP,0,none⟩) 1 1,.int .i64 len] 0) ?_
    intro wy hwy
    obtain ⟨hy,hoy,hpy,hgy,hky⟩:=ans_put hwy HB3x.out rfl HLO.out HGx.out HOx.out HPx.out (ans_ne HPx.out (fun h=>by cases h) HB3x.out) (KeepT.gr HGx.out) HLO.out
    clear hwy
    obtain ⟨yz0,yz1,yz2,yz3⟩:=hy.cells4
    refine bodyPost_ret (v:=.agg #[.int .i64 200,.slice A5 MF.length c5,.slice (some ⟨gP,0,none⟩) 1 1,.int .i64 len]) (by simp [results,Tryz.results24,go_sem,yz0,yz1,yz2,yz3]) rfl ?_
    exact ansEnd_of HE.out hoy hpy (fun h=>by cases h) hgy
   have d1:(len==-1)=false:=by simp [k1]
   have HE:=hid (show SL=(200,MF,[([],0,len)],len) from HE.out.trans (by simp [k0,k1]))
   clear k0 k1
   go_upto_region 13 with fail
   have hbB:=Bk.new w7 48 #[.int .i64 0,.int .i64 len] (0,0)
   have hgB:=Gr.al (Gr.refl w7) (Obj.cells #[.int .i64 0,.int .i64 len] 48)
   have HB18:=hid (HB17.out.gr hgB);have HB38:=hid (HB37.out.gr hgB);have HO8:=hid (HO7.out.gr hgB);have HG8:=hid (Gr.tr HG7.out hgB);have HA8:=hid (HA7.out.gr hgB)
   have hla:=HA7.out.lt
   have HLB:=hid (show w.heap.size≤w7.heap.size from HG7.out.size)
   generalize w7.alloc (Obj.cells #[.int .i64 0,.int .i64 len] 48)=w8 at *
   generalize w7.heap.size=gB at *
   have HS8:=hid hbB
   clear hbB hgB HB17 HB37 HO7 HG7 HA7 q2 q0
   have q2:w8.cell? ⟨g+1,3,none⟩=some (.int .i64 len):=HB18.out.cell 3
   go_upto_region 15 with fail
   have s0:w8.cell? ⟨gB,0,none⟩=some (.int .i64 0):=HS8.out.cell 0
   have s1:w8.cell? ⟨gB,1,none⟩=some (.int .i64 len):=HS8.out.cell 1
   have zA:w8.cell? ⟨gA,2,none⟩=some (.slice none 0 0):=HA8.out.cell 2
   have fA:w8.frozen? ⟨gA,2,none⟩=false:=HA8.out.free 2 (.inr (Nat.zero_le _))
   have hsA:=HS8.out.lt
   have hltA:=HA8.out.lt
   have hBlt:=HB38.out.lt
   obtain ⟨wq,hwq⟩:∃wq,wq=w8.setCell ⟨gA,2,none⟩ (.slice (some ⟨w8.heap.size,0,none⟩) 1 1):=⟨_,rfl⟩
   have hsz:wq.heap.size=w8.heap.size:=by rw [hwq];simp [World.setCell]
   have hAq:Bk wq gA 37 #[.int .i64 200,.slice A5 MF.length c5,.slice (some ⟨w8.heap.size,0,none⟩) 1 1,.int .i64 len] (0,0):=by rw [hwq];simpa using HA8.out.set 2 (.slice (some ⟨w8.heap.size,0,none⟩) 1 1)
   have hBq:Bk wq (g+1+1+1) 37 #[.int .i64 0,.slice none 0 0,.slice none 0 0,.int .i64 0] (0,0):=by rw [hwq];exact HB38.out.far (p:=⟨gA,2,none⟩) (by simp only;omega) _
   have hOq:Own w wq 127 2 (.slice A5 MF.length c5) MF.length (flat2 MF):=by rw [hwq];exact Own.set HO8.out (own_ne_ty HO8.out HA8.out ansNeF) _ _
   have hGq:Gr w wq:=by rw [hwq];exact HG8.out.st (p:=⟨gA,2,none⟩) HLA.out _
   have hgP:=Gr.al (Gr.refl wq) (Obj.cells #[str [],.int .i64 0,.int .i64 len] 51)
   have hs1:=sl_lit wq 51 [str [],.int .i64 0,.int .i64 len] 1 (by decide)
   rw [hsz] at hs1
   go_upto_region 16 with fail
   rw [←hwq]
   refine at_world (P:=Code.wp _ _ _ _) (w0:=wq.alloc (Obj.cells #[str [],.int .i64 0,.int .i64 len] 51)) ?_
   intro wx hwx
   have HAx:=hid (show Bk wx gA 37 #[.int .i64 200,.slice A5 MF.length c5,.slice (some ⟨w8.heap.size,0,none⟩) 1 1,.int .i64 len] (0,0) from by rw [hwx];exact hAq.gr hgP)
   have HB3x:=hid (show Bk wx (g+1+1+1) 37 #[.int .i64 0,.slice none 0 0,.slice none 0 0,.int .i64 0] (0,0) from by rw [hwx];exact hBq.gr hgP)
   have HOx:=hid (show Own w wx 127 2 (.slice A5 MF.length c5) MF.length (flat2 MF) from by rw [hwx];exact hOq.gr hgP)
   have HGx:=hid (show Gr w wx from by rw [hwx];exact Gr.tr hGq hgP)
   have HPx:=hid (show Parts wx (.slice (some ⟨w8.heap.size,0,none⟩) 1 1) [([],0,len)] from by rw [hwx];exact hs1)
   clear hwx hs1 hgP hAq hBq hOq hGq hwq hsz hltA hBlt s0 s1 zA fA HA8 HB38 HO8 HG8 HS8
   generalize w8.heap.size=gP at *
   have u0:wx.cell? ⟨gA,0,none⟩=some (.int .i64 200):=HAx.out.cell 0
   have u1:wx.cell? ⟨gA,1,none⟩=some (.slice A5 MF.length c5):=HAx.out.cell 1
   have u2:wx.cell? ⟨gA,2,none⟩=some (.slice (some ⟨gP,0,none⟩) 1 1):=HAx.out.cell 2
   have u3:wx.cell? ⟨gA,3,none⟩=some (.int .i64 len):=HAx.out.cell 3
   obtain ⟨z0,z1,z2,z3⟩:=HB3x.out.cells4
   obtain ⟨f0,f1,f2,f3⟩:=HB3x.out.free4
   go_wp2_with fail
   refine at_world (P:=bodyPost _ _ _ _ _) (w0:=putCs wx (g+1+1+1) [.int .i64 200,.slice A5 MF.length c5,.slice (some ⟨gP,0,none⟩) 1 1,.int .i64 len] 0) ?_
   intro wy hwy
   obtain ⟨hy,hoy,hpy,hgy,hky⟩:=ans_put hwy HB3x.out rfl HLO.out HGx.out HOx.out HPx.out (ans_ne HPx.out (fun h=>by cases h) HB3x.out) (KeepT.gr HGx.out) HLO.out
   clear hwy
   obtain ⟨yz0,yz1,yz2,yz3⟩:=hy.cells4
   refine bodyPost_ret (v:=.agg #[.int .i64 200,.slice A5 MF.length c5,.slice (some ⟨gP,0,none⟩) 1 1,.int .i64 len]) (by simp [results,Tryz.results24,go_sem,yz0,yz1,yz2,yz3]) rfl ?_
   exact ansEnd_of HE.out hoy hpy (fun h=>by cases h) hgy
end Go.Proofs.YtflepnkpihfidaaGreatDoor
namespace Go.Proofs.YtflepnkpihfidaaGreatDoor
open Lib (hid)
open Go.RowKit
theorem len_pos_iff {α:Type} (l:List α) (b:Bool):(l≠[]∨b=true)↔(decide (0 < l.length)||b)=true:=by cases l <;> simp
set_option maxHeartbeats 16000000 in
set_option maxRecDepth 100000 in
theorem check_any (q:ReqT) (m:MetaT) (vs vm vn vk:Value) (w:World) (ha:ReqA w q vs vm vn) (hl:ReqLow q) (ht:m.tag.1.length≤140737488355328) :
  Calls Tryz.prog 25 #[reqV q vs vm vn,metaV m vk,.bool true] w fun e w'=>e=.returned (.int .i64 (checkL q m:Nat))∧Gr w w':=by
 obtain ⟨A1,a1,rfl,_,_,_⟩:=id ha.specs.open
 obtain ⟨A2,a2,rfl,_,_,_⟩:=id ha.mt.open
 obtain ⟨A3,a3,rfl,_,_,_⟩:=id ha.no.open
 have HI1:=hid (fun (x:World) (g:Gr w x)=>tagIn_any _ q.2.2.2.mt m.tag true x (ha.mt.gr g) hl.mt ht)
 have HI2:=hid (fun (x:World) (g:Gr w x)=>tagIn_any _ q.2.2.2.no m.tag false x (ha.no.gr g) hl.no ht)
 have HST:=hid (fun (x:World)=>tagStrong_any m.tag q.2.2.2.rg x ht hl.rg)
 obtain ⟨CR,hCR⟩:∃z,z=checkR q m:=⟨_,rfl⟩
 obtain ⟨CN,hCN⟩:∃z,z=checkN q m:=⟨_,rfl⟩
 obtain ⟨CK,hCK⟩:∃z,z=checkL q m:=⟨_,rfl⟩
 rw [←hCK]
 obtain ⟨P1,hP1⟩:∃z,z=(decide (0 < q.2.2.2.mt.length)||q.2.2.2.am):=⟨_,rfl⟩
 obtain ⟨P2,hP2⟩:∃z,z=(decide (0 < q.2.2.2.no.length)||q.2.2.2.an):=⟨_,rfl⟩
 obtain ⟨P3,hP3⟩:∃z,z=(decide (0 < q.2.2.1.length)&&(!(q.2.2.2.rg==(([],false):TagT))&&!strongT m.tag q.2.2.2.rg)):=⟨_,rfl⟩
 have k1:=show CK=if P1=true then (if (q.2.2.2.am||inT q.2.2.2.mt m.tag true)=true then CN else 4) else if 0≤q.2.2.2.un∧0≤m.mod∧q.2.2.2.un < m.mod then 4 else CN from by
  rw [hCK,hCN,hP1];unfold checkL;simp only [len_pos_iff]
 have k2:=show CN=if P2=true then (if (q.2.2.2.an||inT q.2.2.2.no m.tag false)=true then 3 else CR) else if 0≤q.2.2.2.si∧m.len≠-1∧0≤m.mod∧m.mod≤q.2.2.2.si then 3 else CR from by
  rw [hCN,hCR,hP2];unfold checkN;simp only [len_pos_iff]
 have k3:=show CR=if P3=true then 2 else 1 from by
  rw [hCR,hP3];unfold checkR
  have e:(q.2.2.1≠[]∧q.2.2.2.rg≠([],false)∧strongT m.tag q.2.2.2.rg=false)↔(decide (0 < q.2.2.1.length)&&(!(q.2.2.2.rg==(([],false):TagT))&&!strongT m.tag q.2.2.2.rg))=true:=by
   simp [List.length_pos_iff]
  simp only [e]
 have K1:=hid k1;have K2:=hid k2;have K3:=hid k3;have HP1:=hid hP1;have HP2:=hid hP2;have HP3:=hid hP3
 clear k1 k2 k3 hP1 hP2 hP3 hCR hCN hCK ha hl ht
 obtain ⟨hd,ob,sp,⟨mt,no,am,an,si,un,⟨rx,rk⟩⟩⟩:=q
 obtain ⟨⟨tg,tk⟩,mod,len,hv,fr,wh,er,keys,ten,kp⟩:=m
 unfold reqV metaV metaCs
 simp only at HI1 HI2 HST K1 K2 K3 HP1 HP2 HP3 ⊢
 generalize hI1:inT mt (tg,tk) true=I1 at *
 generalize hI2:inT no (tg,tk) false=I2 at *
 generalize hS3:strongT (tg,tk) (rx,rk)=S3 at *
 clear hI1 hI2 hS3
 generalize hvs:Value.slice A1 sp.length a1=vs at *
 have hqe:=neq_tag
 have hqg:=fun (w:World) (x y:Operand) (a b:Array Value)=>run_eqGuard_agg (P:=Tryz.prog) w .neq 25 x y a b (by kernel_rfl)
 go_enter Tryz.func25,Tryz.ntmps25
 go_upto_region 1 with fail
 obtain ⟨b0,b1,hg0⟩:=two_box w #[.bool hd,str ob,vs,.slice A2 mt.length a2,.slice A3 no.length a3,.bool am,.bool an,.int .i64 si,.int .i64 un,str rx,.bool rk] #[str tg,.bool tk,.int .i64 mod,.int .i64 len,.int .i64 hv,.int .i64 fr,.int .i64 wh,.int .i64 er,vk,str ten,.bool kp] 29 66
 refine at_world (P:=Code.wp _ _ _ _) (w0:=(w.alloc (Obj.cells #[.bool hd,str ob,vs,.slice A2 mt.length a2,.slice A3 no.length a3,.bool am,.bool an,.int .i64 si,.int .i64 un,str rx,.bool rk] 29)).alloc (Obj.cells #[str tg,.bool tk,.int .i64 mod,.int .i64 len,.int .i64 hv,.int .i64 fr,.int .i64 wh,.int .i64 er,vk,str ten,.bool kp] 66)) ?_
 intro w2 hw2
 rw [←hw2] at b0 b1 hg0
 clear hw2
 generalize hgq:w.heap.size=g at *
 have r3:w2.cell? ⟨g,3,none⟩=some (.slice A2 mt.length a2):=b0.cell 3
 have r4:w2.cell? ⟨g,4,none⟩=some (.slice A3 no.length a3):=b0.cell 4
 have r5:w2.cell? ⟨g,5,none⟩=some (.bool am):=b0.cell 5
 have r6:w2.cell? ⟨g,6,none⟩=some (.bool an):=b0.cell 6
 have r7:w2.cell? ⟨g,7,none⟩=some (.int .i64 si):=b0.cell 7
 have r8:w2.cell? ⟨g,8,none⟩=some (.int .i64 un):=b0.cell 8
 have r9:w2.cell? ⟨g,9,none⟩=some (str rx):=b0.cell 9
 have r10:w2.cell? ⟨g,10,none⟩=some (.bool rk):=b0.cell 10
 go_upto_block 0 with fail
 clear r3 r4 r5 r6 r7 r8 r9 r10
 have bc:=Bk.new w2 27 #[.slice A2 mt.length a2,.slice A3 no.length a3,.bool am,.bool an,.int .i64 si,.int .i64 un,str rx,.bool rk] (0,0)
 have hgc:=Gr.al (Gr.refl w2) (Obj.cells #[.slice A2 mt.length a2,.slice A3 no.length a3,.bool am,.bool an,.int .i64 si,.int .i64 un,str rx,.bool rk] 27)
 have hg3:=Gr.tr hg0 hgc
 have b0:=b0.gr hgc
 have b1:=b1.gr hgc
 generalize w2.alloc (Obj.cells #[.slice A2 mt.length a2,.slice A3 no.length a3,.bool am,.bool an,.int .i64 si,.int .i64 un,str rx,.bool rk] 27)=w3 at *
 generalize w2.heap.size=gc at *
 have HG3:=hid hg3
 have c0:∀x,Gr w3 x→x.cell? ⟨gc,0,none⟩=some (.slice A2 mt.length a2):=fun x h=>(bc.gr h).cell 0
 have c1:∀x,Gr w3 x→x.cell? ⟨gc,1,none⟩=some (.slice A3 no.length a3):=fun x h=>(bc.gr h).cell 1
 have c2:∀x,Gr w3 x→x.cell? ⟨gc,2,none⟩=some (.bool am):=fun x h=>(bc.gr h).cell 2
 have c3:∀x,Gr w3 x→x.cell? ⟨gc,3,none⟩=some (.bool an):=fun x h=>(bc.gr h).cell 3
 have c4:∀x,Gr w3 x→x.cell? ⟨gc,4,none⟩=some (.int .i64 si):=fun x h=>(bc.gr h).cell 4
 have c5:∀x,Gr w3 x→x.cell? ⟨gc,5,none⟩=some (.int .i64 un):=fun x h=>(bc.gr h).cell 5
 have c6:∀x,Gr w3 x→x.cell? ⟨gc,6,none⟩=some (str rx):=fun x h=>(bc.gr h).cell 6
 have c7:∀x,Gr w3 x→x.cell? ⟨gc,7,none⟩=some (.bool rk):=fun x h=>(bc.gr h).cell 7
 have m0:∀x,Gr w3 x→x.cell? ⟨g+1,0,none⟩=some (str tg):=fun x h=>(b1.gr h).cell 0
 have m1:∀x,Gr w3 x→x.cell? ⟨g+1,1,none⟩=some (.bool tk):=fun x h=>(b1.gr h).cell 1
 have m2:∀x,Gr w3 x→x.cell? ⟨g+1,2,none⟩=some (.int .i64 mod):=fun x h=>(b1.gr h).cell 2
 have m3:∀x,Gr w3 x→x.cell? ⟨g+1,3,none⟩=some (.int .i64 len):=fun x h=>(b1.gr h).cell 3
 have q2:∀x,Gr w3 x→x.cell? ⟨g,2,none⟩=some vs:=fun x h=>(b0.gr h).cell 2
 have h00:=Gr.refl w3
 clear bc b0 b1 hgc hg0 hg3
 go_cut [] (fun wx=>CK=CN∧Gr w3 wx)
 case first=>
  go_upto_region 2 with fail
  go_cut [10] (fun s wx=>s=.bool P1∧w3=wx)
  case first=>
   have vc0:w3.cell? ⟨gc,0,none⟩=some (.slice A2 mt.length a2):=c0 _ h00
   have vc2:w3.cell? ⟨gc,2,none⟩=some (.bool am):=c2 _ h00
   by_cases kn:0 < mt.length
   case pos=>
    have HE:=hid (show P1=true from by rw [HP1.out,decide_eq_true kn];rfl)
    go_wp2_with fail
    go_meet
    exact ⟨by rw [HE.out],rfl⟩
   cases am
   all_goals
    have HE:=hid HP1.out
    rw [decide_eq_false kn] at HE
    go_wp2_with fail
    go_meet
    exact ⟨by rw [HE.out];rfl,rfl⟩
  case rest=>
  obtain ⟨rfl,rfl⟩:=hcut
  cases P1 with
  | true=>
    have K1T:=hid (show CK=if (am||I1)=true then CN else 4 from K1.out.trans (by simp))
    go_upto_region 3 with fail
    go_cut [33] (fun s wx=>s=.bool (!(am||I1))∧Gr w3 wx)
    case first=>
     have vc0:w3.cell? ⟨gc,0,none⟩=some (.slice A2 mt.length a2):=c0 _ h00
     have vc2:w3.cell? ⟨gc,2,none⟩=some (.bool am):=c2 _ h00
     have vm0:w3.cell? ⟨g+1,0,none⟩=some (str tg):=m0 _ h00
     have vm1:w3.cell? ⟨g+1,1,none⟩=some (.bool tk):=m1 _ h00
     cases am with
     | true=>
       go_wp2_with fail
       go_meet
       exact ⟨rfl,h00⟩
     | false=>
       cases I1
       all_goals
        go_wp2_with (go_at_call 73;refine (HI1.out _ HG3.out).mono ?_;rintro e wn ⟨rfl,hgn⟩)
        go_meet
        exact ⟨rfl,hgn⟩
    case rest=>
    obtain ⟨rfl,hV⟩:=hcut
    cases hA:(am||I1) with
    | false=>
      have HX:=hid (show CK=4 from K1T.out.trans (by rw [hA];rfl))
      go_wp2_with fail
      go_ret
      exact ⟨by rw [HX.out];rfl,Gr.tr HG3.out hV⟩
    | true=>
      have HX:=hid (show CK=CN from K1T.out.trans (by rw [hA];rfl))
      generalize wc=wv at *
      go_wp2_with fail
      go_meet
      exact ⟨HX.out,hV⟩
  | false=>
    have K1F:=hid (show CK=if 0≤un∧0≤mod∧un < mod then 4 else CN from K1.out.trans (by simp))
    go_upto_region 5 with fail
    go_cut [34] (fun s wx=>s=.bool (decide (0≤un))∧w3=wx)
    case first=>
     have vc5:w3.cell? ⟨gc,5,none⟩=some (.int .i64 un):=c5 _ h00
     go_wp2_with fail
     go_meet
     exact ⟨rfl,rfl⟩
    case rest=>
    obtain ⟨rfl,rfl⟩:=hcut
    by_cases kU:0≤un
    case neg=>
     have dU:decide (0≤un)=false:=decide_eq_false kU
     have HX:=hid (show CK=CN from K1F.out.trans (if_neg (fun hh=>kU hh.1)))
     rw [dU]
     go_wp2_with fail
     go_meet
     exact ⟨HX.out,h00⟩
    have dU:decide (0≤un)=true:=decide_eq_true kU
    rw [dU]
    obtain ⟨B4,hB4⟩:∃z,z=(decide (0≤mod)&&decide (un < mod)):=⟨_,rfl⟩
    have HB4:=hid hB4
    have K1G:=hid (show CK=if B4=true then 4 else CN from K1F.out.trans (by rw [hB4];simp [kU]))
    clear hB4 dU kU
    go_upto_region 6 with fail
    go_cut [50] (fun s wx=>s=.bool B4∧w3=wx)
    case first=>
     have vm2:w3.cell? ⟨g+1,2,none⟩=some (.int .i64 mod):=m2 _ h00
     have vc5:w3.cell? ⟨gc,5,none⟩=some (.int .i64 un):=c5 _ h00
     by_cases e2:0≤mod
     case neg=>
      have d2:decide (0≤mod)=false:=decide_eq_false e2
      have HE:=hid (show B4=false from by rw [HB4.out];simp [e2])
      go_wp2_with fail
      go_meet
      exact ⟨by rw [HE.out],rfl⟩
     have d2:decide (0≤mod)=true:=decide_eq_true e2
     have HE:=hid (show B4=decide (un < mod) from by rw [HB4.out];simp [e2])
     go_wp2_with fail
     go_meet
     exact ⟨by rw [HE.out],rfl⟩
    case rest=>
    obtain ⟨rfl,rfl⟩:=hcut
    cases B4 with
    | true=>
      have HX:=hid (show CK=4 from K1G.out.trans (by simp))
      go_wp2_with fail
      go_ret
      exact ⟨by rw [HX.out];rfl,Gr.tr HG3.out h00⟩
    | false=>
      have HX:=hid (show CK=CN from K1G.out.trans (by simp))
      go_wp2_with fail
      go_meet
      exact ⟨HX.out,h00⟩
 case rest=>
 obtain ⟨hck,hV⟩:=hcut
 have HX1:=hid hck
 clear hck
 generalize wc=wv at *
 go_upto_block 1 with fail
 go_cut [] (fun wx=>CK=CR∧Gr w3 wx)
 case first=>
  go_upto_region 8 with fail
  go_cut [51] (fun s wx=>s=.bool P2∧wv=wx)
  case first=>
   have vc1:wv.cell? ⟨gc,1,none⟩=some (.slice A3 no.length a3):=c1 _ hV
   have vc3:wv.cell? ⟨gc,3,none⟩=some (.bool an):=c3 _ hV
   by_cases kn:0 < no.length
   case pos=>
    have HE:=hid (show P2=true from by rw [HP2.out,decide_eq_true kn];rfl)
    go_wp2_with fail
    go_meet
    exact ⟨by rw [HE.out],rfl⟩
   cases an
   all_goals
    have HE:=hid HP2.out
    rw [decide_eq_false kn] at HE
    go_wp2_with fail
    go_meet
    exact ⟨by rw [HE.out];rfl,rfl⟩
  case rest=>
  obtain ⟨rfl,rfl⟩:=hcut
  cases P2 with
  | true=>
    have K2T:=hid (show CN=if (an||I2)=true then 3 else CR from K2.out.trans (by simp))
    go_upto_region 9 with fail
    go_cut [71] (fun s wx=>s=.bool (an||I2)∧Gr w3 wx)
    case first=>
     have vc1:wv.cell? ⟨gc,1,none⟩=some (.slice A3 no.length a3):=c1 _ hV
     have vc3:wv.cell? ⟨gc,3,none⟩=some (.bool an):=c3 _ hV
     have vm0:wv.cell? ⟨g+1,0,none⟩=some (str tg):=m0 _ hV
     have vm1:wv.cell? ⟨g+1,1,none⟩=some (.bool tk):=m1 _ hV
     cases an with
     | true=>
       go_wp2_with fail
       go_meet
       exact ⟨rfl,hV⟩
     | false=>
       cases I2
       all_goals
        go_wp2_with (go_at_call 73;refine (HI2.out _ (Gr.tr HG3.out hV)).mono ?_;rintro e wn ⟨rfl,hgn⟩)
        go_meet
        exact ⟨rfl,Gr.tr hV hgn⟩
    case rest=>
    obtain ⟨rfl,hU⟩:=hcut
    cases hB:(an||I2) with
    | true=>
      have HX:=hid (show CK=3 from HX1.out.trans (K2T.out.trans (by rw [hB];rfl)))
      go_wp2_with fail
      go_ret
      exact ⟨by rw [HX.out];rfl,Gr.tr HG3.out hU⟩
    | false=>
      have HX:=hid (show CK=CR from HX1.out.trans (K2T.out.trans (by rw [hB];rfl)))
      go_wp2_with fail
      go_meet
      exact ⟨HX.out,hU⟩
  | false=>
    have K2F:=hid (show CN=if 0≤si∧len≠-1∧0≤mod∧mod≤si then 3 else CR from K2.out.trans (by simp))
    go_upto_region 11 with fail
    go_cut [72] (fun s wx=>s=.bool (decide (0≤si))∧wv=wx)
    case first=>
     have vc4:wv.cell? ⟨gc,4,none⟩=some (.int .i64 si):=c4 _ hV
     go_wp2_with fail
     go_meet
     exact ⟨rfl,rfl⟩
    case rest=>
    obtain ⟨rfl,rfl⟩:=hcut
    by_cases kS:0≤si
    case neg=>
     have dS:decide (0≤si)=false:=decide_eq_false kS
     have HX:=hid (show CK=CR from HX1.out.trans (K2F.out.trans (if_neg (fun hh=>kS hh.1))))
     rw [dS]
     go_wp2_with fail
     go_meet
     exact ⟨HX.out,hV⟩
    have dS:decide (0≤si)=true:=decide_eq_true kS
    rw [dS]
    obtain ⟨B5,hB5⟩:∃z,z=(decide (len≠-1)&&(decide (0≤mod)&&decide (mod≤si))):=⟨_,rfl⟩
    have HB5:=hid hB5
    have K2G:=hid (show CN=if B5=true then 3 else CR from K2F.out.trans (by rw [hB5];simp [kS]))
    clear hB5 dS kS
    go_upto_region 12 with fail
    go_cut [93] (fun s wx=>s=.bool B5∧wv=wx)
    case first=>
     have vm3:wv.cell? ⟨g+1,3,none⟩=some (.int .i64 len):=m3 _ hV
     have vm2:wv.cell? ⟨g+1,2,none⟩=some (.int .i64 mod):=m2 _ hV
     have vc4:wv.cell? ⟨gc,4,none⟩=some (.int .i64 si):=c4 _ hV
     by_cases e1:len= -1
     case pos=>
      have d1:(len != -1)=false:=by simp [e1]
      have HE:=hid (show B5=false from by rw [HB5.out];simp [e1])
      clear e1
      go_wp2_with fail
      go_meet
      exact ⟨by rw [HE.out],rfl⟩
     have d1:(len != -1)=true:=by simp [e1]
     by_cases e2:0≤mod
     case neg=>
      have d2:decide (0≤mod)=false:=decide_eq_false e2
      have HE:=hid (show B5=false from by rw [HB5.out];simp [e2])
      go_wp2_with fail
      go_meet
      exact ⟨by rw [HE.out],rfl⟩
     have d2:decide (0≤mod)=true:=decide_eq_true e2
     have HE:=hid (show B5=decide (mod≤si) from by rw [HB5.out];simp [e1,e2])
     clear e1
     go_wp2_with fail
     go_meet
     exact ⟨by rw [HE.out],rfl⟩
    case rest=>
    obtain ⟨rfl,rfl⟩:=hcut
    cases B5 with
    | true=>
      have HX:=hid (show CK=3 from HX1.out.trans (K2G.out.trans (by simp)))
      go_wp2_with fail
      go_ret
      exact ⟨by rw [HX.out];rfl,Gr.tr HG3.out hV⟩
    | false=>
      have HX:=hid (show CK=CR from HX1.out.trans (K2G.out.trans (by simp)))
      go_wp2_with fail
      go_meet
      exact ⟨HX.out,hV⟩
 case rest=>
 obtain ⟨hck,hU⟩:=hcut
 have HX2:=hid hck
 clear hck
 generalize wc=wu at *
 go_upto_region 14 with fail
 go_cut [114] (fun s wx=>s=.bool P3∧Gr w3 wx)
 case first=>
  have vq2:wu.cell? ⟨g,2,none⟩=some (vs):=q2 _ hU
  have vm0:wu.cell? ⟨g+1,0,none⟩=some (str tg):=m0 _ hU
  have vm1:wu.cell? ⟨g+1,1,none⟩=some (.bool tk):=m1 _ hU
  have vc6:wu.cell? ⟨gc,6,none⟩=some (str rx):=c6 _ hU
  have vc7:wu.cell? ⟨gc,7,none⟩=some (.bool rk):=c7 _ hU
  subst hvs
  by_cases kl:0 < sp.length
  case neg=>
   have HE:=hid (show P3=false from by rw [HP3.out,decide_eq_false kl];rfl)
   go_wp2_with fail
   go_meet
   exact ⟨by rw [HE.out],hU⟩
  cases hz:((rx,rk)==(([],false):TagT)) with
  | true=>
    have HE:=hid (show P3=false from by rw [HP3.out,hz];simp)
    go_wp2_with fail
    go_meet
    exact ⟨by rw [HE.out],hU⟩
  | false=>
    cases S3
    all_goals
     have HE:=hid HP3.out
     rw [hz,decide_eq_true kl] at HE
     go_wp2_with (go_at_call 74;refine (HST.out _).mono ?_;rintro e wn ⟨rfl,hgn⟩)
     go_meet
     exact ⟨by rw [HE.out];rfl,Gr.tr hU hgn⟩
 case rest=>
 obtain ⟨rfl,hT⟩:=hcut
 cases P3 with
 | true=>
   have HX:=hid (show CK=2 from HX2.out.trans (K3.out.trans (by simp)))
   go_wp2_with fail
   go_ret
   exact ⟨by rw [HX.out];rfl,Gr.tr HG3.out hT⟩
 | false=>
   have HX:=hid (show CK=1 from HX2.out.trans (K3.out.trans (by simp)))
   go_wp2_with fail
   go_ret
   exact ⟨by rw [HX.out];rfl,Gr.tr HG3.out hT⟩
end Go.Proofs.YtflepnkpihfidaaGreatDoor
namespace Go.Proofs.YtflepnkpihfidaaGreatDoor
open Lib (hid)
open Go.RowKit
def topR (q:ReqT):Bool:=(((((decide (q.2.1.length≤100)&&decide (q.2.2.1.length≤10))&&decide (q.2.2.2.mt.length≤4))&&decide (q.2.2.2.no.length≤4))&&objB q.2.1)&&condB q.2.2.2)&&q.2.2.1.all specB
set_option maxHeartbeats 1000000 in
theorem conf_any (w:World):Calls Tryz.prog 26 #[] w fun e w'=>e=.returned confV∧Gr w w':=by
 go_enter Tryz.func26,Tryz.ntmps26
 go_wp2_with fail
 have hb:=Bk.new w 75 #[.int .i64 4,.int .i64 0,.int .i64 64,.int .i64 8,.int .i64 2,.int .i64 1,.int .i64 8,.int .i64 400,.int .i64 400,.int .i64 16] (0,0)
 have hg:=Gr.al (Gr.refl w) (Obj.cells #[.int .i64 4,.int .i64 0,.int .i64 64,.int .i64 8,.int .i64 2,.int .i64 1,.int .i64 8,.int .i64 400,.int .i64 400,.int .i64 16] 75)
 refine at_world (P:=bodyPost _ _ _ _ _) (w0:=w.alloc (Obj.cells #[.int .i64 4,.int .i64 0,.int .i64 64,.int .i64 8,.int .i64 2,.int .i64 1,.int .i64 8,.int .i64 400,.int .i64 400,.int .i64 16] 75)) ?_
 intro wy hwy
 rw [←hwy] at hb hg
 clear hwy
 generalize w.heap.size=g at *
 have y0:wy.cell? ⟨g,0,none⟩=some (.int .i64 4):=hb.cell 0
 have y1:wy.cell? ⟨g,1,none⟩=some (.int .i64 0):=hb.cell 1
 have y2:wy.cell? ⟨g,2,none⟩=some (.int .i64 64):=hb.cell 2
 have y3:wy.cell? ⟨g,3,none⟩=some (.int .i64 8):=hb.cell 3
 have y4:wy.cell? ⟨g,4,none⟩=some (.int .i64 2):=hb.cell 4
 have y5:wy.cell? ⟨g,5,none⟩=some (.int .i64 1):=hb.cell 5
 have y6:wy.cell? ⟨g,6,none⟩=some (.int .i64 8):=hb.cell 6
 have y7:wy.cell? ⟨g,7,none⟩=some (.int .i64 400):=hb.cell 7
 have y8:wy.cell? ⟨g,8,none⟩=some (.int .i64 400):=hb.cell 8
 have y9:wy.cell? ⟨g,9,none⟩=some (.int .i64 16):=hb.cell 9
 refine bodyPost_ret (v:=.agg #[.int .i64 4,.int .i64 0,.int .i64 64,.int .i64 8,.int .i64 2,.int .i64 1,.int .i64 8,.int .i64 400,.int .i64 400,.int .i64 16]) (by simp [results,Tryz.results26,go_sem,y0,y1,y2,y3,y4,y5,y6,y7,y8,y9]) rfl ?_
 exact ⟨rfl,hg⟩
end Go.Proofs.YtflepnkpihfidaaGreatDoor
namespace Go.Proofs.YtflepnkpihfidaaGreatDoor
open Lib (hid)
open Go.RowKit
set_option maxHeartbeats 16000000 in
set_option maxRecDepth 100000 in
theorem topRight_any (q:ReqT) (vs vm vn:Value) (w:World) (ha:ReqA w q vs vm vn) (hl:ReqLow q):Calls Tryz.prog 7 #[reqV q vs vm vn] w fun e w'=>e=.returned (.bool (topR q))∧Gr w w':=by
 obtain ⟨hd,o,l,mt,no,am,an,si,un,rx,rk⟩:=q
 obtain ⟨ho,hrg,hmt,hno⟩:=hl
 simp only at ho hrg hmt hno
 obtain ⟨hs,hm,hn⟩:=ha
 simp only at hs hm hn
 obtain ⟨A1,a1,rfl,_,_,hA⟩:=id hs.open
 obtain ⟨A2,a2,rfl,_,_,_⟩:=id hm.open
 obtain ⟨A3,a3,rfl,_,_,_⟩:=id hn.open
 have HOB:=hid (fun (x:World)=>refObject_any o x (by omega))
 have HCR:=hid (fun (x:World) (g:Gr w x) (h1:mt.length≤4) (h2:no.length≤4)=>show Calls Tryz.prog 37 #[.agg #[.slice A2 mt.length a2,.slice A3 no.length a3,.bool am,.bool an,.int .i64 si,.int .i64 un,str rx,.bool rk]] x _ from refCondRight_any ⟨mt,no,am,an,si,un,(rx,rk)⟩ _ _ x (hm.gr g) (hn.gr g) hmt hno (by simp only;omega) (by simp only;omega) hrg)
 have HSR:=hid (fun (s:SpecT) (x:World)=>show Calls Tryz.prog 38 #[.agg #[.int .i64 s.1,.int .i64 s.2]] x (fun e w'=>e=.returned (.bool (specB s))∧Gr x w') from refSpecRight_any s.1 s.2 x)
 have HA:=hid (fun (k:Nat) (h:k < l.length)=>hA k h)
 have hbr:=Bk.new w 29 #[.bool hd,str o,.slice A1 l.length a1,.slice A2 mt.length a2,.slice A3 no.length a3,.bool am,.bool an,.int .i64 si,.int .i64 un,str rx,.bool rk] (0,0)
 have hG0:=Gr.al (Gr.refl w) (Obj.cells #[.bool hd,str o,.slice A1 l.length a1,.slice A2 mt.length a2,.slice A3 no.length a3,.bool am,.bool an,.int .i64 si,.int .i64 un,str rx,.bool rk] 29)
 have HQ:=hid (show topR (hd,o,l,⟨mt,no,am,an,si,un,(rx,rk)⟩)=((((((decide (o.length≤100)&&decide (l.length≤10))&&decide (mt.length≤4))&&decide (no.length≤4))&&objB o)&&condB ⟨mt,no,am,an,si,un,(rx,rk)⟩)&&l.all specB) from rfl)
 generalize topR (hd,o,l,⟨mt,no,am,an,si,un,(rx,rk)⟩)=RB at *
 generalize condB ⟨mt,no,am,an,si,un,(rx,rk)⟩=cb at *
 generalize hLB:l.all specB=lb at *
 generalize objB o=ob at *
 have HLB:=hid hLB.symm
 clear hs hm hn hA hmt hno hLB
 unfold reqV
 simp only
 go_enter Tryz.func7,Tryz.ntmps7
 go_upto_region 1 with fail
 generalize w.alloc (Obj.cells #[.bool hd,str o,.slice A1 l.length a1,.slice A2 mt.length a2,.slice A3 no.length a3,.bool am,.bool an,.int .i64 si,.int .i64 un,str rx,.bool rk] 29)=w0 at *
 generalize w.heap.size=g at *
 have r0:∀x,Gr w0 x→x.cell? ⟨g,0,none⟩=some (.bool hd):=fun x h=>(hbr.gr h).cell 0
 have r1:∀x,Gr w0 x→x.cell? ⟨g,1,none⟩=some (str o):=fun x h=>(hbr.gr h).cell 1
 have r2:∀x,Gr w0 x→x.cell? ⟨g,2,none⟩=some (.slice A1 l.length a1):=fun x h=>(hbr.gr h).cell 2
 have r3:∀x,Gr w0 x→x.cell? ⟨g,3,none⟩=some (.slice A2 mt.length a2):=fun x h=>(hbr.gr h).cell 3
 have r4:∀x,Gr w0 x→x.cell? ⟨g,4,none⟩=some (.slice A3 no.length a3):=fun x h=>(hbr.gr h).cell 4
 have r5:∀x,Gr w0 x→x.cell? ⟨g,5,none⟩=some (.bool am):=fun x h=>(hbr.gr h).cell 5
 have r6:∀x,Gr w0 x→x.cell? ⟨g,6,none⟩=some (.bool an):=fun x h=>(hbr.gr h).cell 6
 have r7:∀x,Gr w0 x→x.cell? ⟨g,7,none⟩=some (.int .i64 si):=fun x h=>(hbr.gr h).cell 7
 have r8:∀x,Gr w0 x→x.cell? ⟨g,8,none⟩=some (.int .i64 un):=fun x h=>(hbr.gr h).cell 8
 have r9:∀x,Gr w0 x→x.cell? ⟨g,9,none⟩=some (str rx):=fun x h=>(hbr.gr h).cell 9
 have r10:∀x,Gr w0 x→x.cell? ⟨g,10,none⟩=some (.bool rk):=fun x h=>(hbr.gr h).cell 10
 have h00:Gr w0 w0:=Gr.refl w0
 have HG0:=hid hG0
 clear hG0 hbr
 obtain ⟨P,hP⟩:∃P,P=(((((decide (o.length≤100)&&decide (l.length≤10))&&decide (mt.length≤4))&&decide (no.length≤4))&&ob)&&cb):=⟨_,rfl⟩
 have HPD:=hid hP
 have HQ:=hid (show RB=(P&&lb) from by rw [HQ.out,hP])
 clear hP
 obtain ⟨NP,hNP⟩:∃NP,NP=!P:=⟨_,rfl⟩
 have HNP:=hid hNP
 clear hNP
 go_cut [40] (fun s wx=>s=.bool NP∧Gr w0 wx)
 case first=>
  have v1:w0.cell? ⟨g,1,none⟩=some (str o):=r1 _ h00
  have v2:w0.cell? ⟨g,2,none⟩=some (.slice A1 l.length a1):=r2 _ h00
  have v3:w0.cell? ⟨g,3,none⟩=some (.slice A2 mt.length a2):=r3 _ h00
  have v4:w0.cell? ⟨g,4,none⟩=some (.slice A3 no.length a3):=r4 _ h00
  have v5:w0.cell? ⟨g,5,none⟩=some (.bool am):=r5 _ h00
  have v6:w0.cell? ⟨g,6,none⟩=some (.bool an):=r6 _ h00
  have v7:w0.cell? ⟨g,7,none⟩=some (.int .i64 si):=r7 _ h00
  have v8:w0.cell? ⟨g,8,none⟩=some (.int .i64 un):=r8 _ h00
  have v9:w0.cell? ⟨g,9,none⟩=some (str rx):=r9 _ h00
  have v10:w0.cell? ⟨g,10,none⟩=some (.bool rk):=r10 _ h00
  clear r0 r1 r2 r3 r4 r5 r6 r7 r8 r9 r10
  by_cases k0:o.length≤100
  case neg=>
   have d0:decide (100 < (o.length:Int))=true:=decide_eq_true (by omega)
   have HE:=hid (show P=false from by rw [HPD.out,decide_eq_false k0];simp)
   go_wp2_with fail
   go_meet
   exact ⟨by rw [HNP.out,HE.out];rfl,h00⟩
  have d0:decide (100 < (o.length:Int))=false:=decide_eq_false (by omega)
  by_cases k1:l.length≤10
  case neg=>
   have d1:decide (10 < (l.length:Int))=true:=decide_eq_true (by omega)
   have HE:=hid (show P=false from by rw [HPD.out,decide_eq_false k1,decide_eq_true k0];simp)
   go_wp2_with fail
   go_meet
   exact ⟨by rw [HNP.out,HE.out];rfl,h00⟩
  have d1:decide (10 < (l.length:Int))=false:=decide_eq_false (by omega)
  by_cases k2:mt.length≤4
  case neg=>
   have d2:decide (4 < (mt.length:Int))=true:=decide_eq_true (by omega)
   have HE:=hid (show P=false from by rw [HPD.out,decide_eq_false k2,decide_eq_true k0,decide_eq_true k1];simp)
   go_wp2_with fail
   go_meet
   exact ⟨by rw [HNP.out,HE.out];rfl,h00⟩
  have d2:decide (4 < (mt.length:Int))=false:=decide_eq_false (by omega)
  by_cases k3:no.length≤4
  case neg=>
   have d3:decide (4 < (no.length:Int))=true:=decide_eq_true (by omega)
   have HE:=hid (show P=false from by rw [HPD.out,decide_eq_false k3,decide_eq_true k0,decide_eq_true k1,decide_eq_true k2];simp)
   go_wp2_with fail
   go_meet
   exact ⟨by rw [HNP.out,HE.out];rfl,h00⟩
  have d3:decide (4 < (no.length:Int))=false:=decide_eq_false (by omega)
  have HPE:=hid (show P=(ob&&cb) from by rw [HPD.out,decide_eq_true k0,decide_eq_true k1,decide_eq_true k2,decide_eq_true k3];simp)
  have HCX:=hid (fun (x:World) (g:Gr w x)=>HCR.out x g k2 k3)
  clear k0 k1 k2 k3 HCR HPD
  cases ob with
  | false=>
    go_wp2_with (go_at_call 36;refine (HOB.out _).mono ?_;rintro e wn ⟨rfl,hgn⟩)
    go_meet
    exact ⟨by rw [HNP.out,HPE.out];rfl,hgn⟩
  | true=>
    cases cb
    all_goals
     go_wp2_with (first | (go_at_call 36;refine (HOB.out _).mono ?_;rintro e wn ⟨rfl,hgn⟩;have v3:=Gr.cell hgn v3;have v4:=Gr.cell hgn v4;have v5:=Gr.cell hgn v5;have v6:=Gr.cell hgn v6;have v7:=Gr.cell hgn v7;have v8:=Gr.cell hgn v8;have v9:=Gr.cell hgn v9;have v10:=Gr.cell hgn v10) | (go_at_call 37;refine (HCX.out _ (Gr.tr HG0.out hgn)).mono ?_;rintro e wp ⟨rfl,hgp⟩))
     go_meet
     exact ⟨by rw [HNP.out,HPE.out];rfl,Gr.tr hgn hgp⟩
 case rest=>
 obtain ⟨rfl,h01⟩:=hcut
 generalize wc=w1 at *
 have HG1:=hid (Gr.tr HG0.out h01)
 cases NP with
 | true=>
   have HX:=hid (show RB=false from HQ.out.trans (by rw [show P=false from by have:=HNP.out;revert this;cases P <;> simp];rfl))
   go_wp2_with fail
   go_ret
   exact ⟨ret_bool HX.out.symm,HG1.out⟩
 | false=>
 have HX:=hid (show RB=l.all specB from HQ.out.trans (by rw [show P=true from by have:=HNP.out;revert this;cases P <;> simp,HLB.out];rfl))
 have v2:w1.cell? ⟨g,2,none⟩=some (.slice A1 l.length a1):=r2 _ h01
 clear r0 r1 r2 r3 r4 r5 r6 r7 r8 r9 r10 h00 h01 HQ HCR HOB HPD
 go_wp2_with fail
 go_loopw [4,44] (fun x4 i wr=>∃k:Nat,k≤l.length∧i=.int .i64 k∧Gr w wr∧(l.take k).all specB=true) (fun _ i _=>l.length-(intOf i).toNat)
 case atStart=>exact ⟨0,Nat.zero_le _,rfl,HG1.out,rfl⟩
 case round=>
  obtain ⟨k,hk,rfl,hG,hE⟩:=hrel
  have HE:=hid hE
  clear hE
  by_cases hlt:k < l.length
  ·obtain ⟨b5,o5,rfl,hb5,p5,p6⟩:=HA.out k hlt
   have p5:=Gr.cell hG p5
   have p6:=Gr.cell hG p6
   have HT:=hid (HSR.out l[k])
   go_upto_region 6 with fail
   have hGb:=Gr.al (Gr.refl wr) (Obj.cells #[.int .i64 l[k].1,.int .i64 l[k].2] 96)
   have hbb:=Bk.new wr 96 #[.int .i64 l[k].1,.int .i64 l[k].2] (0,0)
   have hG:=Gr.tr hG hGb
   generalize wr.alloc (Obj.cells #[.int .i64 l[k].1,.int .i64 l[k].2] 96)=wb at *
   obtain ⟨y0,y1⟩:=hbb.cells2
   clear hGb hbb
   cases hz:specB l[k] with
   | true=>
     rw [hz] at HT
     have HS:=hid (all_take_succ _ l k hlt HE.out hz)
     go_wp2_with (go_at_call 38;refine (HT.out _).mono ?_;rintro e wn ⟨rfl,hgn⟩)
     exact ⟨⟨k+1,by omega,by go_num,Gr.tr hG hgn,HS.out⟩,by simp [intOf];omega⟩
   | false=>
     rw [hz] at HT
     have HN:=hid (show RB=false from by rw [HX.out,List.all_eq_false];exact ⟨l[k],List.getElem_mem hlt,by simp [hz]⟩)
     go_wp2_with (go_at_call 38;refine (HT.out _).mono ?_;rintro e wn ⟨rfl,hgn⟩)
     go_ret
     exact ⟨ret_bool HN.out.symm,Gr.tr hG hgn⟩
  ·have hvk:l.take k=l:=List.take_of_length_le (by omega)
   have HN:=hid (show RB=true from by rw [HX.out];have:=HE.out;rwa [hvk] at this)
   clear hvk
   go_wp2_with fail
   go_ret
   exact ⟨ret_bool HN.out.symm,hG⟩
end Go.Proofs.YtflepnkpihfidaaGreatDoor
