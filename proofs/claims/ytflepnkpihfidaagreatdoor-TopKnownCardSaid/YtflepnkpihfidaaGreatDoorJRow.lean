/- Parts. No conditions but those that each theorem names. -/
import Derived.Test.YtflepnkpihfidaaGreatDoorCards
import Derived.Test.YtflepnkpihfidaaGreatDoorTie
import Derived.WalkKit
import Derived.ProofKit
import Derived.OpenShut
import Derived.Deep.DeepHandedRow
import Derived.Test.YtflepnkpihfidaaGreatDoorJWords
import Derived.Test.YtflepnkpihfidaaGreatDoorShelf
import Derived.SliceStrings
import Derived.Deep.Slices
import Derived.Deep.Fields
import Derived.Lib.SmallJoins
set_option linter.unusedVariables false
set_option linter.unusedSimpArgs false
namespace Go.Proofs.YtflepnkpihfidaaGreatDoor
open Go.ChangeShapes Go.WideShapes Go.ChangeAt Go.RowKit
open Go.ChangeMaps (open_string shut_string)
theorem rowLaidOut:laidOutB Tryz.prog=true:=by kernel_rfl
theorem rowOwn:ownKnob Tryz.prog.godebug=none:=by kernel_rfl
def tabCells:DataW Unit→Array Value
 | .agg l=>(l.flatMap fun
   | .lit (.int k n)=>[Value.int k n]
   | .lit (.string b)=>[Value.string ⟨b.toArray⟩]
   | .agg m=>m.map fun
     | .lit (.int k n)=>Value.int k n
     | _=>undef
   | _=>[]).toArray
 | _=>#[]
def relay (d:DataW Unit):Obj→Obj
 | .cells _ t frozen=>.cells (tabCells d) t frozen
 | o=>o
def relayE (t:TypeId) (n:Nat):Obj→Obj
 | .cells _ ty frozen=>.cells #[.iface t (.pointer (some ⟨n,0,none⟩))] ty frozen
 | o=>o
def errCells:DataW Unit→Array Value
 | .iface _ (.ptr (.agg [.lit (.string b)]))=>#[.string ⟨b.toArray⟩]
 | _=>#[]
noncomputable def laidWorld (os:Os):World:=
 { World.holding Tryz.prog os ⟨#[],#[],[]⟩ with heap:=((((((((((World.holding Tryz.prog os ⟨#[],#[],[]⟩).heap).modify 4 (relay Rows.laid_math_bits_deBruijn32tab)).modify 5 (relay Rows.laid_math_bits_deBruijn64tab)).modify 1 (relay Rows.laid_internal_strconv_uint64pow10)).modify 7 (relay Rows.laid_unicode_utf8_acceptRanges)).modify 3 (relayE 364 (((World.holding Tryz.prog os ⟨#[],#[],[]⟩).heap).size+0))).modify 2 (relayE 364 (((World.holding Tryz.prog os ⟨#[],#[],[]⟩).heap).size+1))).modify 6 (relay Rows.laid_unicode_utf8_first)).push (.cells (errCells Rows.laid_strconv_ErrRange) 366)).push (.cells (errCells Rows.laid_strconv_ErrSyntax) 366) }
section
variable {H : Type} {enc : TypeId × Value → H} {P : Program}
theorem law_post {f:Func} {s:ChangeSpec} {apart fresh handsOn again:Bool} {W W':World} {args:Array Value} {v:Value} {ds gs:List (DataW H)} {before pa pv:List MemPlace}
  (hW:DataW.Whole enc P f.params.toList s.vars apart W args.toList ds gs before)
  (hres:∀(b:Nat) (sp:Nat→Bool) (hd:Bool),DataW.TrodAll enc P W' b sp hd f.resultTypes.toList (v.resultList f.resultTypes.size) (s.fn H (ds++gs)).results [])
  (hargs:∀sp:Nat→Bool,(∀p∈before,sp p.block=true)→DataW.TrodAll enc P W' 0 sp true f.params.toList args.toList (s.fn H (ds++gs)).args pa)
  (hvars:∀sp:Nat→Bool,(∀p∈before,sp p.block=true)→DataW.TrodVars enc P W' sp s.vars (s.fn H (ds++gs)).vars pv)
  (hps:before=pa++pv) (hb:Gr W W')
  (hok:∀(j:Nat) (t:TypeId) (r:Value),f.resultTypes[j]?=some t→(v.resultList f.resultTypes.size)[j]?=some r→Value.okWide P W' .any 0 t r) :
  s.post enc P f apart fresh handsOn again W args v W':=by
 have hlt:∀p∈before,p.block < W.heap.size:=fun p hp=>hW.lt p hp
 have hold:∀p∈before,(fun b=>decide (b < W.heap.size)) p.block=true:=fun p hp=>by simpa using hlt p hp
 have hin:∀p,p∈before→p∈pa++pv:=fun p hp=>by rw [←hps];exact hp
 refine ⟨ds,gs,before,[],pa,pv,hW,hres _ _ _,hargs _ hold,hvars _ hold,World.keptBut_mono (fun p hp=>⟨hp,.inr (List.mem_append.1 (hin p hp))⟩) (Below.frame hb (·∈before)),fun _=>?_⟩
 obtain ⟨_,_,_,_,_,hz,hn⟩:=hW
 refine ⟨hok,_,_,([]++pa)++pv,⟨[]++pa,pv,trodAll_append (hargs _ (fun _ _=>rfl)) (hres _ _ _),hvars _ (fun _ _=>rfl),rfl,fun b off hp=>?_,fun ha=>?_⟩,fun p hp _=>?_⟩
 ·have hbf:MemPlace.cell b off∈before:=by rw [hps];simpa using hp
  rw [Below.frozen hb (hlt _ hbf)]
  exact hz b off hbf
 ·have:=hn ha
  rw [hps] at this
  simpa using this
 ·rw [hps];simpa using hp
theorem args_stay (hl:laidOutB P=true) {W W':World} (hb:Gr W W') {sp:Nat→Bool}:∀{ts:List TypeId} {vs:List Value} {ds:List (DataW H)} {ps:List MemPlace},
  (∀t∈ts,P.readableRec t=true∧t < P.types.size)→(∀p∈ps,p.block < W.heap.size)→(∀p∈ps,sp p.block=true)→
  DataW.TrodAll enc P W 0 (fun _=>true) true ts vs ds ps→DataW.TrodAll enc P W' 0 sp true ts vs ds ps
 | [],[],[],_,_,_,_,h=>h
 | t::ts,v::vs,d::ds,ps,hr,hlt,hsp,h=>by
   obtain ⟨p,q,h1,h2,rfl⟩:=h
   refine ⟨p,q,WideElems.Trod_stays hl (hr t (by simp)).1 (hr t (by simp)).2 h1 (fun x hx=>Below.same hb (hlt x (by simp [hx]))) (fun x hx=>hsp x (by simp [hx])),?_,rfl⟩
   exact args_stay hl hb (fun t ht=>hr t (by simp [ht])) (fun x hx=>hlt x (by simp [hx])) (fun x hx=>hsp x (by simp [hx])) h2
 | [],[],_::_,_,_,_,_,h=>h.elim
 | [],_::_,_,_,_,_,_,h=>h.elim
 | _::_,[],_,_,_,_,_,h=>h.elim
 | _::_,_::_,[],_,_,_,_,h=>h.elim
theorem law_done {f:Func} {s:ChangeSpec} {tb:TypeId} {fresh handsOn again:Bool} {W W':World} {args:Array Value} {ds:List (DataW H)} {before:List MemPlace}
  (hl:laidOutB P=true) (hrb:(f.params.toList.all fun t=>P.readableRec t&&decide (t < P.types.size))=true) (hv:s.vars=[]) (htb:P.underlying tb=some .bool) (hrt:f.resultTypes=#[tb])
  (hfn:s.fn H (ds++[])={ results:=[.lit (.bool true)],args:=ds })
  (hW:DataW.Whole enc P f.params.toList s.vars false W args.toList ds [] before) (hb:Gr W W') :
  s.post enc P f false fresh handsOn again W args (.bool true) W':=by
 have hr:∀t∈f.params.toList,P.readableRec t=true∧t < P.types.size:=fun t ht=>by simpa using List.all_eq_true.1 hrb t ht
 obtain ⟨p,q,hA,hV,he,hz,hn⟩:=id hW
 rw [hv] at hV
 obtain ⟨_,rfl⟩:=trodVars_none hV
 rw [List.append_nil] at he
 subst he
 refine law_post (pa:=before) (pv:=[]) hW (fun _ _ _=>?_) (fun sp hsp=>?_) (fun _ _=>?_) (by simp) hb ?_
 ·rw [hfn,hrt];exact trodAll_cons_mk (shut_bool htb _) trodAll_mk0
 ·rw [hfn];exact args_stay hl hb hr (fun x hx=>hW.lt x hx) hsp hA
 ·rw [hv,hfn];exact rfl
 ·rw [hrt]
  intro j t r hj hr
  match j,hj,hr with
  | 0,hj,hr=>
    simp only [List.getElem?_toArray,List.getElem?_cons_zero,Option.some.injEq] at hj
    subst hj
    have:r=.bool true:=by simpa [Value.resultList] using hr.symm
    subst this
    exact okWide_bool_mk htb _
  | j+1,hj,_=>simp at hj
end
end Go.Proofs.YtflepnkpihfidaaGreatDoor
namespace Go.Proofs.YtflepnkpihfidaaGreatDoor
open Go.ChangeShapes Go.WideShapes Go.ChangeAt Go.RowKit Go.Deep Go.Joins
open Go.ChangeMaps (open_string shut_string)
section
variable {H : Type} {enc : TypeId × Value → H} {P : Program}
theorem ba_eta (s:ByteArray):Value.string s=str s.data.toList:=by simp [str]
theorem reach_le {n:Nat} (h:n≤reachBytes):n≤140737488355328:=by unfold reachBytes at h;omega
theorem list_of {α:Type} {R:Nat→α→Prop}:∀n:Nat,(∀i,i < n→∃x,R i x)→∃xs:List α,xs.length=n∧∀(i:Nat) (h:i < xs.length),R i xs[i]
 | 0,_=>⟨[],rfl,fun i h=>by simp at h⟩
 | n+1,h=>by
   obtain ⟨xs,hl,hx⟩:=list_of n (fun i hi=>h i (by omega))
   obtain ⟨x,hxn⟩:=h n (by omega)
   refine ⟨xs++[x],by simp [hl],fun i hi=>?_⟩
   by_cases e:i < xs.length
   ·rw [List.getElem_append_left e];exact hx i e
   ·have:i=n:=by simp at hi;omega
    subst this
    rw [List.getElem_append_right (by omega)];simpa [hl] using hxn
theorem weightsAll_mem {e:TypeId} {l:List (DataW H)} {d:DataW H} (h:d∈l) {n:Nat} (hn:n∈d.weights P e):n∈DataW.weightsAll P e l:=by
 induction l with
 | nil=>cases h
 | cons x r ih=>
   simp only [DataW.weightsAll,List.mem_append]
   rcases List.mem_cons.1 h with rfl | h
   ·exact .inl hn
   ·exact .inr (ih h)
theorem add_none {W:World} {a:Addr} {v:Value} (h:W.cell? a=some v):a=⟨a.block,a.off,none⟩:=by
 obtain ⟨b,o,s⟩:=a
 cases s with
 | none=>rfl
 | some s=>unfold World.cell? at h;simp at h;split at h <;> simp_all
theorem add_at (b o j:Nat):(Addr.mk b o none).add j=⟨b,o+j,none⟩:=by unfold Addr.add;split <;> simp_all
end
end Go.Proofs.YtflepnkpihfidaaGreatDoor
namespace Go.Proofs.YtflepnkpihfidaaGreatDoor
open Go.ChangeShapes Go.WideShapes Go.ChangeAt Go.RowKit Go.Deep Go.Joins
inductive Sh where
 | str
 | int (k:IntKind)
 | bool
 | slice (e:Sh)
 | struct (r:Sh)
 | nil
 | seq (a r:Sh)
def Sh.size:Sh→Nat
 | .nil=>0
 | .seq a r=>a.size+r.size
 | .struct r=>r.size
 | _=>1
def Rd:Sh→World→List Value→Prop
 | .str,_,cs=>∃l,cs=[Go.Proofs.YtflepnkpihfidaaGreatDoor.str l]∧l.length≤140737488355328
 | .int k,_,cs=>∃x,cs=[.int k x]∧(Lit.int k x).wf=true
 | .bool,_,cs=>∃b,cs=[.bool b]
 | .slice e,w,cs=>∃(v:Value) (rows:List (List Value)),cs=[v]∧rows.length≤140737488355328∧Sl w v rows.length rows.flatten∧∀r∈rows,r.length=e.size∧Rd e w r
 | .struct r,w,cs=>Rd r w cs
 | .nil,_,cs=>cs=[]
 | .seq a r,w,cs=>∃c1 c2,cs=c1++c2∧c1.length=a.size∧Rd a w c1∧Rd r w c2
section
variable {H : Type} {enc : TypeId × Value → H} {P : Program}
def fits (P:Program):Sh→TypeId ⊕ (List Field×Nat)→Bool
 | .str,.inl t=>match P.underlying t with | some .string=>true | _=>false
 | .int k,.inl t=>match P.underlying t with | some (.int k')=>decide (k'=k) | _=>false
 | .bool,.inl t=>match P.underlying t with | some .bool=>true | _=>false
 | .slice e,.inl t=>match P.underlying t with | some (.slice e')=>fits P e (.inl e')&&decide (P.cellsOf e'=e.size)&&decide (1≤P.bytesOf e')&&decide (1≤e.size) | _=>false
 | .struct r,.inl t=>match P.underlying t with | some (.struct fs)=>fits P r (.inr (fs.toList,0))&&decide (P.cellsOf t=r.size) | _=>false
 | .nil,.inr (fs,_)=>fs.isEmpty
 | .seq a r,.inr (f::fs,off)=>decide (f.offset=off)&&decide (P.cellsOf f.type=a.size)&&fits P a (.inl f.type)&&fits P r (.inr (fs,off+a.size))
 | _,_=>false
theorem weightsEach_cons {t:TypeId} {ts:List TypeId} {d:DataW H} {ds:List (DataW H)}:DataW.weightsEach P (t::ts) (d::ds)=d.weights P t++DataW.weightsEach P ts ds:=by simp [DataW.weightsEach]
theorem flatten_at {rows:List (List Value)} {k:Nat} (h:∀r∈rows,r.length=k) {i j:Nat} (hi:i < rows.length) (hj:j < k):rows.flatten[i*k+j]?=rows[i][j]?:=by
 induction rows generalizing i with
 | nil=>simp at hi
 | cons r rs ih=>
   have hr:=h r (List.mem_cons_self ..)
   cases i with
   | zero=>
     rw [List.flatten_cons,List.getElem?_append_left (by omega)];simp
   | succ i=>
     have:=ih (fun x hx=>h x (List.mem_cons_of_mem _ hx)) (i:=i) (by simpa using hi)
     rw [List.flatten_cons,List.getElem?_append_right (by rw [hr,Nat.succ_mul];omega),hr,show (i+1)*k+j-k=i*k+j from by rw [Nat.succ_mul];omega,this]
     simp
theorem flatten_len {rows:List (List Value)} {k:Nat} (h:∀r∈rows,r.length=k):rows.flatten.length=rows.length*k:=by
 induction rows with
 | nil=>simp
 | cons r rs ih=>
   rw [List.flatten_cons,List.length_append,ih (fun x hx=>h x (List.mem_cons_of_mem _ hx)),h r (List.mem_cons_self ..),List.length_cons,Nat.succ_mul];omega
def FieldsRd (enc:TypeId×Value→H) (P:Program) (W:World) (n:Nat) (cs:List Value) (fs:List Field) (xs:List (DataW H×List MemPlace)):Prop:=
 xs.length=fs.length∧∀(i:Nat) (f:Field),fs[i]?=some f→DataW.trod enc P W 0 (fun _=>true) true n f.type ((cs.drop f.offset).take (P.cellsOf f.type))=xs[i]?
theorem rd_of {W:World} (sh:Sh) :
  (∀(t:TypeId) (fuel:Nat) (cs:List Value) (x:DataW H×List MemPlace),fits P sh (.inl t)=true→DataW.trod enc P W 0 (fun _=>true) true fuel t cs=some x→(∀n∈x.1.weights P t,n≤reachBytes)→Rd sh W cs)∧
  (∀(fs:List Field) (off n:Nat) (cs:List Value) (xs:List (DataW H×List MemPlace)),fits P sh (.inr (fs,off))=true→FieldsRd enc P W n cs fs xs→(∀m∈DataW.weightsEach P (fs.map (·.type)) (xs.map (·.1)),m≤reachBytes)→cs.length=off+sh.size→Rd sh W (cs.drop off)):=by
 induction sh with
 | str=>
   refine ⟨fun t fuel cs x hf h hz=>?_,fun fs off n cs xs hf=>by simp [fits] at hf⟩
   have ht:P.underlying t=some .string:=by unfold fits at hf;split at hf <;> simp_all
   obtain ⟨s,rfl,rfl,_⟩:=DataW.trod_string ht h
   exact ⟨s.data.toList,by rw [←ba_eta],reach_le (hz _ (by simp [DataW.weights]))⟩
 | int k=>
   refine ⟨fun t fuel cs x hf h hz=>?_,fun fs off n cs xs hf=>by simp [fits] at hf⟩
   have ht:P.underlying t=some (.int k):=by unfold fits at hf;split at hf <;> simp_all
   obtain ⟨y,rfl,rfl,hw⟩:=DataW.trod_int ht h
   exact ⟨y,rfl,hw⟩
 | bool=>
   refine ⟨fun t fuel cs x hf h hz=>?_,fun fs off n cs xs hf=>by simp [fits] at hf⟩
   have ht:P.underlying t=some .bool:=by unfold fits at hf;split at hf <;> simp_all
   obtain ⟨y,rfl,rfl⟩:=DataW.trod_bool ht h
   exact ⟨y,rfl⟩
 | slice e ih=>
   refine ⟨fun t fuel cs x hf h hz=>?_,fun fs off n cs xs hf=>by simp [fits] at hf⟩
   obtain ⟨e',ht,he,hc,hby,hsz⟩:∃e',P.underlying t=some (.slice e')∧fits P e (.inl e')=true∧P.cellsOf e'=e.size∧1≤P.bytesOf e'∧1≤e.size:=by
    unfold fits at hf
    split at hf
    ·rename_i e' he'
     simp only [Bool.and_eq_true,decide_eq_true_eq] at hf
     exact ⟨e',he',hf.1.1.1,hf.1.1.2,hf.1.2,hf.2⟩
    ·cases hf
   rcases open_slice ht h with ⟨hcs,hx⟩ | ⟨a,len,cap,m,n,D,Pl,hcs,_,hl,hm,hmm,hx,hi⟩
   ·exact ⟨_,[],hcs,by simp,⟨none,0,rfl,Nat.le_refl _,by simp,.inl rfl⟩,fun r hr=>by simp at hr⟩
   ·simp only [if_true] at hmm
    subst hmm
    subst hx
    have hw:∀n,n∈(len+(m-len))*P.bytesOf e'::(DataW.weightsAll P e' ((List.range len).map D))→n≤reachBytes:=fun n hn=>hz n (by
     simp only [DataW.weights,ht,List.length_map,List.length_range,List.mem_cons,List.mem_append] at hn ⊢
     rcases hn with h | h
     ·exact .inl h
     ·exact .inr (.inl h))
    have hlen:len≤140737488355328:=by
     have:=reach_le (hw _ (List.mem_cons_self ..))
     have h2:(len+(m-len))*1≤(len+(m-len))*P.bytesOf e':=Nat.mul_le_mul_left _ hby
     omega
    obtain ⟨rows,hrl,hrs⟩:=list_of (R:=fun i (r:List Value)=>r.length=e.size∧Rd e W r∧∀j,j < e.size→W.cell? (a.add (i*e.size+j))=r[j]?) len (fun i hil=>by
     obtain ⟨cs',hcc,htt⟩:=hi i (by omega)
     rw [hc] at hcc
     obtain ⟨_,hcl,hat⟩:=World.cells?_some hcc
     refine ⟨cs',hcl,ih.1 e' n cs' _ he htt (fun q hq=>hw q (List.mem_cons_of_mem _ (weightsAll_mem (List.mem_map.2 ⟨i,by simpa using hil,rfl⟩) hq))),fun j hj=>?_⟩
     have:=hat j (by omega)
     rw [Go.Deep.add_add] at this
     exact this)
    subst hcs
    subst hrl
    refine ⟨_,rows,rfl,hlen,?_,fun r hr=>?_⟩
    ·refine ⟨_,_,rfl,hl,by omega,?_⟩
     have hk:∀r∈rows,r.length=e.size:=fun r hr=>by
      obtain ⟨i,hi',rfl⟩:=List.getElem_of_mem hr
      exact (hrs i hi').1
     rcases Nat.eq_zero_or_pos rows.length with h0 | h0
     ·left;rw [List.eq_nil_of_length_eq_zero h0];rfl
     ·right
      have hfl:=flatten_len hk
      have ha:∃v,W.cell? a=some v:=by
       have h1:=(hrs 0 h0).2.2 0 (by omega)
       rw [Nat.zero_mul,Nat.zero_add,show a.add 0=a from by simp [Addr.add]] at h1
       have h2:=(hrs 0 h0).1
       exact ⟨_,h1.trans (List.getElem?_eq_getElem (by omega))⟩
      obtain ⟨v0,ha⟩:=ha
      have hae:=add_none ha
      refine ⟨a.block,a.off,by rw [←hae],?_,fun j u hu=>?_⟩
      ·rcases Nat.lt_or_ge a.block W.heap.size with h | h
       ·exact h
       ·simp [World.cell?,Array.getElem?_eq_none h] at ha
      ·rw [←add_at,←hae]
       have hj:j < rows.length*e.size:=by
        have:=(List.getElem?_eq_some_iff.1 hu).1;omega
       have hdiv:j / e.size < rows.length:=Nat.div_lt_of_lt_mul (by rw [Nat.mul_comm];exact hj)
       have hmod:j % e.size < e.size:=Nat.mod_lt _ (by omega)
       have hdm:j / e.size*e.size+j % e.size=j:=by rw [Nat.mul_comm];exact Nat.div_add_mod j e.size
       have h1:=(hrs (j / e.size) hdiv).2.2 (j % e.size) hmod
       rw [hdm] at h1
       rw [h1,←flatten_at hk hdiv hmod,hdm]
       exact hu
    ·obtain ⟨i,hi',rfl⟩:=List.getElem_of_mem hr
     exact ⟨(hrs i hi').1,(hrs i hi').2.1⟩
 | struct r ih=>
   refine ⟨fun t fuel cs x hf h hz=>?_,fun fs off n cs xs hf=>by simp [fits] at hf⟩
   obtain ⟨fs,ht,hr,hc⟩:∃fs,P.underlying t=some (.struct fs)∧fits P r (.inr (fs.toList,0))=true∧P.cellsOf t=r.size:=by
    unfold fits at hf
    split at hf
    ·rename_i fs hfs
     simp only [Bool.and_eq_true,decide_eq_true_eq] at hf
     exact ⟨fs,hfs,hf.1,hf.2⟩
    ·cases hf
   obtain ⟨xs,n,_,rfl,hcl,hxl,hat⟩:=DataW.trod_struct ht h
   have:=ih.2 fs.toList 0 n cs xs hr ⟨by simpa using hxl,fun i f hi=>hat i f (by simpa using hi)⟩ (fun m hm=>hz m (by simpa [DataW.weights,ht] using hm)) (by omega)
   rw [List.drop_zero] at this
   exact this
 | nil=>
   refine ⟨fun t fuel cs x hf=>by simp [fits] at hf,fun fs off n cs xs hf _ _ hl=>?_⟩
   show cs.drop off=[]
   exact List.drop_eq_nil_of_le (by rw [hl];simp [Sh.size])
 | seq a r iha ihr=>
   refine ⟨fun t fuel cs x hf=>by simp [fits] at hf,fun fs off n cs xs hf hx hz hl=>?_⟩
   match fs,xs,hx,hf,hz with
   | [],_,_,hf,_=>simp [fits] at hf
   | f::fs,[],hx,_,_=>exact absurd hx.1 (by simp)
   | f::fs,x::xs,hx,hf,hz=>
     simp only [fits,Bool.and_eq_true,decide_eq_true_eq] at hf
     obtain ⟨⟨⟨ho,hc⟩,hfa⟩,hfr⟩:=hf
     have h0:=hx.2 0 f rfl
     simp only [List.getElem?_cons_zero] at h0
     rw [ho,hc] at h0
     simp only [Sh.size] at hl
     simp only [List.map_cons,weightsEach_cons,List.mem_append] at hz
     have hA:=iha.1 f.type n _ x hfa h0 (fun m hm=>hz m (.inl hm))
     have hR:=ihr.2 fs (off+a.size) n cs xs hfr ⟨by simpa using hx.1,fun i g hi=>by have:=hx.2 (i+1) g (by simpa using hi);simpa using this⟩ (fun m hm=>hz m (.inr hm)) (by omega)
     refine ⟨(cs.drop off).take a.size,cs.drop (off+a.size),?_,by rw [List.length_take,List.length_drop];omega,hA,hR⟩
     rw [←List.drop_drop,List.take_append_drop]
theorem open_struct {W:World} {b0:Nat} {t:TypeId} {r:Sh} {v:Value} {d:DataW H} {ps:List MemPlace} (hf:fits P (.struct r) (.inl t)=true)
  (hval:Value.okWide P W .any b0 t v) (hd:DataW.Trod enc P W 0 (fun _=>true) true t v d ps) (hz:∀n∈d.weights P t,n≤reachBytes):∃cs:List Value,v=.agg cs.toArray∧Rd r W cs:=by
 obtain ⟨fs,ht⟩:∃fs,P.underlying t=some (.struct fs):=by
  unfold fits at hf
  split at hf
  ·rename_i fs hfs;exact ⟨fs,hfs⟩
  ·cases hf
 obtain ⟨cs,rfl,hsz⟩:=okWide_struct ht hval
 obtain ⟨fuel,hx⟩:=hd
 exact ⟨cs.toList,by simp,(rd_of (.struct r)).1 t fuel _ _ hf hx hz⟩
end
theorem Rd.int_cons {k:IntKind} {r:Sh} {w:World} {cs:List Value} (h:Rd (.seq (.int k) r) w cs):∃x cs',cs=.int k x::cs'∧(Lit.int k x).wf=true∧Rd r w cs':=by
 obtain ⟨c1,c2,rfl,_,⟨x,rfl,hw⟩,h2⟩:=h
 exact ⟨x,c2,rfl,hw,h2⟩
theorem Rd.str_cons {r:Sh} {w:World} {cs:List Value} (h:Rd (.seq .str r) w cs):∃l cs',cs=str l::cs'∧l.length≤140737488355328∧Rd r w cs':=by
 obtain ⟨c1,c2,rfl,_,⟨x,rfl,hw⟩,h2⟩:=h
 exact ⟨x,c2,rfl,hw,h2⟩
theorem Rd.bool_cons {r:Sh} {w:World} {cs:List Value} (h:Rd (.seq .bool r) w cs):∃b cs',cs=.bool b::cs'∧Rd r w cs':=by
 obtain ⟨c1,c2,rfl,_,⟨x,rfl⟩,h2⟩:=h
 exact ⟨x,c2,rfl,h2⟩
theorem Rd.slice_cons {e r:Sh} {w:World} {cs:List Value} (h:Rd (.seq (.slice e) r) w cs):∃(v:Value) (rows:List (List Value)) (cs':List Value),cs=v::cs'∧rows.length≤140737488355328∧Sl w v rows.length rows.flatten∧(∀x∈rows,x.length=e.size∧Rd e w x)∧Rd r w cs':=by
 obtain ⟨c1,c2,rfl,_,⟨v,rows,rfl,h1,h2,h3⟩,h4⟩:=h
 exact ⟨v,rows,c2,rfl,h1,h2,h3,h4⟩
theorem Rd.struct_cons {a r:Sh} {w:World} {cs:List Value} (h:Rd (.seq (.struct a) r) w cs):∃c1 c2,cs=c1++c2∧c1.length=a.size∧Rd a w c1∧Rd r w c2:=h
theorem Rd.nil_eq {w:World} {cs:List Value} (h:Rd .nil w cs):cs=[]:=h
end Go.Proofs.YtflepnkpihfidaaGreatDoor
