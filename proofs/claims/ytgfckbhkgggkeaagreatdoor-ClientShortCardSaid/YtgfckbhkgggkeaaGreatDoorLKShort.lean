/- The law ClientShort: an answer that is whole, cut off anywhere, is not, and what came of it is a beginning. Conditions: none beyond the row's own ('laid': tables and variables of the library as the program's text lays them). -/
import Derived.Test.YtgfckbhkgggkeaaGreatDoorJRow
import Derived.Test.YtgfckbhkgggkeaaGreatDoorJGateO
import Derived.Test.YtgfckbhkgggkeaaGreatDoorMultiOpen
import Derived.Deep.DeepWitnessRowRef
import Derived.Test.YtgfckbhkgggkeaaGreatDoorWKShort
set_option linter.unusedVariables false
set_option linter.unusedSimpArgs false
namespace Go.Proofs.YtgfckbhkgggkeaaGreatDoor.lkshort
open Go.ChangeShapes Go.WideShapes Go.ChangeAt Go.RowKit
set_option maxRecDepth 100000 in
theorem contract (H:Type) (enc:TypeId×Value→H) (W:World) (base:Nat) (args:Array Value) (ds gs:List (DataW H)) (before:List MemPlace)
  (hval:∀(j:Nat) t v,Tryz.f3.params[j]?=some t→args[j]?=some v→Value.okWide Tryz.prog W .any base t v)
  (hW:DataW.Whole enc Tryz.prog Tryz.f3.params.toList Rows.clientShortSpec.vars false W args.toList ds gs before)
  (hz:(DataW.weightsEach Tryz.prog (Tryz.f3.params.toList++(OpenSpec.ofChange Rows.clientShortSpec).bare.plain.varTypes Tryz.prog) (ds++gs)).all (·≤reachBytes)=true) (hvr:Vars W) :
  Calls Tryz.prog 3 args W fun e W'=>∃v,e=.returned v∧Rows.clientShortSpec.post enc Tryz.prog Tryz.f3 false true false false W args v W':=by
 have hW':=hW
 obtain ⟨p,q,hA0,hV,rfl,hfz,hnd⟩:=hW
 have hA:DataW.TrodAll enc Tryz.prog W 0 (fun _=>true) true Tryz.f3.params.toList args.toList ds p:=hA0
 have hz1:∀n∈DataW.weightsEach Tryz.prog (Tryz.f3.params.toList++(OpenSpec.ofChange Rows.clientShortSpec).bare.plain.varTypes Tryz.prog) (ds++gs),n≤reachBytes:=fun n hn=>by simpa using List.all_eq_true.1 hz n hn
 rw [Tryz.params3] at hA hval hz1
 obtain ⟨v0,vs0,d0,ds0,p0,q0,hargs0,rfl,rfl,h0,r0⟩:=trodAll_cons hA
 obtain ⟨v1,vs1,d1,ds1,p1,q1,hargs1,rfl,rfl,h1,r1⟩:=trodAll_cons r0
 obtain ⟨v2,vs2,d2,ds2,p2,q2,hargs2,rfl,rfl,h2,r2⟩:=trodAll_cons r1
 obtain ⟨rfl,rfl,rfl⟩:=trodAll_nil r2
 obtain rfl:args=#[v0,v1,v2]:=by cases args;simp_all
 obtain ⟨rfl,rfl⟩:=trodVars_none hV
 have hz0a:∀n∈d0.weights Tryz.prog 29,n≤reachBytes:=fun n hn=>hz1 n (by simp [DataW.weightsEach,hn])
 have hz1a:∀n∈d1.weights Tryz.prog 30,n≤reachBytes:=fun n hn=>hz1 n (by simp [DataW.weightsEach,hn])
 have hz2a:∀n∈d2.weights Tryz.prog 31,n≤reachBytes:=fun n hn=>hz1 n (by simp [DataW.weightsEach,hn])
 obtain ⟨q0,vs0_,vm0_,vn0_,rfl,hq0,hl0⟩:=open_req (by kernel_rfl) (hval 0 29 v0 rfl rfl) h0 hz0a
 obtain ⟨l1,hy1,hl1⟩:=open_byts Tryz.underlying30 Tryz.underlying5 (by kernel_rfl) (by kernel_rfl) (hval 1 30 v1 rfl rfl) h1 hz1a
 obtain ⟨k2,rfl,rfl,_,wk2⟩:=open_int Tryz.underlying31 (hval 2 31 v2 rfl rfl) h2
 have hk2:0≤k2∧k2≤65535:=by have:=bounds_u16 wk2;omega
 refine (walk q0 _ _ _ _ l1 k2 W hvr hq0 hl0 hy1 hk2).mono fun e W' ⟨he,hg⟩=>?_
 subst he
 exact ⟨_,rfl,law_done rowLaidOut (by kernel_rfl) rfl Tryz.underlying4 (by kernel_rfl) rfl (by simpa using hW') hg⟩
theorem laid_met (os:Os):laidMet Tryz.prog Rows.clientShortRow.laid ((laidWorld os).forCall (fun _ _=>0) ⟨#[],#[.agg #[.bool false,.string ⟨#[]⟩,.slice none 0 0,.slice none 0 0,.slice none 0 0,.bool false,.bool false,.int .i64 0,.int .i64 0,.string ⟨#[]⟩,.bool false],.slice none 0 0,.int .u16 0],[]⟩).memory:=
 laidMet_of_run' 8 (by kernel_rfl) (by kernel_rfl)
theorem reads (os:Os) {H:Type} (enc:TypeId×Value→H):∃places,DataW.whole enc Tryz.prog ((laidWorld os).forCall (fun _ _=>0) ⟨#[],#[.agg #[.bool false,.string ⟨#[]⟩,.slice none 0 0,.slice none 0 0,.slice none 0 0,.bool false,.bool false,.int .i64 0,.int .i64 0,.string ⟨#[]⟩,.bool false],.slice none 0 0,.int .u16 0],[]⟩).memory Tryz.f3.params.toList Rows.clientShortSpec.vars false (#[.agg #[.bool false,.string ⟨#[]⟩,.slice none 0 0,.slice none 0 0,.slice none 0 0,.bool false,.bool false,.int .i64 0,.int .i64 0,.string ⟨#[]⟩,.bool false],.slice none 0 0,.int .u16 0]:Array Value).toList 8=some ([.agg [.lit (.bool false),.lit (.string []),.nil,.agg [.nil,.nil,.lit (.bool false),.lit (.bool false),.lit (.int .i64 0),.lit (.int .i64 0),.agg [.lit (.string []),.lit (.bool false)]]],.nil,.lit (.int .u16 0)],[],places):=
 ⟨[],by kernel_rfl⟩
set_option maxRecDepth 100000 in
theorem lifted (os:Os) (started:os.Started) (H:Type) (enc:TypeId×Value→H) (F:Stop.Interp) :
  ReturnsInHanded {} Tryz.checked os 3 .any ((OpenSpec.ofChange Rows.clientShortSpec).preRow enc Tryz.prog Tryz.f3 Rows.clientShortRow.domain false Rows.clientShortRow.laid) (((OpenSpec.ofChange Rows.clientShortSpec).at F).post enc Tryz.prog Tryz.f3 false true false false):=by
 obtain ⟨places,hx⟩:=reads os enc
 refine returnsInHanded_of_row (C:=Tryz.checked) (s:=OpenSpec.ofChange Rows.clientShortSpec) rowOwn started (by kernel_rfl) Tryz.func3
  (witness_row_atRef (enc:=enc) (C:=Tryz.checked) false (laidWorld os) #[.agg #[.bool false,.string ⟨#[]⟩,.slice none 0 0,.slice none 0 0,.slice none 0 0,.bool false,.bool false,.int .i64 0,.int .i64 0,.string ⟨#[]⟩,.bool false],.slice none 0 0,.int .u16 0] rfl (by kernel_rfl) (by kernel_rfl) (by kernel_rfl)
   (OpenSpec.preRow_of_cond 8 hx (by kernel_rfl) (fun k hk=>by cases hk) (by kernel_rfl) (laid_met os))) ?_
 intro W base args ds gs before hval hW _ _ hz hlaid hsh _
 exact contract H enc W base args ds gs before hval hW hz (vars_of hsh (by kernel_rfl) hlaid (by simp [Rows.clientShortRow]) (by simp [Rows.clientShortRow]) (by simp [Rows.clientShortRow]))
theorem said:Rows.ClientShortSaid:=
 OpenClaim.holds_of_cond 3 Tryz.f3 rfl rfl rfl rfl rfl rfl rfl ⟨rfl,rfl,rfl,rfl,rfl⟩ rfl rfl rfl rfl rfl (by kernel_rfl) Tryz.func3 (by kernel_rfl)
  (of_decide_eq_true (by kernel_rfl)) (by unfold Func.isWrapper;first | (rw [if_pos (by decide +kernel)];kernel_rfl) | (rw [if_neg (by decide +kernel)];exact ⟨rfl,rfl⟩))
  (fun os started H enc _ F=>by rw [OpenClaim.pre_eq_preRow];exact lifted os started H enc F)
theorem plain (f:FuncId) (fn:Func) (hf:Tryz.pinned.checked.prog.funcNamed Rows.clientShortRow.func=some f) (hfn:Tryz.pinned.checked.prog.funcs[f]?=some fn) :
  true=Tryz.pinned.checked.prog.looks []∧∀(j:Nat) t,fn.params[j]?=some t→Tryz.pinned.checked.prog.wantsStandIn t=false:=by
 obtain rfl:f=3:=Option.some.inj ((show Tryz.prog.funcNamed Rows.clientShortRow.func=some 3 by kernel_rfl).symm.trans hf) |>.symm
 obtain rfl:fn=Tryz.f3:=(Option.some.inj (Tryz.func3.symm.trans hfn)).symm
 refine ⟨by kernel_rfl,fun j t ht=>?_⟩
 have hall:(Tryz.f3.params.toList.all fun t=>!Tryz.prog.wantsStandIn t)=true:=by kernel_rfl
 have h1:=List.all_eq_true.1 hall t (by simpa using Array.mem_of_getElem? ht)
 have h2:Tryz.prog.wantsStandIn t=false:=by simpa using h1
 exact h2
theorem card:Rows.ClientShortCardSaid:=
 Claim7.holds_tied_plain_at .later [] _ _ _ _ said (fun _ h=>by cases h) (by kernel_rfl) (fun _ h=>by cases h) clientShort_row_tie rfl ⟨rfl,rfl⟩ (by kernel_rfl) rfl plain (by kernel_rfl)
end Go.Proofs.YtgfckbhkgggkeaaGreatDoor.lkshort
