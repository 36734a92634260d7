/- The theorem TopKnown: what an answer's fields say of a version is what is known of it; a request put and asked again is answered alike. Conditions: none beyond the row's own ('laid': tables and variables of the library as the program's text lays them). -/
import Derived.Test.YtflepnkpihfidaaGreatDoorJRow
import Derived.Test.YtflepnkpihfidaaGreatDoorJGateO
import Derived.Test.YtflepnkpihfidaaGreatDoorMultiOpen
import Derived.Test.YtflepnkpihfidaaGreatDoorTzOpen
import Derived.Test.YtflepnkpihfidaaGreatDoorOpenP
import Derived.Test.YtflepnkpihfidaaGreatDoorJKn
import Derived.Deep.DeepWitnessRowRef
import Derived.Test.YtflepnkpihfidaaGreatDoorWTKnown
set_option linter.unusedVariables false
set_option linter.unusedSimpArgs false
namespace Go.Proofs.YtflepnkpihfidaaGreatDoor.wtknown
open Go.ChangeShapes Go.WideShapes Go.ChangeAt Go.RowKit
set_option maxRecDepth 100000 in
theorem contract (H:Type) (enc:TypeId×Value→H) (W:World) (base:Nat) (args:Array Value) (ds gs:List (DataW H)) (before:List MemPlace)
  (hval:∀(j:Nat) t v,Tryz.f4.params[j]?=some t→args[j]?=some v→Value.okWide Tryz.prog W .any base t v)
  (hW:DataW.Whole enc Tryz.prog Tryz.f4.params.toList Rows.topKnownSpec.vars false W args.toList ds gs before)
  (hz:(DataW.weightsEach Tryz.prog (Tryz.f4.params.toList++(OpenSpec.ofChange Rows.topKnownSpec).bare.plain.varTypes Tryz.prog) (ds++gs)).all (·≤reachBytes)=true) (hvr:VarsW W) (htz:Tz W) :
  Calls Tryz.prog 4 args W fun e W'=>∃v,e=.returned v∧Rows.topKnownSpec.post enc Tryz.prog Tryz.f4 false true false false W args v W':=by
 have hW':=hW
 obtain ⟨p,q,hA0,hV,rfl,hfz,hnd⟩:=hW
 have hA:DataW.TrodAll enc Tryz.prog W 0 (fun _=>true) true Tryz.f4.params.toList args.toList ds p:=hA0
 have hz1:∀n∈DataW.weightsEach Tryz.prog (Tryz.f4.params.toList++(OpenSpec.ofChange Rows.topKnownSpec).bare.plain.varTypes Tryz.prog) (ds++gs),n≤reachBytes:=fun n hn=>by simpa using List.all_eq_true.1 hz n hn
 rw [Tryz.params4] at hA hval hz1
 obtain ⟨v0,vs0,d0,ds0,p0,q0,hargs0,rfl,rfl,h0,r0⟩:=trodAll_cons hA
 obtain ⟨v1,vs1,d1,ds1,p1,q1,hargs1,rfl,rfl,h1,r1⟩:=trodAll_cons r0
 obtain ⟨rfl,rfl,rfl⟩:=trodAll_nil r1
 obtain rfl:args=#[v0,v1]:=by cases args;simp_all
 obtain ⟨rfl,rfl⟩:=trodVars_none hV
 have hz0a:∀n∈d0.weights Tryz.prog 29,n≤reachBytes:=fun n hn=>hz1 n (by simp [DataW.weightsEach,hn])
 have hz1a:∀n∈d1.weights Tryz.prog 66,n≤reachBytes:=fun n hn=>hz1 n (by simp [DataW.weightsEach,hn])
 obtain ⟨q0,vs0_,vm0_,vn0_,rfl,hq0,hl0⟩:=open_req (by kernel_rfl) (hval 0 29 v0 rfl rfl) h0 hz0a
 obtain ⟨m1,vk1_,rfl,hk1,hl1⟩:=open_meta (by kernel_rfl) (hval 1 66 v1 rfl rfl) h1 hz1a
 refine (walk q0 _ _ _ m1 _ W hvr htz hq0 hl0 hk1 hl1).mono fun e W' ⟨he,hg⟩=>?_
 subst he
 exact ⟨_,rfl,law_done rowLaidOut (by kernel_rfl) rfl Tryz.underlying4 (by kernel_rfl) rfl (by simpa using hW') hg⟩
theorem laid_met (os:Os):laidMet Tryz.prog Rows.topKnownRow.laid ((laidWorld os).forCall (fun _ _=>0) ⟨#[],#[.agg #[.bool false,.string ⟨#[]⟩,.slice none 0 0,.slice none 0 0,.slice none 0 0,.bool false,.bool false,.int .i64 0,.int .i64 0,.string ⟨#[]⟩,.bool false],.agg #[.string ⟨#[]⟩,.bool false,.int .i64 0,.int .i64 0,.int .i64 0,.int .i64 0,.int .i64 0,.int .i64 0,.slice none 0 0,.string ⟨#[]⟩,.bool false]],[]⟩).memory:=
 laidMet_of_run' 8 (by kernel_rfl) (by kernel_rfl)
theorem reads (os:Os) {H:Type} (enc:TypeId×Value→H):∃places,DataW.whole enc Tryz.prog ((laidWorld os).forCall (fun _ _=>0) ⟨#[],#[.agg #[.bool false,.string ⟨#[]⟩,.slice none 0 0,.slice none 0 0,.slice none 0 0,.bool false,.bool false,.int .i64 0,.int .i64 0,.string ⟨#[]⟩,.bool false],.agg #[.string ⟨#[]⟩,.bool false,.int .i64 0,.int .i64 0,.int .i64 0,.int .i64 0,.int .i64 0,.int .i64 0,.slice none 0 0,.string ⟨#[]⟩,.bool false]],[]⟩).memory Tryz.f4.params.toList Rows.topKnownSpec.vars false (#[.agg #[.bool false,.string ⟨#[]⟩,.slice none 0 0,.slice none 0 0,.slice none 0 0,.bool false,.bool false,.int .i64 0,.int .i64 0,.string ⟨#[]⟩,.bool false],.agg #[.string ⟨#[]⟩,.bool false,.int .i64 0,.int .i64 0,.int .i64 0,.int .i64 0,.int .i64 0,.int .i64 0,.slice none 0 0,.string ⟨#[]⟩,.bool false]]:Array Value).toList 8=some ([.agg [.lit (.bool false),.lit (.string []),.nil,.agg [.nil,.nil,.lit (.bool false),.lit (.bool false),.lit (.int .i64 0),.lit (.int .i64 0),.agg [.lit (.string []),.lit (.bool false)]]],.agg [.agg [.lit (.string []),.lit (.bool false)],.lit (.int .i64 0),.lit (.int .i64 0),.lit (.int .i64 0),.lit (.int .i64 0),.lit (.int .i64 0),.lit (.int .i64 0),.nil,.lit (.string []),.lit (.bool false)]],[],places):=
 ⟨[],by kernel_rfl⟩
set_option maxRecDepth 100000 in
theorem lifted (os:Os) (started:os.Started) (H:Type) (enc:TypeId×Value→H) (F:Stop.Interp) :
  ReturnsInHanded {} Tryz.checked os 4 .any ((OpenSpec.ofChange Rows.topKnownSpec).preRow enc Tryz.prog Tryz.f4 Rows.topKnownRow.domain false Rows.topKnownRow.laid) (((OpenSpec.ofChange Rows.topKnownSpec).at F).post enc Tryz.prog Tryz.f4 false true false false):=by
 obtain ⟨places,hx⟩:=reads os enc
 refine returnsInHanded_of_row (C:=Tryz.checked) (s:=OpenSpec.ofChange Rows.topKnownSpec) rowOwn started (by kernel_rfl) Tryz.func4
  (witness_row_atRef (enc:=enc) (C:=Tryz.checked) false (laidWorld os) #[.agg #[.bool false,.string ⟨#[]⟩,.slice none 0 0,.slice none 0 0,.slice none 0 0,.bool false,.bool false,.int .i64 0,.int .i64 0,.string ⟨#[]⟩,.bool false],.agg #[.string ⟨#[]⟩,.bool false,.int .i64 0,.int .i64 0,.int .i64 0,.int .i64 0,.int .i64 0,.int .i64 0,.slice none 0 0,.string ⟨#[]⟩,.bool false]] rfl (by kernel_rfl) (by kernel_rfl) (by kernel_rfl)
   (OpenSpec.preRow_of_cond 8 hx (by kernel_rfl) (fun k hk=>by cases hk) (by kernel_rfl) (laid_met os))) ?_
 intro W base args ds gs before hval hW _ _ hz hlaid hsh _
 exact contract H enc W base args ds gs before hval hW hz (varsW_of hsh (by kernel_rfl) hlaid (by simp [Rows.topKnownRow])) (tz_of (by kernel_rfl) hlaid (by simp [Rows.topKnownRow]))
set_option maxHeartbeats 64000000 in
theorem closed:joinedFacts Tryz.pinned.checked.prog 4 Tryz.f4 (OpenSpec.ofChange Rows.topKnownSpec).bare Rows.topKnownRow=true:=by
 unfold joinedFacts
 simp only [Bool.and_eq_true]
 repeat' apply And.intro
 all_goals (as_aux_lemma=>kernel_rfl)
theorem said:Rows.TopKnownSaid:=
 OpenClaim.holds_of_cond 4 Tryz.f4 rfl rfl rfl rfl rfl rfl rfl ⟨rfl,rfl,rfl,rfl,rfl⟩ rfl rfl rfl rfl rfl (by kernel_rfl) Tryz.func4 closed
  (of_decide_eq_true (by kernel_rfl)) (by unfold Func.isWrapper;first | (rw [if_pos (by decide +kernel)];kernel_rfl) | (rw [if_neg (by decide +kernel)];exact ⟨rfl,rfl⟩))
  (fun os started H enc _ F=>by rw [OpenClaim.pre_eq_preRow];exact lifted os started H enc F)
theorem plain (f:FuncId) (fn:Func) (hf:Tryz.pinned.checked.prog.funcNamed Rows.topKnownRow.func=some f) (hfn:Tryz.pinned.checked.prog.funcs[f]?=some fn) :
  true=Tryz.pinned.checked.prog.looks []∧∀(j:Nat) t,fn.params[j]?=some t→Tryz.pinned.checked.prog.wantsStandIn t=false:=by
 obtain rfl:f=4:=Option.some.inj ((show Tryz.prog.funcNamed Rows.topKnownRow.func=some 4 by kernel_rfl).symm.trans hf) |>.symm
 obtain rfl:fn=Tryz.f4:=(Option.some.inj (Tryz.func4.symm.trans hfn)).symm
 refine ⟨by kernel_rfl,fun j t ht=>?_⟩
 have hall:(Tryz.f4.params.toList.all fun t=>!Tryz.prog.wantsStandIn t)=true:=by kernel_rfl
 have h1:=List.all_eq_true.1 hall t (by simpa using Array.mem_of_getElem? ht)
 have h2:Tryz.prog.wantsStandIn t=false:=by simpa using h1
 exact h2
theorem card:Rows.TopKnownCardSaid:=
 Claim7.holds_tied_plain_at .later [] _ _ _ _ said (fun _ h=>by cases h) (by kernel_rfl) (fun _ h=>by cases h) topKnown_row_tie rfl ⟨rfl,rfl⟩ (by kernel_rfl) rfl plain (by kernel_rfl)
end Go.Proofs.YtflepnkpihfidaaGreatDoor.wtknown
