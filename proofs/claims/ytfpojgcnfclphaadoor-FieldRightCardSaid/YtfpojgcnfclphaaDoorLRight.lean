/- The law FieldRight: which fields may be is what the document says. Conditions: none beyond the row's own ('laid': tables of the library as the program's text lays them). -/
import Derived.Test.YtfpojgcnfclphaaDoorOpen
import Derived.Test.YtfpojgcnfclphaaDoorField10
namespace Go.Proofs.YtfpojgcnfclphaaDoor.lright
open Go.ChangeShapes Go.WideShapes Go.ChangeAt Go.RowKit
set_option maxHeartbeats 2000000 in
set_option maxRecDepth 100000 in
theorem walk (a b : List UInt8) (w : World) (hm : Ml w) (_ha : a.length ≤ 140737488355328) (_hb : b.length ≤ 140737488355328) : Calls Tryd.prog 4 #[.agg #[str a, str b]] w fun e w' => e = .returned (.bool true) ∧ Gr w w' := by
  obtain ⟨hG0, c0, c1⟩ := box2 w (str a) (str b) 33
  have HM := Lib.hid (hm.gr hG0); clear hm
  go_enter Tryd.func4, Tryd.ntmps4
  go_upto_region 1 with fail
  generalize w.alloc (Obj.cells #[str a, str b] 33) = w0 at *
  go_upto_region 3 with (go_at_call 11; refine (alive_any _ HM.out).mono ?_; rintro e w1 ⟨rfl, hG1⟩)
  have c0 := Gr.cell hG1 c0
  have c1 := Gr.cell hG1 c1
  go_wp2_with fail
  have hS := strs_new w1 [a, b] 9 (by simp)
  have hsh : Short [a, b] := by intro x hx; simp at hx; rcases hx with rfl | rfl <;> assumption
  refine (great1_any _ _ _ hS hsh).mono ?_
  rintro e w2 ⟨rfl, hG2⟩
  have hGb := Gr.tr (Gr.tr hG0 hG1) (Gr.tr (Gr.al (Gr.refl w1) _) hG2)
  have c0 := Gr.cell hG2 (Gr.cell (Gr.al (Gr.refl w1) (.cells ([a, b].map str).toArray 9)) c0)
  have c1 := Gr.cell hG2 (Gr.cell (Gr.al (Gr.refl w1) (.cells ([a, b].map str).toArray 9)) c1)
  clear hS hsh
  cases hg : great1 [a, b] with
  | true =>
    go_wp2_with fail
    go_ret
    exact ⟨rfl, hGb⟩
  | false =>
    go_wp2_with fail
    have q0 := fun i => Gr.cell (gw_gr w2 i) c0
    have q1 := fun i => Gr.cell (gw_gr w2 i) c1
    refine wp_region_gw (by kernel_rfl) (by kernel_rfl) ?_
    repeat (first | go_big_quiet_step ((first | (go_at_call 18; exact gw_call (right_any _ _ _ (by omega) (by omega))) | (go_at_call 19; exact gw_call (refRight_any _ _ _ (by omega) (by omega))))) | quiet_step ((first | (go_at_call 18; exact gw_call (right_any _ _ _ (by omega) (by omega))) | (go_at_call 19; exact gw_call (refRight_any _ _ _ (by omega) (by omega))))))
    refine wpQuiet_nil ?_; intro wq hwq; obtain ⟨iq, rfl⟩ := hwq
    have hGc := Gr.tr hGb (gw_gr w2 iq)
    generalize gw w2 iq = w3 at *
    go_wp2_with fail
    go_ret
    exact ⟨by simp, hGc⟩
theorem contract (H : Type) (enc : TypeId × Value → H) (W : World) (base : Nat) (args : Array Value) (ds gs : List (DataW H)) (before : List MemPlace)
    (hval : ∀ (j : Nat) t v, Tryd.f4.params[j]? = some t → args[j]? = some v → Value.okWide Tryd.prog W .any base t v)
    (hW : DataW.Whole enc Tryd.prog Tryd.f4.params.toList Rows.fieldRightSpec.vars false W args.toList ds gs before)
    (hz : (DataW.weightsEach Tryd.prog (Tryd.f4.params.toList ++ (OpenSpec.ofChange Rows.fieldRightSpec).bare.plain.varTypes Tryd.prog) (ds ++ gs)).all (· ≤ reachBytes) = true) (hm : Ml W) :
    Calls Tryd.prog 4 args W fun e W' => ∃ v, e = .returned v ∧ Rows.fieldRightSpec.post enc Tryd.prog Tryd.f4 false true false false W args v W' := by
  have hW' := hW
  obtain ⟨p, q, hA0, hV, rfl, hfz, hnd⟩ := hW
  have hA : DataW.TrodAll enc Tryd.prog W 0 (fun _ => true) true Tryd.f4.params.toList args.toList ds p := hA0
  have hz1 : ∀ n ∈ DataW.weightsEach Tryd.prog (Tryd.f4.params.toList ++ (OpenSpec.ofChange Rows.fieldRightSpec).bare.plain.varTypes Tryd.prog) (ds ++ gs), n ≤ reachBytes := fun n hn => by simpa using List.all_eq_true.1 hz n hn
  rw [Tryd.params4] at hA hval hz1
  obtain ⟨v0, vs0, d0, ds0, p0, q0, hargs0, rfl, rfl, h0, r0⟩ := trodAll_cons hA
  obtain ⟨rfl, rfl, rfl⟩ := trodAll_nil r0
  obtain rfl : args = #[v0] := by cases args; simp_all
  obtain ⟨rfl, rfl⟩ := trodVars_none hV
  have hz0a : ∀ n ∈ d0.weights Tryd.prog 33, n ≤ reachBytes := fun n hn => hz1 n (by simp [DataW.weightsEach, hn])
  obtain ⟨a0, b0, rfl, ha0, hb0⟩ := open_fld Tryd.underlying33 (by kernel_rfl) (by kernel_rfl) Tryd.underlying9 Tryd.underlying9 (hval 0 33 v0 rfl rfl) h0 hz0a
  refine (walk a0 b0 W hm ha0 hb0).mono fun e W' ⟨he, hg⟩ => ?_
  subst he
  exact ⟨_, rfl, law_done rowLaidOut (by kernel_rfl) rfl Tryd.underlying4 (by kernel_rfl) rfl (by simpa using hW') hg⟩

theorem laid_met (os : Os) : laidMet Tryd.prog Rows.fieldRightRow.laid ((laidWorld os).forCall (fun _ _ => 0) ⟨#[], #[.agg #[.string ⟨#[]⟩, .string ⟨#[]⟩]], []⟩).memory :=
  laidMet_of_run' 8 (by kernel_rfl) (by kernel_rfl)
theorem reads (os : Os) {H : Type} (enc : TypeId × Value → H) : ∃ places, DataW.whole enc Tryd.prog ((laidWorld os).forCall (fun _ _ => 0) ⟨#[], #[.agg #[.string ⟨#[]⟩, .string ⟨#[]⟩]], []⟩).memory Tryd.f4.params.toList Rows.fieldRightSpec.vars false (#[.agg #[.string ⟨#[]⟩, .string ⟨#[]⟩]] : Array Value).toList 8 = some ([.agg [.lit (.string []), .lit (.string [])]], [], places) :=
  ⟨[], by kernel_rfl⟩

set_option maxRecDepth 100000 in
theorem lifted (os : Os) (started : os.Started) (H : Type) (enc : TypeId × Value → H) (F : Stop.Interp) :
    ReturnsInHanded {} Tryd.checked os 4 .any ((OpenSpec.ofChange Rows.fieldRightSpec).preRow enc Tryd.prog Tryd.f4 Rows.fieldRightRow.domain false Rows.fieldRightRow.laid) (((OpenSpec.ofChange Rows.fieldRightSpec).at F).post enc Tryd.prog Tryd.f4 false true false false) := by
  obtain ⟨places, hx⟩ := reads os enc
  refine returnsInHanded_of_row (C := Tryd.checked) (s := OpenSpec.ofChange Rows.fieldRightSpec) rowOwn started (by kernel_rfl) Tryd.func4
    (witness_row_at (enc := enc) (C := Tryd.checked) false (laidWorld os) #[.agg #[.string ⟨#[]⟩, .string ⟨#[]⟩]] rfl (by kernel_rfl) (by kernel_rfl) (by kernel_rfl)
      (OpenSpec.preRow_of_cond 8 hx (by kernel_rfl) (fun k hk => by cases hk) (by kernel_rfl) (laid_met os))) ?_
  intro W base args ds gs before hval hW _ _ hz _ hsh _
  exact contract H enc W base args ds gs before hval hW hz (ml_of hsh)

theorem said : Rows.FieldRightSaid :=
  OpenClaim.holds_of_cond 4 Tryd.f4 rfl rfl rfl rfl rfl rfl rfl ⟨rfl, rfl, rfl, rfl, rfl⟩ rfl rfl rfl rfl rfl (by kernel_rfl) Tryd.func4 (by kernel_rfl)
    (of_decide_eq_true (by kernel_rfl)) (by unfold Func.isWrapper; first | (rw [if_pos (by decide +kernel)]; kernel_rfl) | (rw [if_neg (by decide +kernel)]; exact ⟨rfl, rfl⟩))
    (fun os started H enc _ F => by rw [OpenClaim.pre_eq_preRow]; exact lifted os started H enc F)

theorem plain (f : FuncId) (fn : Func) (hf : Tryd.pinned.checked.prog.funcNamed Rows.fieldRightRow.func = some f) (hfn : Tryd.pinned.checked.prog.funcs[f]? = some fn) :
    false = Tryd.pinned.checked.prog.looks [] ∧ ∀ (j : Nat) t, fn.params[j]? = some t → Tryd.pinned.checked.prog.wantsStandIn t = false := by
  obtain rfl : f = 4 := Option.some.inj ((show Tryd.prog.funcNamed Rows.fieldRightRow.func = some 4 by kernel_rfl).symm.trans hf) |>.symm
  obtain rfl : fn = Tryd.f4 := (Option.some.inj (Tryd.func4.symm.trans hfn)).symm
  refine ⟨by kernel_rfl, fun j t ht => ?_⟩
  have hall : (Tryd.f4.params.toList.all fun t => !Tryd.prog.wantsStandIn t) = true := by kernel_rfl
  have h1 := List.all_eq_true.1 hall t (by simpa using Array.mem_of_getElem? ht)
  have h2 : Tryd.prog.wantsStandIn t = false := by simpa using h1
  exact h2

theorem card : Rows.FieldRightCardSaid :=
  Claim7.holds_tied_plain_at .later [] _ _ _ _ said (fun _ h => by cases h) (by kernel_rfl) (fun _ h => by cases h) fieldRight_row_tie rfl ⟨rfl, rfl⟩ (by kernel_rfl) rfl plain (by kernel_rfl)
end Go.Proofs.YtfpojgcnfclphaaDoor.lright
