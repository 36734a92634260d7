/- The law FieldParses: for every text the block with which it begins, or why there is none, is what the document says. Conditions: none beyond the row's own ('laid': tables of the library as the program's text lays them). -/
import Derived.Test.YtfpojgcnfclphaaDoorRow
import Derived.Test.YtfpojgcnfclphaaDoorField10
namespace Go.Proofs.YtfpojgcnfclphaaDoor.parses
open Go.ChangeShapes Go.WideShapes Go.ChangeAt Go.RowKit
open Go.ChangeMaps (open_string shut_string)

set_option maxHeartbeats 2000000 in
set_option maxRecDepth 100000 in
theorem walk (s : List UInt8) (w : World) (hm : Ml w) (_hs : s.length ≤ 140737488355328) : Calls Tryd.prog 5 #[str s] w fun e w' => e = .returned (.bool true) ∧ Gr w w' := by
  have HM := Lib.hid hm; clear hm
  by_cases hl : 66000 < s.length
  · have hd : decide (66000 < (s.length : Int)) = true := decide_eq_true (by omega)
    go_enter Tryd.func5, Tryd.ntmps5
    go_wp2_with (go_at_call 11; refine (alive_any _ HM.out).mono ?_; rintro e w1 ⟨rfl, hG1⟩)
    go_ret
    exact ⟨rfl, hG1⟩
  · have hd : decide (66000 < (s.length : Int)) = false := decide_eq_false (by omega)
    have hl' : s.length < 4294967000 := by omega
    clear hl
    have HP := Lib.hid (fun (w : World) (h : Ml w) => parse_any s w h hl')
    have HR := Lib.hid (fun (w : World) => refParse_any s w hl')
    generalize parse s = r at HP HR
    obtain ⟨fs, n, e⟩ := r
    go_enter Tryd.func5, Tryd.ntmps5
    go_wp2_with (go_at_call 11; refine (alive_any _ HM.out).mono ?_; rintro e w1 ⟨rfl, hG1⟩)
    refine (HP.out _ (HM.out.gr hG1)).mono ?_
    rintro e w2 ⟨v2, rfl, hv2, hG2⟩
    go_wp2_with fail
    refine (HR.out _).mono ?_
    rintro e w3 ⟨v3, rfl, hv3, hG3⟩
    have hv2' := Lib.hid (hv2.gr hG3)
    have hv3' := Lib.hid hv3
    clear hv2 hv3
    go_wp2_with (go_at_call 22; refine (same_any _ _ _ _ _ hv2'.out hv3'.out).mono ?_; rintro e w4 ⟨rfl, hG4⟩)
    go_ret
    exact ⟨by simp, Gr.tr hG1 (Gr.tr hG2 (Gr.tr hG3 hG4))⟩
theorem ml_of {W : World} (h : W.ShapedOpen Tryd.prog) : Ml W := Tryd.laysM143.s1_3 W h
theorem ba_eta (s : ByteArray) : Value.string s = str s.data.toList := by simp [str]

theorem contract (H : Type) (enc : TypeId × Value → H) (W : World) (base : Nat) (args : Array Value) (ds gs : List (DataW H)) (before : List MemPlace)
    (hval : ∀ (j : Nat) t v, Tryd.f5.params[j]? = some t → args[j]? = some v → Value.okWide Tryd.prog W .any base t v)
    (hW : DataW.Whole enc Tryd.prog Tryd.f5.params.toList Rows.fieldParsesSpec.vars false W args.toList ds gs before)
    (hz : (DataW.weightsEach Tryd.prog (Tryd.f5.params.toList ++ (OpenSpec.ofChange Rows.fieldParsesSpec).bare.plain.varTypes Tryd.prog) (ds ++ gs)).all (· ≤ reachBytes) = true) (hm : Ml W) :
    Calls Tryd.prog 5 args W fun e W' => ∃ v, e = .returned v ∧ Rows.fieldParsesSpec.post enc Tryd.prog Tryd.f5 false true false false W args v W' := by
  have hW' := hW
  obtain ⟨p, q, hA0, hV, rfl, hfz, hnd⟩ := hW
  have hA : DataW.TrodAll enc Tryd.prog W 0 (fun _ => true) true Tryd.f5.params.toList args.toList ds p := hA0
  rw [Tryd.params5] at hA hval hz
  obtain ⟨v0, vs0, d0, ds0, p0, q0, hargs, rfl, rfl, h0, r0⟩ := trodAll_cons hA
  obtain ⟨rfl, rfl, rfl⟩ := trodAll_nil r0
  obtain rfl : args = #[v0] := by cases args; simp_all
  obtain ⟨rfl, rfl⟩ := trodVars_none hV
  obtain ⟨s, rfl, rfl, rfl, ws⟩ := open_string Tryd.underlying9 (hval 0 9 v0 rfl rfl) h0
  clear hA0
  simp only [List.append_nil] at hW'
  have hs : s.data.toList.length ≤ 140737488355328 := by
    simp only [List.append_nil, List.cons_append, List.nil_append, DataW.weightsEach, DataW.weights, List.all_cons, Bool.and_eq_true, decide_eq_true_eq] at hz
    have := hz.1; unfold reachBytes at this; omega
  have hw := walk s.data.toList W hm hs
  rw [← ba_eta] at hw
  refine hw.mono fun e W' ⟨he, hg⟩ => ?_
  subst he
  exact ⟨_, rfl, law_post (pa := []) (pv := []) hW' (fun _ _ _ => trodAll_cons_mk (shut_bool Tryd.underlying4 _) trodAll_mk0) (fun _ _ => trodAll_cons_mk (shut_string Tryd.underlying9 ws) trodAll_mk0) (fun _ _ => rfl) rfl hg (ok_one (by kernel_rfl) rfl (okWide_bool_mk Tryd.underlying4 _))⟩

theorem laid_met (os : Os) : laidMet Tryd.prog Rows.fieldParsesRow.laid ((laidWorld os).forCall (fun _ _ => 0) ⟨#[], #[.string ⟨#[]⟩], []⟩).memory :=
  laidMet_of_run' 8 (by kernel_rfl) (by kernel_rfl)
theorem reads (os : Os) {H : Type} (enc : TypeId × Value → H) : ∃ places, DataW.whole enc Tryd.prog ((laidWorld os).forCall (fun _ _ => 0) ⟨#[], #[.string ⟨#[]⟩], []⟩).memory Tryd.f5.params.toList Rows.fieldParsesSpec.vars false #[Value.string ⟨#[]⟩].toList 8 = some ([.lit (.string [])], [], places) :=
  ⟨[], by kernel_rfl⟩

set_option maxRecDepth 100000 in
theorem lifted (os : Os) (started : os.Started) (H : Type) (enc : TypeId × Value → H) (F : Stop.Interp) :
    ReturnsInHanded {} Tryd.checked os 5 .any ((OpenSpec.ofChange Rows.fieldParsesSpec).preRow enc Tryd.prog Tryd.f5 Rows.fieldParsesRow.domain false Rows.fieldParsesRow.laid) (((OpenSpec.ofChange Rows.fieldParsesSpec).at F).post enc Tryd.prog Tryd.f5 false true false false) := by
  obtain ⟨places, hx⟩ := reads os enc
  refine returnsInHanded_of_row (C := Tryd.checked) (s := OpenSpec.ofChange Rows.fieldParsesSpec) rowOwn started (by kernel_rfl) Tryd.func5
    (witness_row_at (enc := enc) (C := Tryd.checked) false (laidWorld os) #[.string ⟨#[]⟩] rfl (by kernel_rfl) (by kernel_rfl) (by kernel_rfl)
      (OpenSpec.preRow_of_cond 8 hx (by kernel_rfl) (fun k hk => by cases hk) (by kernel_rfl) (laid_met os))) ?_
  intro W base args ds gs before hval hW _ _ hz _ hsh _
  exact contract H enc W base args ds gs before hval hW hz (ml_of hsh)

theorem said : Rows.FieldParsesSaid :=
  OpenClaim.holds_of_cond 5 Tryd.f5 rfl rfl rfl rfl rfl rfl rfl ⟨rfl, rfl, rfl, rfl, rfl⟩ rfl rfl rfl rfl rfl (by kernel_rfl) Tryd.func5 (by kernel_rfl)
    (of_decide_eq_true (by kernel_rfl)) (by unfold Func.isWrapper; first | (rw [if_pos (by decide +kernel)]; kernel_rfl) | (rw [if_neg (by decide +kernel)]; exact ⟨rfl, rfl⟩))
    (fun os started H enc _ F => by rw [OpenClaim.pre_eq_preRow]; exact lifted os started H enc F)

theorem plain (f : FuncId) (fn : Func) (hf : Tryd.pinned.checked.prog.funcNamed Rows.fieldParsesRow.func = some f) (hfn : Tryd.pinned.checked.prog.funcs[f]? = some fn) :
    false = Tryd.pinned.checked.prog.looks [] ∧ ∀ (j : Nat) t, fn.params[j]? = some t → Tryd.pinned.checked.prog.wantsStandIn t = false := by
  obtain rfl : f = 5 := Option.some.inj ((show Tryd.prog.funcNamed Rows.fieldParsesRow.func = some 5 by kernel_rfl).symm.trans hf) |>.symm
  obtain rfl : fn = Tryd.f5 := (Option.some.inj (Tryd.func5.symm.trans hfn)).symm
  refine ⟨by kernel_rfl, fun j t ht => ?_⟩
  rw [Tryd.params5] at ht
  have hall : ∀ t ∈ (#[9] : Array TypeId), Tryd.prog.wantsStandIn t = false := by
    intro t ht
    simp only [List.mem_toArray, List.mem_cons, List.mem_nil_iff, or_false] at ht
    rcases ht with rfl <;> kernel_rfl
  exact hall t (Array.mem_of_getElem? ht)

theorem card : Rows.FieldParsesCardSaid :=
  Claim7.holds_tied_plain_at .later [] _ _ _ _ said (fun _ h => by cases h) (by kernel_rfl) (fun _ h => by cases h) fieldParses_row_tie rfl ⟨rfl, rfl⟩ (by kernel_rfl) rfl plain (by kernel_rfl)
end Go.Proofs.YtfpojgcnfclphaaDoor.parses
