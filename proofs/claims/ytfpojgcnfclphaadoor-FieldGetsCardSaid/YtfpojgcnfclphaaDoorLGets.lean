/- The law FieldGets: the values of any name in any fields are what the document says. Conditions: none beyond the row's own ('laid': tables of the library as the program's text lays them). -/
import Derived.Test.YtfpojgcnfclphaaDoorOpen
import Derived.Test.YtfpojgcnfclphaaDoorField10
namespace Go.Proofs.YtfpojgcnfclphaaDoor.lgets
open Go.ChangeShapes Go.WideShapes Go.ChangeAt Go.RowKit
set_option maxHeartbeats 2000000 in
set_option maxRecDepth 100000 in
theorem walk (u : Value) (xs : List Fld) (n : List UInt8) (w : World) (hm : Ml w) (hu : Flds w u xs) (hs : Short2 xs) (_hn : n.length ≤ 140737488355328) : Calls Tryd.prog 6 #[u, str n] w fun e w' => e = .returned (.bool true) ∧ Gr w w' := by
  have HM := Lib.hid hm; have HU := Lib.hid hu; have HS := Lib.hid hs; clear hm hu hs
  cases hg : great2 xs with
  | true =>
    go_enter Tryd.func6, Tryd.ntmps6
    go_wp2_with (first | (go_at_call 11; refine (alive_any _ HM.out).mono ?_; rintro e w1 ⟨rfl, hG1⟩) | (go_at_call 23; refine (great2_any _ _ _ (HU.out.gr hG1) HS.out).mono ?_; rintro e w2 ⟨rfl, hG2⟩))
    go_ret
    exact ⟨rfl, Gr.tr hG1 hG2⟩
  | false =>
    have hxl : xs.length ≤ 1000000 := by
      have : ¬ 130 < xs.length := fun h => by rw [great2_big h] at hg; cases hg
      omega
    have hsn : Short [n] := by intro x hx; simp at hx; subst hx; exact _hn
    have HSN := Lib.hid hsn; clear hsn
    go_enter Tryd.func6, Tryd.ntmps6
    go_wp2_with (first | (go_at_call 11; refine (alive_any _ HM.out).mono ?_; rintro e w1 ⟨rfl, hG1⟩) | (go_at_call 23; refine (great2_any _ _ _ (HU.out.gr hG1) HS.out).mono ?_; rintro e w2 ⟨rfl, hG2⟩))
    refine (great1_any _ _ _ (strs_new w2 [n] 9 (by simp)) HSN.out).mono ?_
    rintro e w3 ⟨rfl, hG3⟩
    have hGb := Gr.tr (Gr.tr hG1 hG2) (Gr.tr (Gr.al (Gr.refl w2) _) hG3)
    have HU3 := Lib.hid (HU.out.gr hGb)
    clear hG1 hG2 hG3
    cases hg1 : great1 [n] with
    | true =>
      go_wp2_with fail
      go_ret
      exact ⟨rfl, hGb⟩
    | false =>
      go_wp2_with fail
      refine (get_any _ _ _ _ HU3.out HS.out _hn).mono ?_
      rintro e w4 ⟨rfl, hG4⟩
      go_wp2_with fail
      refine (refGet_any _ _ _ _ (HU3.out.gr hG4) HS.out _hn hxl).mono ?_
      rintro e w5 ⟨rfl, hG5⟩
      have hb : ((getN xs n).1 == (getN xs n).1) = true := by simp
      have hb2 : ((getN xs n).2 == (getN xs n).2) = true := by simp
      go_wp2_with fail
      refine (of_any _ _ _ _ ((HU3.out.gr hG4).gr hG5) HS.out _hn hxl).mono ?_
      rintro e w6 ⟨v6, rfl, hv6, hG6⟩
      go_wp2_with fail
      refine (refOf_any _ _ _ _ (((HU3.out.gr hG4).gr hG5).gr hG6) HS.out _hn hxl).mono ?_
      rintro e w7 ⟨v7, rfl, hv7, hG7⟩
      have HV6 := Lib.hid (hv6.gr hG7); have HV7 := Lib.hid hv7
      clear hv6 hv7
      go_wp2_with (go_at_call 14; refine (texts_any _ _ _ _ _ HV6.out HV7.out).mono ?_; rintro e w8 ⟨rfl, hG8⟩)
      go_ret
      exact ⟨by simp, Gr.tr hGb (Gr.tr hG4 (Gr.tr hG5 (Gr.tr hG6 (Gr.tr hG7 hG8))))⟩
theorem contract (H : Type) (enc : TypeId × Value → H) (W : World) (base : Nat) (args : Array Value) (ds gs : List (DataW H)) (before : List MemPlace)
    (hval : ∀ (j : Nat) t v, Tryd.f6.params[j]? = some t → args[j]? = some v → Value.okWide Tryd.prog W .any base t v)
    (hW : DataW.Whole enc Tryd.prog Tryd.f6.params.toList Rows.fieldGetsSpec.vars false W args.toList ds gs before)
    (hz : (DataW.weightsEach Tryd.prog (Tryd.f6.params.toList ++ (OpenSpec.ofChange Rows.fieldGetsSpec).bare.plain.varTypes Tryd.prog) (ds ++ gs)).all (· ≤ reachBytes) = true) (hm : Ml W) :
    Calls Tryd.prog 6 args W fun e W' => ∃ v, e = .returned v ∧ Rows.fieldGetsSpec.post enc Tryd.prog Tryd.f6 false true false false W args v W' := by
  have hW' := hW
  obtain ⟨p, q, hA0, hV, rfl, hfz, hnd⟩ := hW
  have hA : DataW.TrodAll enc Tryd.prog W 0 (fun _ => true) true Tryd.f6.params.toList args.toList ds p := hA0
  have hz1 : ∀ n ∈ DataW.weightsEach Tryd.prog (Tryd.f6.params.toList ++ (OpenSpec.ofChange Rows.fieldGetsSpec).bare.plain.varTypes Tryd.prog) (ds ++ gs), n ≤ reachBytes := fun n hn => by simpa using List.all_eq_true.1 hz n hn
  rw [Tryd.params6] at hA hval hz1
  obtain ⟨v0, vs0, d0, ds0, p0, q0, hargs0, rfl, rfl, h0, r0⟩ := trodAll_cons hA
  obtain ⟨v1, vs1, d1, ds1, p1, q1, hargs1, rfl, rfl, h1, r1⟩ := trodAll_cons r0
  obtain ⟨rfl, rfl, rfl⟩ := trodAll_nil r1
  obtain rfl : args = #[v0, v1] := by cases args; simp_all
  obtain ⟨rfl, rfl⟩ := trodVars_none hV
  have hz0a : ∀ n ∈ d0.weights Tryd.prog 35, n ≤ reachBytes := fun n hn => hz1 n (by simp [DataW.weightsEach, hn])
  have hz1a : ∀ n ∈ d1.weights Tryd.prog 9, n ≤ reachBytes := fun n hn => hz1 n (by simp [DataW.weightsEach, hn])
  obtain ⟨xs0, hx0, hs0, hn0⟩ := open_flds Tryd.underlying35 Tryd.underlying33 (by kernel_rfl) (by kernel_rfl) (by kernel_rfl) Tryd.underlying9 Tryd.underlying9 (hval 0 35 v0 rfl rfl) h0 hz0a
  obtain ⟨l1, rfl, hl1⟩ := open_text Tryd.underlying9 (hval 1 9 v1 rfl rfl) h1 hz1a
  refine (walk _ xs0 l1 W hm hx0 hs0 hl1).mono fun e W' ⟨he, hg⟩ => ?_
  subst he
  exact ⟨_, rfl, law_done rowLaidOut (by kernel_rfl) rfl Tryd.underlying4 (by kernel_rfl) rfl (by simpa using hW') hg⟩

theorem laid_met (os : Os) : laidMet Tryd.prog Rows.fieldGetsRow.laid ((laidWorld os).forCall (fun _ _ => 0) ⟨#[], #[.slice none 0 0, .string ⟨#[]⟩], []⟩).memory :=
  laidMet_of_run' 8 (by kernel_rfl) (by kernel_rfl)
theorem reads (os : Os) {H : Type} (enc : TypeId × Value → H) : ∃ places, DataW.whole enc Tryd.prog ((laidWorld os).forCall (fun _ _ => 0) ⟨#[], #[.slice none 0 0, .string ⟨#[]⟩], []⟩).memory Tryd.f6.params.toList Rows.fieldGetsSpec.vars false (#[.slice none 0 0, .string ⟨#[]⟩] : Array Value).toList 8 = some ([.nil, .lit (.string [])], [], places) :=
  ⟨[], by kernel_rfl⟩

set_option maxRecDepth 100000 in
theorem lifted (os : Os) (started : os.Started) (H : Type) (enc : TypeId × Value → H) (F : Stop.Interp) :
    ReturnsInHanded {} Tryd.checked os 6 .any ((OpenSpec.ofChange Rows.fieldGetsSpec).preRow enc Tryd.prog Tryd.f6 Rows.fieldGetsRow.domain false Rows.fieldGetsRow.laid) (((OpenSpec.ofChange Rows.fieldGetsSpec).at F).post enc Tryd.prog Tryd.f6 false true false false) := by
  obtain ⟨places, hx⟩ := reads os enc
  refine returnsInHanded_of_row (C := Tryd.checked) (s := OpenSpec.ofChange Rows.fieldGetsSpec) rowOwn started (by kernel_rfl) Tryd.func6
    (witness_row_at (enc := enc) (C := Tryd.checked) false (laidWorld os) #[.slice none 0 0, .string ⟨#[]⟩] rfl (by kernel_rfl) (by kernel_rfl) (by kernel_rfl)
      (OpenSpec.preRow_of_cond 8 hx (by kernel_rfl) (fun k hk => by cases hk) (by kernel_rfl) (laid_met os))) ?_
  intro W base args ds gs before hval hW _ _ hz _ hsh _
  exact contract H enc W base args ds gs before hval hW hz (ml_of hsh)

theorem said : Rows.FieldGetsSaid :=
  OpenClaim.holds_of_cond 6 Tryd.f6 rfl rfl rfl rfl rfl rfl rfl ⟨rfl, rfl, rfl, rfl, rfl⟩ rfl rfl rfl rfl rfl (by kernel_rfl) Tryd.func6 (by kernel_rfl)
    (of_decide_eq_true (by kernel_rfl)) (by unfold Func.isWrapper; first | (rw [if_pos (by decide +kernel)]; kernel_rfl) | (rw [if_neg (by decide +kernel)]; exact ⟨rfl, rfl⟩))
    (fun os started H enc _ F => by rw [OpenClaim.pre_eq_preRow]; exact lifted os started H enc F)

theorem plain (f : FuncId) (fn : Func) (hf : Tryd.pinned.checked.prog.funcNamed Rows.fieldGetsRow.func = some f) (hfn : Tryd.pinned.checked.prog.funcs[f]? = some fn) :
    false = Tryd.pinned.checked.prog.looks [] ∧ ∀ (j : Nat) t, fn.params[j]? = some t → Tryd.pinned.checked.prog.wantsStandIn t = false := by
  obtain rfl : f = 6 := Option.some.inj ((show Tryd.prog.funcNamed Rows.fieldGetsRow.func = some 6 by kernel_rfl).symm.trans hf) |>.symm
  obtain rfl : fn = Tryd.f6 := (Option.some.inj (Tryd.func6.symm.trans hfn)).symm
  refine ⟨by kernel_rfl, fun j t ht => ?_⟩
  have hall : (Tryd.f6.params.toList.all fun t => !Tryd.prog.wantsStandIn t) = true := by kernel_rfl
  have h1 := List.all_eq_true.1 hall t (by simpa using Array.mem_of_getElem? ht)
  have h2 : Tryd.prog.wantsStandIn t = false := by simpa using h1
  exact h2

theorem card : Rows.FieldGetsCardSaid :=
  Claim7.holds_tied_plain_at .later [] _ _ _ _ said (fun _ h => by cases h) (by kernel_rfl) (fun _ h => by cases h) fieldGets_row_tie rfl ⟨rfl, rfl⟩ (by kernel_rfl) rfl plain (by kernel_rfl)
end Go.Proofs.YtfpojgcnfclphaaDoor.lgets
