/- What every law of this seat shares on its way from the walk to the card: a world for the witness, the last step. No conditions. -/
import Derived.Test.YtnmfmcmokdoieaaGreatDoorCards
import Derived.Test.YtnmfmcmokdoieaaGreatDoorTie
import Derived.WalkKit
import Derived.ProofKit
import Derived.OpenShut
import Derived.Deep.DeepHandedRow
import Derived.Test.YtnmfmcmokdoieaaGreatDoorBase
import Derived.Test.YtnmfmcmokdoieaaGreatDoorShelf
set_option linter.unusedVariables false
set_option linter.unusedSimpArgs false
namespace Go.Proofs.YtnmfmcmokdoieaaGreatDoor
open Go.ChangeShapes Go.WideShapes Go.ChangeAt Go.RowKit
open Go.ChangeMaps (open_string shut_string)

theorem rowLaidOut : laidOutB Tryz.prog = true := by kernel_rfl
theorem rowOwn : ownKnob Tryz.prog.godebug = none := by kernel_rfl
/-- the cells of a table -/
def tabCells : DataW Unit → Array Value
  | .agg l => (l.flatMap fun
    | .lit (.int k n) => [Value.int k n]
    | .lit (.string b) => [Value.string ⟨b.toArray⟩]
    | .agg m => m.map fun
      | .lit (.int k n) => Value.int k n
      | _ => undef
    | _ => []).toArray
  | _ => #[]
/-- a block, its cells those of a table -/
def relay (d : DataW Unit) : Obj → Obj
  | .cells _ t frozen => .cells (tabCells d) t frozen
  | o => o
/-- a block, its cell an error -/
def relayE (t : TypeId) (n : Nat) : Obj → Obj
  | .cells _ ty frozen => .cells #[.iface t (.pointer (some ⟨n, 0, none⟩))] ty frozen
  | o => o
/-- an error's text -/
def errCells : DataW Unit → Array Value
  | .iface _ (.ptr (.agg [.lit (.string b)])) => #[.string ⟨b.toArray⟩]
  | _ => #[]
/-- the settled world, its tables laid -/
noncomputable def laidWorld (os : Os) : World :=
  { World.holding Tryz.prog os ⟨#[], #[], []⟩ with heap := ((((((((((World.holding Tryz.prog os ⟨#[], #[], []⟩).heap).modify 2 (relay Rows.laid_math_bits_deBruijn32tab)).modify 3 (relay Rows.laid_math_bits_deBruijn64tab)).modify 1 (relay Rows.laid_internal_strconv_uint64pow10)).modify 7 (relay Rows.laid_unicode_utf8_acceptRanges)).modify 5 (relayE 144 (((World.holding Tryz.prog os ⟨#[], #[], []⟩).heap).size + 0))).modify 4 (relayE 144 (((World.holding Tryz.prog os ⟨#[], #[], []⟩).heap).size + 1))).modify 6 (relay Rows.laid_unicode_utf8_first)).push (.cells (errCells Rows.laid_strconv_ErrRange) 146)).push (.cells (errCells Rows.laid_strconv_ErrSyntax) 146) }

section
variable {H : Type} {enc : TypeId × Value → H} {P : Program}
/-- THE LAST STEP of a law that answers true, leaves its arguments alone and has only made new memory. -/
theorem law_post {f : Func} {s : ChangeSpec} {apart fresh handsOn again : Bool} {W W' : World} {args : Array Value} {v : Value} {ds gs : List (DataW H)} {before pa pv : List MemPlace}
    (hW : DataW.Whole enc P f.params.toList s.vars apart W args.toList ds gs before)
    (hres : ∀ (b : Nat) (sp : Nat → Bool) (hd : Bool), DataW.TrodAll enc P W' b sp hd f.resultTypes.toList (v.resultList f.resultTypes.size) (s.fn H (ds ++ gs)).results [])
    (hargs : ∀ sp : Nat → Bool, (∀ p ∈ before, sp p.block = true) → DataW.TrodAll enc P W' 0 sp true f.params.toList args.toList (s.fn H (ds ++ gs)).args pa)
    (hvars : ∀ sp : Nat → Bool, (∀ p ∈ before, sp p.block = true) → DataW.TrodVars enc P W' sp s.vars (s.fn H (ds ++ gs)).vars pv)
    (hps : before = pa ++ pv) (hb : Gr W W')
    (hok : ∀ (j : Nat) (t : TypeId) (r : Value), f.resultTypes[j]? = some t → (v.resultList f.resultTypes.size)[j]? = some r → Value.okWide P W' .any 0 t r) :
    s.post enc P f apart fresh handsOn again W args v W' := by
  have hlt : ∀ p ∈ before, p.block < W.heap.size := fun p hp => hW.lt p hp
  have hold : ∀ p ∈ before, (fun b => decide (b < W.heap.size)) p.block = true := fun p hp => by simpa using hlt p hp
  have hin : ∀ p, p ∈ before → p ∈ pa ++ pv := fun p hp => by rw [← hps]; exact hp
  refine ⟨ds, gs, before, [], pa, pv, hW, hres _ _ _, hargs _ hold, hvars _ hold, World.keptBut_mono (fun p hp => ⟨hp, .inr (List.mem_append.1 (hin p hp))⟩) (Below.frame hb (· ∈ before)), fun _ => ?_⟩
  obtain ⟨_, _, _, _, _, hz, hn⟩ := hW
  refine ⟨hok, _, _, ([] ++ pa) ++ pv, ⟨[] ++ pa, pv, trodAll_append (hargs _ (fun _ _ => rfl)) (hres _ _ _), hvars _ (fun _ _ => rfl), rfl, fun b off hp => ?_, fun ha => ?_⟩, fun p hp _ => ?_⟩
  · have hbf : MemPlace.cell b off ∈ before := by rw [hps]; simpa using hp
    rw [Below.frozen hb (hlt _ hbf)]
    exact hz b off hbf
  · have := hn ha
    rw [hps] at this
    simpa using this
  · rw [hps]; simpa using hp
/-- the arguments read as they did -/
theorem args_stay (hl : laidOutB P = true) {W W' : World} (hb : Gr W W') {sp : Nat → Bool} : ∀ {ts : List TypeId} {vs : List Value} {ds : List (DataW H)} {ps : List MemPlace},
    (∀ t ∈ ts, P.readableRec t = true ∧ t < P.types.size) → (∀ p ∈ ps, p.block < W.heap.size) → (∀ p ∈ ps, sp p.block = true) →
    DataW.TrodAll enc P W 0 (fun _ => true) true ts vs ds ps → DataW.TrodAll enc P W' 0 sp true ts vs ds ps
  | [], [], [], _, _, _, _, h => h
  | t :: ts, v :: vs, d :: ds, ps, hr, hlt, hsp, h => by
    obtain ⟨p, q, h1, h2, rfl⟩ := h
    refine ⟨p, q, WideElems.Trod_stays hl (hr t (by simp)).1 (hr t (by simp)).2 h1 (fun x hx => Below.same hb (hlt x (by simp [hx]))) (fun x hx => hsp x (by simp [hx])), ?_, rfl⟩
    exact args_stay hl hb (fun t ht => hr t (by simp [ht])) (fun x hx => hlt x (by simp [hx])) (fun x hx => hsp x (by simp [hx])) h2
  | [], [], _ :: _, _, _, _, _, h => h.elim
  | [], _ :: _, _, _, _, _, _, h => h.elim
  | _ :: _, [], _, _, _, _, _, h => h.elim
  | _ :: _, _ :: _, [], _, _, _, _, h => h.elim
/-- THE LAST STEP, in one: a law that answered true and has only made new memory -/
theorem law_done {f : Func} {s : ChangeSpec} {tb : TypeId} {fresh handsOn again : Bool} {W W' : World} {args : Array Value} {ds : List (DataW H)} {before : List MemPlace}
    (hl : laidOutB P = true) (hrb : (f.params.toList.all fun t => P.readableRec t && decide (t < P.types.size)) = true) (hv : s.vars = []) (htb : P.underlying tb = some .bool) (hrt : f.resultTypes = #[tb])
    (hfn : s.fn H (ds ++ []) = { results := [.lit (.bool true)], args := ds })
    (hW : DataW.Whole enc P f.params.toList s.vars false W args.toList ds [] before) (hb : Gr W W') :
    s.post enc P f false fresh handsOn again W args (.bool true) W' := by
  have hr : ∀ t ∈ f.params.toList, P.readableRec t = true ∧ t < P.types.size := fun t ht => by simpa using List.all_eq_true.1 hrb t ht
  obtain ⟨p, q, hA, hV, he, hz, hn⟩ := id hW
  rw [hv] at hV
  obtain ⟨_, rfl⟩ := trodVars_none hV
  rw [List.append_nil] at he
  subst he
  refine law_post (pa := before) (pv := []) hW (fun _ _ _ => ?_) (fun sp hsp => ?_) (fun _ _ => ?_) (by simp) hb ?_
  · rw [hfn, hrt]; exact trodAll_cons_mk (shut_bool htb _) trodAll_mk0
  · rw [hfn]; exact args_stay hl hb hr (fun x hx => hW.lt x hx) hsp hA
  · rw [hv, hfn]; exact rfl
  · rw [hrt]
    intro j t r hj hr
    match j, hj, hr with
    | 0, hj, hr =>
      simp only [List.getElem?_toArray, List.getElem?_cons_zero, Option.some.injEq] at hj
      subst hj
      have : r = .bool true := by simpa [Value.resultList] using hr.symm
      subst this
      exact okWide_bool_mk htb _
    | j + 1, hj, _ => simp at hj
end
end Go.Proofs.YtnmfmcmokdoieaaGreatDoor
