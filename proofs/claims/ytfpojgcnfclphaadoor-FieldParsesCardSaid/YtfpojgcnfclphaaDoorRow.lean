/- What every law of this seat shares on its way from the walk to the card: a world for the witness, the last step. No conditions. -/
import Derived.Test.YtfpojgcnfclphaaDoorCards
import Derived.Test.YtfpojgcnfclphaaDoorTie
import Derived.WalkKit
import Derived.ProofKit
import Derived.OpenShut
import Derived.Deep.DeepHandedRow
import Derived.Test.YtfpojgcnfclphaaDoorBase
import Derived.Test.YtfpojgcnfclphaaDoorShelf
namespace Go.Proofs.YtfpojgcnfclphaaDoor
open Go.ChangeShapes Go.WideShapes Go.ChangeAt Go.RowKit
open Go.ChangeMaps (open_string shut_string)

theorem rowOwn : ownKnob Tryd.prog.godebug = none := by kernel_rfl
/-- the cells of a table -/
def tabCells : DataW Unit → Array Value
  | .agg l => (l.flatMap fun
    | .lit (.int k n) => [Value.int k n]
    | .agg m => m.map fun
      | .lit (.int k n) => Value.int k n
      | _ => undef
    | _ => []).toArray
  | _ => #[]
/-- a block, its cells those of a table -/
def relay (d : DataW Unit) : Obj → Obj
  | .cells _ t frozen => .cells (tabCells d) t frozen
  | o => o
/-- the settled world, its tables laid -/
noncomputable def laidWorld (os : Os) : World :=
  { World.holding Tryd.prog os ⟨#[], #[], []⟩ with heap := ((World.holding Tryd.prog os ⟨#[], #[], []⟩).heap.modify 1 (relay Rows.laid_unicode_utf8_first)).modify 2 (relay Rows.laid_unicode_utf8_acceptRanges) }

section
variable {H : Type} {enc : TypeId × Value → H} {P : Program}
/-- THE LAST STEP of a law that answers true, leaves its arguments alone and has only made new memory. -/
theorem law_post {f : Func} {s : ChangeSpec} {apart fresh handsOn again : Bool} {W W' : World} {args : Array Value} {v : Value} {ds gs : List (DataW H)} {before pa pv : List MemPlace}
    (hW : DataW.Whole enc P f.params.toList s.vars apart W args.toList ds gs before)
    (hres : ∀ (b : Nat) (sp : Nat → Bool) (hd : Bool), DataW.TrodAll enc P W' b sp hd f.resultTypes.toList (v.resultList f.resultTypes.size) (s.fn H (ds ++ gs)).results [])
    (hargs : ∀ sp : Nat → Bool, (∀ p ∈ before, sp p.block = true) → DataW.TrodAll enc P W' 0 sp true f.params.toList args.toList (s.fn H (ds ++ gs)).args pa)
    (hvars : ∀ sp : Nat → Bool, (∀ p ∈ before, sp p.block = true) → DataW.TrodVars enc P W' sp s.vars (s.fn H (ds ++ gs)).vars pv)
    (hps : before = pa ++ pv) (hb : Gr W W')
    (hok : ∀ (j : Nat) (t : TypeId) (r : Value), f.resultTypes[j]? = some t → (v.resultList f.resultTypes.size)[j]? = some r → Value.okWide P W' .any 0 t r) :
    s.post enc P f apart fresh handsOn again W args v W' := by
  have hlt : ∀ p ∈ before, p.block < W.heap.size := fun p hp => hW.lt p hp
  have hold : ∀ p ∈ before, (fun b => decide (b < W.heap.size)) p.block = true := fun p hp => by simpa using hlt p hp
  have hin : ∀ p, p ∈ before → p ∈ pa ++ pv := fun p hp => by rw [← hps]; exact hp
  refine ⟨ds, gs, before, [], pa, pv, hW, hres _ _ _, hargs _ hold, hvars _ hold, World.keptBut_mono (fun p hp => ⟨hp, .inr (List.mem_append.1 (hin p hp))⟩) (Below.frame hb (· ∈ before)), fun _ => ?_⟩
  obtain ⟨_, _, _, _, _, hz, hn⟩ := hW
  refine ⟨hok, _, _, ([] ++ pa) ++ pv, ⟨[] ++ pa, pv, trodAll_append (hargs _ (fun _ _ => rfl)) (hres _ _ _), hvars _ (fun _ _ => rfl), rfl, fun b off hp => ?_, fun ha => ?_⟩, fun p hp _ => ?_⟩
  · have hbf : MemPlace.cell b off ∈ before := by rw [hps]; simpa using hp
    rw [Below.frozen hb (hlt _ hbf)]
    exact hz b off hbf
  · have := hn ha
    rw [hps] at this
    simpa using this
  · rw [hps]; simpa using hp
end
end Go.Proofs.YtfpojgcnfclphaaDoor
