/- A small region that draws its order: one plain walk for each order that the tape may pick. No conditions. -/
import Derived.Test.YtghopokdfjcjlaaDoorRange1
namespace Go.Proofs.YtghopokdfjcjlaaDoor
open Go.RowKit
/-- all orders in which a region's operations may come -/
def ordersOf (md : Region.Mode) (ops : Array Oper) : Nat → Array Bool → List (List Nat)
  | 0, _ => [[]]
  | fuel + 1, listed => match Region.ready md ops listed with
    | [] => [[]]
    | r => r.flatMap fun i => (ordersOf md ops fuel (listed.setIfInBounds i true)).map (i :: ·)
theorem linearise_mem (md : Region.Mode) (ops : Array Oper) : ∀ (fuel t : Nat) (listed : Array Bool), Region.linearise.go md ops fuel t listed [] ∈ ordersOf md ops fuel listed
  | 0, t, listed => by simp [Region.linearise.go, ordersOf]
  | fuel + 1, t, listed => by
    simp only [Region.linearise.go]
    change (match (Region.ready md ops listed)[t % (Region.ready md ops listed).length]? with
      | some i => Region.linearise.go md ops fuel (t / (Region.ready md ops listed).length) (listed.setIfInBounds i true) [i]
      | none => [].reverse) ∈ _
    unfold ordersOf
    cases hr : Region.ready md ops listed with
    | nil => simp
    | cons x xs =>
      have hlt : t % (x :: xs).length < (x :: xs).length := Nat.mod_lt _ (by simp)
      rw [List.getElem?_eq_getElem hlt]
      simp only
      rw [linearise_go_acc, List.reverse_singleton, List.singleton_append]
      rw [List.mem_flatMap]
      exact ⟨_, List.getElem_mem hlt, List.mem_map.2 ⟨_, linearise_mem md ops fuel _ _, rfl⟩⟩
theorem wpOps_pick {P : Program} {ops : Array Oper} {Q : Exit → Act → World → Prop} : ∀ (ord : List Nat) (l : List Oper), ord.map (ops[·]?) = l.map some → ∀ (a : Act) (w : World), wpList P ops Q l a w → wpOps P ops Q ord a w
  | [], [], _, _, _, h => h
  | i :: ord, o :: l, hm, a, w, h => by
    simp only [List.map_cons, List.cons.injEq] at hm
    rw [wpOps_cons]
    unfold wpOp
    simp only [hm.1]
    simp only [wpList] at h
    by_cases hw : Region.wanted o (yielded ops a.tmps) = true
    · simp only [hw, if_true] at h ⊢
      exact h.imp (Oper.wp_mono fun a w => wpOps_pick ord l hm.2 a w) id
    · simp only [hw, if_false, Bool.false_eq_true] at h ⊢
      exact wpOps_pick ord l hm.2 _ _ h
  | [], _ :: _, hm, _, _, _ => by simp at hm
  | _ :: _, [], hm, _, _, _ => by simp at hm
theorem wpOpsR_pick {l n : Nat} {P : Program} {ops : Array Oper} {Q : Exit → Act → World → Prop} (hQ : ∀ a w, Q .outgrown a w → False) : ∀ (ord : List Nat) (os : List Oper), ord.map (ops[·]?) = os.map some → noDefer os = true → ∀ (a : Act) (w : World), wpList P ops Q os a w → wpOpsIn (Fence.wide.inRound l) n P ops Q ord a w
  | [], [], _, _, _, _, h => h
  | i :: ord, o :: os, hm, hd, a, w, h => by
    simp only [List.map_cons, List.cons.injEq] at hm
    simp only [noDefer, List.all_cons, Bool.and_eq_true] at hd
    rw [wpOpsIn_cons]
    unfold wpOpIn
    simp only [hm.1]
    simp only [wpList] at h
    by_cases hw : Region.wanted o (yielded ops a.tmps) = true
    · simp only [hw, if_true] at h ⊢
      rcases h with h | ⟨_, a', w', h⟩
      · exact Oper.wpIn_mono (fun a w => wpOpsR_pick hQ ord os hm.2 hd.2 a w) (wpR_oper hd.1 h)
      · exact (hQ _ _ h).elim
    · simp only [hw, if_false, Bool.false_eq_true] at h ⊢
      exact ⟨fun _ _ => trivial, wpOpsR_pick hQ ord os hm.2 hd.2 _ _ h⟩
  | [], _ :: _, hm, _, _, _, _ => by simp at hm
  | _ :: _, [], hm, _, _, _, _ => by simp at hm
theorem pick_all {os : List Oper} : ∀ (ord : List Nat), (ord.all fun i => decide (i < os.length)) = true → ord.map (os.toArray[·]?) = (pickOps os ord).map some
  | [], _ => rfl
  | i :: ord, h => by
    simp only [List.all_cons, Bool.and_eq_true, decide_eq_true_eq] at h
    have hi : os[i]? = some os[i] := List.getElem?_eq_getElem h.1
    rw [List.map_cons, pick_all ord h.2]
    simp [pickOps, hi]
theorem noDefer_pick {os : List Oper} (hd : noDefer os = true) : ∀ (ord : List Nat), noDefer (pickOps os ord) = true
  | [] => rfl
  | i :: ord => by
    unfold noDefer at *
    rw [List.all_eq_true] at hd ⊢
    intro o ho
    simp only [pickOps, List.mem_filterMap] at ho
    obtain ⟨j, _, hj⟩ := ho
    exact hd o (List.mem_of_getElem? hj)
/-- a round's region: one walk for each order -/
theorem wpR_region_orders {l n id : Nat} {P : Program} {os : List Oper} {Q : Exit → Act → World → Prop} {a : Act} {w : World} (ords : List (List Nat)) (hm : P.follows .mixedOrders = true) (hd : noDefer os = true) (hQ : ∀ a w, Q .outgrown a w → False)
    (ho : ordersOf .any os.toArray os.toArray.size (Array.replicate os.toArray.size false) = ords) (hl : (ords.all fun ord => ord.all fun i => decide (i < os.length)) = true)
    (h : ∀ ord ∈ ords, wpList P os.toArray Q (pickOps os ord) a w.drew) : (Code.region id os.toArray true).wpIn (Fence.wide.inRound l) n P Q a w :=
  wpIn_region_draw fun t => by
    simp only [Region.schedule, hm, Bool.true_or, if_true]
    have hmem := linearise_mem .any os.toArray os.toArray.size t (Array.replicate os.toArray.size false)
    rw [ho] at hmem
    exact wpOpsR_pick hQ _ _ (pick_all _ ((List.all_eq_true.1 hl) _ hmem)) (noDefer_pick hd _) _ _ (h _ hmem)
/-- the same in a function's own frame -/
theorem wp_region_orders {id : Nat} {P : Program} {os : List Oper} {Q : Exit → Act → World → Prop} {a : Act} {w : World} (ords : List (List Nat)) (hm : P.follows .mixedOrders = true)
    (ho : ordersOf .any os.toArray os.toArray.size (Array.replicate os.toArray.size false) = ords) (hl : (ords.all fun ord => ord.all fun i => decide (i < os.length)) = true)
    (h : ∀ ord ∈ ords, wpList P os.toArray Q (pickOps os ord) a w.drew) : (Code.region id os.toArray true).wp P Q a w :=
  wp_region_draw fun t => by
    simp only [Region.schedule, hm, Bool.true_or, if_true]
    have hmem := linearise_mem .any os.toArray os.toArray.size t (Array.replicate os.toArray.size false)
    rw [ho] at hmem
    exact wpOps_pick _ _ (pick_all _ ((List.all_eq_true.1 hl) _ hmem)) _ _ (h _ hmem)
end Go.Proofs.YtghopokdfjcjlaaDoor
