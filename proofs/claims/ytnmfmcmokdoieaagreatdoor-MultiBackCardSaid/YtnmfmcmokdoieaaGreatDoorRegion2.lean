/- A region that draws its order: behind an operation that made memory, what only reads is again walked once, over that world. No conditions. -/
import Derived.Test.YtnmfmcmokdoieaaGreatDoorRegion
set_option linter.unusedVariables false
set_option linter.unusedSimpArgs false
namespace Go.Proofs.YtnmfmcmokdoieaaGreatDoor
open Go.RowKit
theorem by_by {a b c : World} {r : Option Nat} (h : a.grownBy b r) (k : b.grownBy c r) : a.grownBy c r :=
  ⟨k.os.trans h.os, k.tape.trans h.tape, k.output.trans h.output, Nat.le_trans h.size k.size, fun i hi hr => (k.block i (Nat.lt_of_lt_of_le hi h.size) hr).trans (h.block i hi hr)⟩
section
variable {P : Program} {ops : Array Oper} {md : Region.Mode} {Q : Exit → Act → World → Prop} {r : Option Nat}
theorem wpG_rebase {w0 w1 : World} (hb : w0.grownBy w1 r) : ∀ (fuel : Nat) (listed : Array Bool) (a : Act) (w : World), wpG P md ops Q w1 r fuel listed a w → wpG P md ops Q w0 r fuel listed a w
  | 0, _, _, _, h => h
  | fuel + 1, _, _, _, h => fun w' hw' => ⟨(h w' hw').1, fun i hi => wpOp_mono (fun a'' w'' h' => ⟨by_by hb h'.1, wpG_rebase hb fuel _ a'' w'' h'.2⟩) ((h w' hw').2 i hi)⟩
/-- the operations numbered in idx, walked once, over the world that there is -/
theorem wpG_quiet {w0 w : World} {l : List Oper} {fuel : Nat} {listed : Array Bool} {a : Act} (idx : List Nat) (n : Nat) (hw : w0.grownBy w r) (hn : fuel = idx.length + n) (hB : (Region.noSelect l.toArray && mixGo md l.toArray idx listed) = true)
    (hQ : ∀ (o : Option Tmp) (v : Value) c a w, Q (.panic c) (a.put o v) w → Q (.panic c) a w)
    (h : wpGq P l.toArray w r (fun a' => wpG P md l.toArray Q w r n (mixAt idx listed) a' w) (pickOps l idx) a) : wpG P md l.toArray Q w0 r fuel listed a w := by
  simp only [Bool.and_eq_true] at hB
  rw [hn]
  exact wpG_rebase hw _ _ _ _ (wpG_lex hB.1 hQ ((Gr.refl w).by r) n idx (pickOps l idx) listed a (pick_some hB.2) hB.2 h)
/-- two operations either of which may come up first -/
theorem wpG_two {w0 : World} {fuel : Nat} {listed : Array Bool} {a : Act} {w : World} (i j : Nat) {oi oj : Oper} (hr : Region.ready md ops listed = [i, j]) (hi : ops[i]? = some oi) (hj : ops[j]? = some oj) (hgi : oi.guard = none) (hgj : oj.guard = none)
    (h1 : ∀ (K : Act → World → Prop), (∀ a'' w'', w0.grownBy w'' r → wpG P md ops Q w0 r fuel (listed.setIfInBounds i true) a'' w'' → K a'' w'') → ∀ w', Gr w w' → oi.wp P a w' K Q)
    (h2 : ∀ (K : Act → World → Prop), (∀ a'' w'', w0.grownBy w'' r → wpG P md ops Q w0 r fuel (listed.setIfInBounds j true) a'' w'' → K a'' w'') → ∀ w', Gr w w' → oj.wp P a w' K Q) : wpG P md ops Q w0 r (fuel + 1) listed a w := by
  intro w' hw'
  rw [hr]
  refine ⟨fun h => by simp at h, fun k hk => ?_⟩
  simp only [List.mem_cons, List.not_mem_nil, or_false] at hk
  have t1 : Region.wanted oi (yielded ops a.tmps) = true := by simp [Region.wanted, hgi]
  have t2 : Region.wanted oj (yielded ops a.tmps) = true := by simp [Region.wanted, hgj]
  rcases hk with rfl | rfl
  · unfold wpOp
    simp only [hi]
    rw [if_pos t1]
    exact .inl (h1 _ (fun a'' w'' h1 h2 => ⟨h1, h2⟩) w' hw')
  · unfold wpOp
    simp only [hj]
    rw [if_pos t2]
    exact .inl (h2 _ (fun a'' w'' h1 h2 => ⟨h1, h2⟩) w' hw')
end
end Go.Proofs.YtnmfmcmokdoieaaGreatDoor
