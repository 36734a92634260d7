/- The items of values, told as long as they are asked for: how many are. -/
import Derived.Test.YtfpojgcnfclphaaDoorField10
namespace Go.Proofs.YtfpojgcnfclphaaDoor
open Go.RowKit
theorem mem_bulk1 {x : List UInt8} {vs : List (List UInt8)} (h : x ∈ vs) : x.length ≤ bulk1 vs := by
  unfold bulk1
  induction vs with
  | nil => cases h
  | cons y vs ih =>
    simp only [List.map_cons, List.sum_cons]
    rcases List.mem_cons.1 h with rfl | h
    · omega
    · have := ih h; omega
/-- how many have been told: the cell of block g -/
def Count (w2 : World) (g : Nat) (ys : List (List UInt8)) (w : World) : Prop := w2.grownBy w (some g) ∧ Bk w g 3 #[.int .i64 ys.length] (0, 0)
theorem Count.gr {w2 : World} {g : Nat} {ys : List (List UInt8)} {w w' : World} (h : Count w2 g ys w) (k : Gr w w') : Count w2 g ys w' := ⟨by_tr h.1 k, h.2.gr k⟩
set_option maxHeartbeats 2000000 in
theorem count_any (w2 : World) (g g6 N : Nat) (ys : List (List UInt8)) (x : List UInt8) (w : World) (hne : g6 ≠ g) (h6 : w2.cell? ⟨g6, 0, none⟩ = some (.int .i64 (N : Int))) (h : Count w2 g ys w) (_hy : ys.length ≤ 1000000) :
    Calls Tryd.prog 17 (#[str x] ++ #[.pointer (some ⟨g, 0, none⟩), .pointer (some ⟨g6, 0, none⟩)]) w fun e w' => e = .returned (.bool (decide (ys.length + 1 < N))) ∧ Count w2 g (ys ++ [x]) w' := by
  obtain ⟨hw2, hbk⟩ := h
  have hc : w.cell? ⟨g, 0, none⟩ = some (.int .i64 (ys.length : Int)) := hbk.cell 0
  have hf := hbk.free 0 (.inr (Nat.le_refl _))
  have hbk2 := hbk.set 0 (.int .i64 ((ys.length : Int) + 1))
  have hcn : (w.setCell ⟨g, 0, none⟩ (.int .i64 ((ys.length : Int) + 1))).cell? ⟨g, 0, none⟩ = some (.int .i64 ((ys.length : Int) + 1)) := hbk2.cell 0
  have hc6 : (w.setCell ⟨g, 0, none⟩ (.int .i64 ((ys.length : Int) + 1))).cell? ⟨g6, 0, none⟩ = some (.int .i64 (N : Int)) := by
    rw [World.cell?_setCell_other _ _ _ _ (h := by intro hh; injection hh with hh _ _; exact hne hh.symm)]
    exact by_cell hw2 h6 (by simp only [ne_eq, Option.some.injEq]; exact hne)
  have HE : Hid (Count w2 g (ys ++ [x]) (w.setCell ⟨g, 0, none⟩ (.int .i64 ((ys.length : Int) + 1)))) := ⟨by_st hw2 0 _, by simpa using hbk2⟩
  clear hbk2 hw2 hbk h6
  show Calls Tryd.prog 17 #[str x, .pointer (some ⟨g, 0, none⟩), .pointer (some ⟨g6, 0, none⟩)] w _
  go_enter Tryd.func17, Tryd.ntmps17
  go_wp2_with fail
  go_ret
  exact ⟨ret_bool (by rw [decide_eq_decide]; omega), HE.out⟩
theorem cf_count (args : Array Value) (w : World) : (callFunc 17 args).run Tryd.prog w = .ok (.enter 17 args) w := by kernel_rfl
end Go.Proofs.YtfpojgcnfclphaaDoor
