/- The field of a line. Contract. -/
import Derived.Test.YtidijgofoklejaaDoorField5
import Derived.Test.YtidijgofoklejaaDoorFieldLaw3
import Derived.Test.YtidijgofoklejaaDoorRegion
namespace Go.Proofs.YtidijgofoklejaaDoor
open Go.RowKit
theorem fieldR_hit {l a b : List UInt8} (h : cutC l = some (a, b)) : fieldR l = ((a, trim b), right (a, trim b)) := by unfold fieldR; rw [h]
theorem fieldR_none {l : List UInt8} (h : cutC l = none) : fieldR l = (([], []), false) := by unfold fieldR; rw [h]
set_option maxHeartbeats 1000000 in
theorem refField_any (l : List UInt8) (w : World) (_hl : l.length ≤ 140737488355328) :
    Calls Tryd.prog 57 #[str l] w fun e w' => e = .returned (.tuple #[.agg #[str (fieldR l).1.1, str (fieldR l).1.2], .bool (fieldR l).2]) ∧ Gr w w' := by
  go_enter Tryd.func57, Tryd.ntmps57
  go_upto_region 1 with fail
  obtain ⟨hG0, c0, c1⟩ := box2 w (str []) (str []) 55
  have b0 := Lib.hid (Bk.new w 55 #[str [], str []] (0, 0))
  generalize hw0 : w.alloc (Obj.cells #[str [], str []] 55) = w0 at *
  clear hw0
  go_wp2_with fail
  go_loop [4] (fun i => ∃ k : Nat, k ≤ l.length ∧ i = .int .i64 k ∧ ∀ (j : Nat) (hj : j < l.length), j < k → (l[j].toNat : Int) ≠ 58) (fun i => l.length - (intOf i).toNat)
  case atStart => exact ⟨0, Nat.zero_le _, rfl, fun j _ hj => absurd hj (by omega)⟩
  case round =>
    obtain ⟨k, hk, rfl, hE⟩ := hrel
    have HE := Lib.hid hE; clear hE
    by_cases hlt : k < l.length
    · by_cases hc : (l[k].toNat : Int) = 58
      · have hb : ((l[k].toNat : Int) == 58) = true := by simp [hc]
        have hcut := Lib.hid (cutC_hit hlt (fun j hj => HE.out j (by omega) hj) hc)
        clear hc
        go_upto_region 5 with fail
        have ww : IntKind.i64.wrap ((k : Int) + 1) = (k : Int) + 1 := IntWalk.i64_in _ (by omega)
        have w0' : 0 ≤ (k : Int) + 1 := by omega
        have w1' : ((k : Int) + 1).toNat = k + 1 := by omega
        have w2' : (k : Int) + 1 ≤ (l.length : Int) := by omega
        refine wp_region_mix [0, 1, 2, 3, 4, 5, 6, 7, 8] none 2 (by kernel_rfl) rfl (by kernel_rfl) (fun o _ _ _ _ h => by cases o <;> exact h) ?_
        simp only [pickOps, List.filterMap_cons, List.filterMap_nil, List.getElem?_cons_zero, List.getElem?_cons_succ]
        repeat (first | (refine wpGq_step (fun K hK => ?_); go_simp; refine hK _ ?_; clear hK K) | (refine wpGq_step (fun K hK => ?_); go_simp; apply Exists.intro; refine ⟨fun _ => ?_, hK _ ?_⟩; (go_at_call 64; exact refTrim_any _ _ (by simp; omega)); clear hK K))
        refine wpGq_nil ?_
        refine wpG_one 9 (by kernel_rfl) rfl rfl (fun K hK wa hga => ?_)
        go_simp
        refine hK _ _ ?_ ?_
        · exact (Gr.al hga _).by _
        clear hK K
        refine wpG_one 10 (by kernel_rfl) rfl rfl (fun K hK wb hgb => ?_)
        have hbk := (Bk.new wa 55 #[str [], str []] (0, 0)).gr hgb
        have z0 := hbk.cell 0; have z1 := hbk.cell 1
        have f0 := hbk.free 0 (.inr (Nat.le_refl _)); have f1 := hbk.free 1 (.inr (by simp))
        simp only [List.getElem?_toArray, List.getElem?_cons_zero, List.getElem?_cons_succ] at z0 z1
        go_simp
        refine hK _ _ ?_ ?_
        · exact (Gr.st (Gr.st (Gr.tr (Gr.al hga _) hgb) hga.size _) hga.size _).by _
        clear hK K
        refine wpG_done (by kernel_rfl) (fun wc hgc => ?_)
        have hbk2 := ((hbk.set 0 (str (l.take k))).set 1 (str (trim (l.drop (k + 1))))).gr hgc
        have y0 : wc.cell? ⟨wa.heap.size, 0, none⟩ = some (str (l.take k)) := hbk2.cell 0
        have y1 : wc.cell? ⟨wa.heap.size, 1, none⟩ = some (str (trim (l.drop (k + 1)))) := hbk2.cell 1
        have hGc : Gr w0 wc := Gr.tr (Gr.st (Gr.st (Gr.tr (Gr.al hga _) hgb) hga.size _) hga.size _) hgc
        have hgne : w0.heap.size ≤ wa.heap.size := hga.size
        clear z0 z1 f0 f1 hbk hbk2 hga hgb hgc ww w0' w1' w2'
        generalize wa.heap.size = g at *
        clear wa wb
        go_wp2_with fail
        have hlw : w.heap.size < w0.heap.size := b0.out.lt
        have hgw : g ≠ w.heap.size := by omega
        have q0 := gx_cell (r := some w.heap.size) y0 (by simp [hgw])
        have q1 := gx_cell (r := some w.heap.size) y1 (by simp [hgw])
        have hlen1 : (l.take k).length ≤ 140737488355328 := by rw [List.length_take]; omega
        have hlen2 : (trim (l.drop (k + 1))).length ≤ 140737488355328 := by have := trim_le (l.drop (k + 1)); rw [List.length_drop] at this; omega
        refine wp_region_mix [0, 1, 2] (some w.heap.size) 2 (by kernel_rfl) rfl (by kernel_rfl) (fun o _ _ _ _ h => by cases o <;> exact h) ?_
        simp only [pickOps, List.filterMap_cons, List.filterMap_nil, List.getElem?_cons_zero, List.getElem?_cons_succ]
        repeat (first | (refine wpGq_step (fun K hK => ?_); go_simp; refine hK _ ?_; clear hK K) | (refine wpGq_step (fun K hK => ?_); go_simp; apply Exists.intro; refine ⟨fun _ => ?_, hK _ ?_⟩; (go_at_call 47; exact refRight_any _ _ _ (by omega) (by omega)); clear hK K))
        refine wpGq_nil ?_
        refine wpG_one 3 (by kernel_rfl) rfl rfl (fun K hK wa hga => ?_)
        have hbk := (b0.out.gr hGc).gr hga
        have z0 : wa.cell? ⟨w.heap.size, 0, none⟩ = some (str []) := hbk.cell 0
        have z1 : wa.cell? ⟨w.heap.size, 1, none⟩ = some (str []) := hbk.cell 1
        have f0 := hbk.free 0 (.inr (Nat.le_refl _)); have f1 := hbk.free 1 (.inr (by simp))
        go_simp
        refine hK _ _ ?_ ?_
        · exact by_st (by_st (hga.by _) _ _) _ _
        clear hK K
        refine wpG_one 4 (by kernel_rfl) rfl rfl (fun K hK wb hgb => ?_)
        go_simp
        refine hK _ _ ?_ ?_
        · exact by_tr (by_st (by_st (hga.by _) _ _) _ _) hgb
        clear hK K
        refine wpG_done (by kernel_rfl) (fun wd hgd' => ?_)
        have hgd := Gr.tr hgb hgd'
        clear hgb hgd'
        have hbk2 := ((hbk.set 0 (str (l.take k))).set 1 (str (trim (l.drop (k + 1))))).gr hgd
        have x0 : wd.cell? ⟨w.heap.size, 0, none⟩ = some (str (l.take k)) := hbk2.cell 0
        have x1 : wd.cell? ⟨w.heap.size, 1, none⟩ = some (str (trim (l.drop (k + 1)))) := hbk2.cell 1
        have hGd : Gr w wd := Gr.tr (Gr.st (Gr.st (Gr.tr (Gr.tr hG0 hGc) hga) (Nat.le_refl _) _) (Nat.le_refl _) _) hgd
        clear z0 z1 f0 f1 hbk hbk2 hga hgd
        go_wp2_with fail
        refine bodyPost_ret (v := .tuple #[.agg #[str (l.take k), str (trim (l.drop (k + 1)))], .bool (right (l.take k, trim (l.drop (k + 1))))]) (by simp [results, Tryd.results57, go_sem, x0, x1]) rfl ?_
        exact ⟨by rw [fieldR_hit hcut.out], hGd⟩
      · have hb : ((l[k].toNat : Int) == 58) = false := by simp [hc]
        go_wp2_with fail
        exact ⟨⟨k + 1, by omega, by go_num, fun j hj hjk => by
          by_cases e : j = k
          · subst e; exact hc
          · exact HE.out j hj (by omega)⟩, by simp [intOf]; omega⟩
    · have hcut := Lib.hid (fieldR_none (cutC_none (l := l) (fun j hj => HE.out j hj (by omega))))
      have f0 := b0.out.free 0 (.inr (Nat.le_refl _)); have f1 := b0.out.free 1 (.inr (by simp))
      go_wp2_with fail
      have hbk2 := (b0.out.set 0 (str [])).set 1 (str [])
      have x0 := hbk2.cell 0
      have x1 := hbk2.cell 1
      simp only [List.setIfInBounds_toArray, List.set_cons_zero, List.set_cons_succ, List.getElem?_toArray, List.getElem?_cons_zero, List.getElem?_cons_succ] at x0 x1
      refine bodyPost_ret (v := .tuple #[.agg #[str [], str []], .bool false]) (by simp [results, Tryd.results57, go_sem, x0, x1]) rfl ?_
      exact ⟨by rw [hcut.out], Gr.st (Gr.st hG0 (Nat.le_refl _) _) (Nat.le_refl _) _⟩
end Go.Proofs.YtidijgofoklejaaDoor
