/- The items of values as a list; the chapter's examples. -/
import Derived.Test.YtfpojgcnfclphaaDoorField9
namespace Go.Proofs.YtfpojgcnfclphaaDoor
open Go.RowKit
theorem own_bk_ne {W0 w : World} {e t : TypeId} {size n g : Nat} {v : Value} {xs : List Value} {cs : Array Value} {fr : Nat × Nat} (h : Own W0 w e size v n xs) (k : Bk w g t cs fr) (hne : e ≠ t) : v.ownBlock ≠ some g := by
  rcases h.2 with ⟨rfl, _⟩ | ⟨b, cap, cur, rfl, _, hh, _⟩
  · simp [Value.ownBlock]
  · intro hb
    have hb' : b = g := by simpa [Value.ownBlock] using hb
    subst hb'
    unfold Bk at k
    rw [hh] at k
    injection k with k
    injection k with _ k _
    exact hne k
theorem Own.set {W0 w : World} {e : TypeId} {size n g : Nat} {v : Value} {xs : List Value} (h : Own W0 w e size v n xs) (hne : v.ownBlock ≠ some g) (i : Nat) (u : Value) : Own W0 (w.setCell ⟨g, i, none⟩ u) e size v n xs := by
  refine ⟨h.1, ?_⟩
  rcases h.2 with hn | ⟨b, cap, cur, hv, hb, hh, r⟩
  · exact .inl hn
  · subst hv
    exact .inr ⟨b, cap, cur, rfl, hb, by rw [Below.heap_setCell _ _ _ _ (by rintro rfl; exact hne rfl)]; exact hh, r⟩
theorem by_app {W0 w w' : World} {e : TypeId} {size n : Nat} {v v' : Value} {xs : List Value} {r : Option Nat} (h : W0.grownBy w r) (ho : Own W0 w e size v n xs) (a : App v v' w w') : W0.grownBy w' r :=
  ⟨a.grown.os.trans h.os, a.grown.tape.trans h.tape, a.grown.output.trans h.output, Nat.le_trans h.size a.grown.size, fun k hk hr => (a.grown.block k (Nat.lt_of_lt_of_le hk h.size) (fun e => by
    have := (World.ownsRow.lt ho k e.symm).1; omega)).trans (h.block k hk hr)⟩
theorem Bk.app {w w' : World} {g t cs fr} {v v' : Value} (h : Bk w g t cs fr) (a : App v v' w w') (hne : v.ownBlock ≠ some g) : Bk w' g t cs fr := (a.grown.block g h.lt (Ne.symm hne)).trans h
/-- what the told items have made: the list that the cell of block g holds -/
def Told (w2 : World) (g : Nat) (ys : List (List UInt8)) (w : World) : Prop := w2.grownBy w (some g) ∧ ∃ v, Bk w g 22 #[v] (0, 0) ∧ Own w2 w 9 1 v ys.length (ys.map str)
theorem Told.gr {w2 : World} {g : Nat} {ys : List (List UInt8)} {w w' : World} (h : Told w2 g ys w) (k : Gr w w') : Told w2 g ys w' := by
  obtain ⟨h1, v, h2, h3⟩ := h
  exact ⟨by_tr h1 k, v, h2.gr k, h3.gr k⟩
theorem strNe : (9 : Nat) ≠ 22 := by decide
set_option maxHeartbeats 2000000 in
theorem yield_any (w2 : World) (g : Nat) (ys : List (List UInt8)) (x : List UInt8) (w : World) (_hg : g < w2.heap.size) (h : Told w2 g ys w) (_hy : ys.length ≤ 1000000) :
    Calls Tryd.prog 36 (#[str x] ++ #[.pointer (some ⟨g, 0, none⟩)]) w fun e w' => e = .returned (.bool (decide (ys.length + 1 < 100000))) ∧ Told w2 g (ys ++ [x]) w' := by
  obtain ⟨hw2, v, hbk, hown⟩ := h
  obtain ⟨A, c, rfl⟩ := hown.form
  have hne := own_bk_ne hown hbk strNe
  have hc : w.cell? ⟨g, 0, none⟩ = some (.slice A ys.length c) := hbk.cell 0
  have HB := Lib.hid hbk; have HO := Lib.hid hown; have HN := Lib.hid hne; have HW := Lib.hid hw2
  clear hbk hown hne hw2
  show Calls Tryd.prog 36 #[str x, .pointer (some ⟨g, 0, none⟩)] w _
  go_enter Tryd.func36, Tryd.ntmps36
  go_upto_region 2 with (at_builtin; refine wpList_app1x elemStr rfl _ _ rfl rfl rfl HW.out.size HO.out rfl (one_str _) (by omega) (by omega) ?_; intro v' w' hown' happ; obtain ⟨A', c', rfl⟩ := hown'.form; have hbk' := HB.out.app happ HN.out; have hcc : w'.cell? ⟨g, 0, none⟩ = some (.slice A ys.length c) := hbk'.cell 0; have hff : w'.frozen? ⟨g, 0, none⟩ = false := hbk'.free 0 (.inr (Nat.le_refl _)); have HBK := Lib.hid hbk'; clear hbk')
  have hbk2 := HBK.out.set 0 (.slice A' (ys.length + 1) c')
  have hcn : (w'.setCell ⟨g, 0, none⟩ (.slice A' (ys.length + 1) c')).cell? ⟨g, 0, none⟩ = some (.slice A' (ys.length + 1) c') := hbk2.cell 0
  have HE : Hid (Told w2 g (ys ++ [x]) (w'.setCell ⟨g, 0, none⟩ (.slice A' (ys.length + 1) c'))) :=
    ⟨by_st (by_app HW.out HO.out happ) 0 _, _, hbk2, by
      have := Own.set hown' (own_bk_ne hown' HBK.out strNe) 0 (.slice A' (ys.length + 1) c')
      simpa using this⟩
  clear hcc hff hbk2 hown' happ
  go_wp2_with fail
  go_ret
  exact ⟨ret_bool (by rw [decide_eq_decide]; omega), HE.out⟩
theorem cf_yield (args : Array Value) (w : World) : (callFunc 36 args).run Tryd.prog w = .ok (.enter 36 args) w := by kernel_rfl
set_option maxHeartbeats 2000000 in
theorem lawItems_any (u : Value) (vs : List (List UInt8)) (w : World) (hu : Strs w u vs) (hs : ∀ x ∈ vs, x.length ≤ 1000000) (_hv : vs.length ≤ 1000000) (hn : (itemsAll vs).length < 100000) :
    Calls Tryd.prog 15 #[u] w fun e w' => ∃ v, e = .returned v ∧ Strs w' v (itemsAll vs) ∧ Gr w w' := by
  have HU := Lib.hid hu; have HS := Lib.hid hs; have HN := Lib.hid hn
  clear hu hs hn
  go_enter Tryd.func15, Tryd.ntmps15
  go_upto_region 2 with fail
  have hb0 := Lib.hid (Bk.new w 22 #[.slice none 0 0] (0, 0))
  have hG0 : Gr w (w.alloc (Obj.cells #[.slice none 0 0] 22)) := Gr.al (Gr.refl w) _
  have HU0 := Lib.hid (HU.out.gr hG0)
  generalize hw0 : w.alloc (Obj.cells #[.slice none 0 0] 22) = w0 at *
  clear hw0
  go_wp2_with (go_at_call 16; refine (items_any _ _ _ HU0.out (by omega)).mono ?_; rintro e w2 ⟨ga, av, rfl, hca, hav, hG2, hga, hva⟩)
  have hlt : w.heap.size < w0.heap.size := hb0.out.lt
  have hlt2 : w.heap.size < w2.heap.size := Nat.lt_of_lt_of_le hlt hG2.size
  have h0 : Told w2 w.heap.size [] w2 := ⟨(Gr.refl w2).by _, _, hb0.out.gr hG2, Own.nil _ _ _ _⟩
  have hall : ∀ ys w', Told w2 w.heap.size ys w' → w'.cell? ⟨ga, 0, none⟩ = some av ∧ Strs w' av vs := fun ys w' h => by
    refine ⟨by_cell h.1 hca (by simp only [ne_eq, Option.some.injEq]; omega), Sl.kept hav h.1 ?_⟩
    rcases hva with hva | ⟨b, hb, hb2⟩
    · exact .inl hva
    · right; rw [hb]; simp only [ne_eq, Option.some.injEq]; omega
  refine (tellItems_any (Told w2 w.heap.size) (fun ys _ => decide (ys.length + 1 < 100000)) 36 cf_yield #[.pointer (some ⟨w.heap.size, 0, none⟩)] ⟨ga, 0, none⟩ av vs (fun _ _ _ h k => h.gr k) hall
    (fun ys x w' h hl => yield_any w2 w.heap.size ys x w' hlt2 h (by have := HN.out; omega)) HS.out (by omega) w2 h0).mono ?_
  rintro e w3 ⟨rfl, hT⟩
  rw [tell_all [] (itemsAll vs) 100000 (by simpa using HN.out), List.nil_append] at hT
  obtain ⟨h1, v, h2, h3⟩ := hT
  have hcv : w3.cell? ⟨w.heap.size, 0, none⟩ = some v := h2.cell 0
  have HE := Lib.hid (own_str h3 rfl rfl)
  have HG : Hid (Gr w w3) := ⟨h1.os.trans (Gr.tr hG0 hG2).os, h1.tape.trans (Gr.tr hG0 hG2).tape, h1.output.trans (Gr.tr hG0 hG2).output, Nat.le_trans (Gr.tr hG0 hG2).size h1.size, fun k hk => (h1.block k (by omega) (by simp only [ne_eq, Option.some.injEq]; omega)).trans ((Gr.tr hG0 hG2).block k hk)⟩
  clear h1 h2 h3 hall h0 hva hav hca
  go_wp2_with fail
  go_ret
  exact ⟨v, rfl, HE.out, HG.out⟩
theorem ex1 : parse [97, 58, 32, 49, 44, 32, 34, 98, 44, 92, 34, 99, 34, 32, 44, 44, 32, 100, 13, 10, 13, 10, 120] = ([([97], [49, 44, 32, 34, 98, 44, 92, 34, 99, 34, 32, 44, 44, 32, 100])], 22, 0) := by decide +kernel
theorem ex2 : parse [97, 32, 58, 32, 49, 13, 10, 13, 10] = ([], 0, 2) := by decide +kernel
theorem ex3 : itemsAll [[49, 44, 32, 34, 98, 44, 92, 34, 99, 34, 32, 44, 44, 32, 100]] = [[49], [34, 98, 44, 92, 34, 99, 34], [100]] := by decide +kernel
theorem ml_of {W : World} (h : W.ShapedOpen Tryd.prog) : Ml W := Tryd.laysM143.s1_3 W h
theorem strs_new (w : World) (xs : List (List UInt8)) (t : TypeId) (h : xs.length ≤ 1000) : Strs (w.alloc (.cells (xs.map str).toArray t)) (.slice (some ⟨w.heap.size, 0, none⟩) xs.length xs.length) xs := by
  refine ⟨_, _, rfl, Nat.le_refl _, by omega, .inr ⟨w.heap.size, 0, rfl, (Bk.new w t (xs.map str).toArray (0, 0)).lt, fun j u hu => ?_⟩⟩
  rw [Nat.zero_add, (Bk.new w t (xs.map str).toArray (0, 0)).cell j]; simpa using hu
set_option maxHeartbeats 2000000 in
theorem alive_any (w : World) (hm : Ml w) : Calls Tryd.prog 11 #[] w fun e w' => e = .returned (.bool true) ∧ Gr w w' := by
  have HM := Lib.hid hm; clear hm
  have HP1 := Lib.hid (fun (w : World) (hm : Ml w) => parse_any [97, 58, 32, 49, 44, 32, 34, 98, 44, 92, 34, 99, 34, 32, 44, 44, 32, 100, 13, 10, 13, 10, 120] w hm (by decide))
  have HP2 := Lib.hid (fun (w : World) (hm : Ml w) => parse_any [97, 32, 58, 32, 49, 13, 10, 13, 10] w hm (by decide))
  rw [ex1] at HP1
  rw [ex2] at HP2
  go_enter Tryd.func11, Tryd.ntmps11
  go_wp2_with fail
  refine (HP1.out _ HM.out).mono ?_
  rintro e w1 ⟨v1, rfl, hv1, hG1⟩
  obtain ⟨A, c, rfl, hc, hx, hA⟩ := hv1.open
  obtain ⟨b, o, rfl, hb, hc0, hc1⟩ := hA 0 (by simp)
  clear hA hv1
  go_wp2_with fail
  refine (HP2.out _ (HM.out.gr hG1)).mono ?_
  rintro e w2 ⟨v2, rfl, hv2, hG2⟩
  have hc1' := Gr.cell hG2 hc1
  clear hv2 HP1 HP2 hc0 hc1
  simp only [List.getElem_cons_zero, Nat.zero_mul, Nat.add_zero] at hc1'
  go_wp2_with fail
  have hL := lawItems_any _ _ _ (strs_new w2 [[49, 44, 32, 34, 98, 44, 92, 34, 99, 34, 32, 44, 44, 32, 100]] 9 (by decide)) (by decide) (by decide) (by rw [ex3]; decide)
  rw [ex3] at hL
  refine hL.mono ?_
  rintro e w3 ⟨v3, rfl, hv3, hG3⟩
  clear hL
  have hN3 := Lib.hid (strs_new w3 [[49], [34, 98, 44, 92, 34, 99, 34], [100]] 9 (by decide))
  have hv3' := Lib.hid (hv3.gr (Gr.al (Gr.refl w3) (.cells ([[49], [34, 98, 44, 92, 34, 99, 34], [100]].map str).toArray 9)))
  go_wp2_with (go_at_call 14; refine (texts_any _ _ _ _ _ hv3'.out hN3.out).mono ?_; rintro e w4 ⟨rfl, hG4⟩)
  go_ret
  exact ⟨rfl, Gr.tr hG1 (Gr.tr hG2 (Gr.tr (Gr.al (Gr.refl _) _) (Gr.tr hG3 (Gr.tr (Gr.al (Gr.refl _) _) hG4))))⟩
end Go.Proofs.YtfpojgcnfclphaaDoor
