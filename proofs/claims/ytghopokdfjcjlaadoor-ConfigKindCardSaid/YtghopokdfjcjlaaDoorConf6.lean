/- Layer 39: config.Parse: a contract. -/
import Derived.Test.YtghopokdfjcjlaaDoorConf5
import Derived.Test.YtghopokdfjcjlaaDoorOrders
import Derived.Test.YtghopokdfjcjlaaDoorField5
namespace Go.Proofs.YtghopokdfjcjlaaDoor
open Go.RowKit
theorem elemTen : ElemOk Tryd.prog 63 49 (.agg #[.int .i64 0, .int .i64 0, .int .i64 0, .int .i64 0, .int .i64 0, .int .i64 0, .int .i64 0, .int .i64 0, .int .i64 0, .int .i64 0]) 10 80 := ⟨Tryd.underlying63, by kernel_rfl, rfl, by omega⟩
theorem elemInt : ElemOk Tryd.prog 64 3 (.int .i64 0) 1 8 := ⟨Tryd.underlying64, by kernel_rfl, rfl, by omega⟩
theorem own_snoc {W1 B : World} {v : Value} {all : List (List Int)} (h : Own W1 B 49 10 v (all.length + 1) (flatI all ++ [.int .i64 65536, .int .i64 131072, .int .i64 8388608, .int .i64 16, .int .i64 2, .int .i64 2, .int .i64 262144, .int .i64 1073741824, .int .i64 536870912, .int .i64 32768])) : Own W1 B 49 10 v (all ++ [Cfg.dflt.nums]).length (flatI (all ++ [Cfg.dflt.nums])) := by
  have e : flatI (all ++ [Cfg.dflt.nums]) = flatI all ++ [.int .i64 65536, .int .i64 131072, .int .i64 8388608, .int .i64 16, .int .i64 2, .int .i64 2, .int .i64 262144, .int .i64 1073741824, .int .i64 536870912, .int .i64 32768] := by unfold flatI; rw [List.flatMap_append]; rfl
  rw [e, List.length_append]; exact h
theorem c_numbers_dflt (w : World) : Calls Tryd.prog 28 #[cfgV Cfg.dflt] w fun e w' => e = .returned (.agg #[.int .i64 65536, .int .i64 131072, .int .i64 8388608, .int .i64 16, .int .i64 2, .int .i64 2, .int .i64 262144, .int .i64 1073741824, .int .i64 536870912, .int .i64 32768]) ∧ Gr w w' := c_numbers_any Cfg.dflt w
theorem one_ten : ∀ u ∈ [Value.int .i64 65536, .int .i64 131072, .int .i64 8388608, .int .i64 16, .int .i64 2, .int .i64 2, .int .i64 262144, .int .i64 1073741824, .int .i64 536870912, .int .i64 32768], u.oneCell' = true := by decide
theorem beg_snoc {W1 B : World} {v : Value} {l : List Nat} {n : Nat} (h : Own W1 B 3 1 v (l.length + 1) (natsV l ++ [.int .i64 ((n : Int) + 1)])) : Own W1 B 3 1 v (l ++ [n + 1]).length (natsV (l ++ [n + 1])) := by
  have e : natsV (l ++ [n + 1]) = natsV l ++ [.int .i64 ((n : Int) + 1)] := by unfold natsV; rw [List.map_append]; rfl
  rw [e, List.length_append]; exact h
theorem one_int (x : Int) : ∀ u ∈ [Value.int .i64 x], u.oneCell' = true := by
  intro u hu; simp only [List.mem_singleton] at hu; subst hu; rfl
theorem ten_form {α : Type} {l : List α} (h : l.length = 10) : ∃ b0 b1 b2 b3 b4 b5 b6 b7 b8 b9, l = [b0, b1, b2, b3, b4, b5, b6, b7, b8, b9] := by
  match l, h with
  | [b0, b1, b2, b3, b4, b5, b6, b7, b8, b9], _ => exact ⟨b0, b1, b2, b3, b4, b5, b6, b7, b8, b9, rfl⟩
/-- ten cells are written false -/
def clearW (A : World) (g : Nat) : World := (((((((((A.setCell ⟨g, 0, none⟩ (.bool false)).setCell ⟨g, 1, none⟩ (.bool false)).setCell ⟨g, 2, none⟩ (.bool false)).setCell ⟨g, 3, none⟩ (.bool false)).setCell ⟨g, 4, none⟩ (.bool false)).setCell ⟨g, 5, none⟩ (.bool false)).setCell ⟨g, 6, none⟩ (.bool false)).setCell ⟨g, 7, none⟩ (.bool false)).setCell ⟨g, 8, none⟩ (.bool false)).setCell ⟨g, 9, none⟩ (.bool false)
theorem clear_by (A : World) (g : Nat) : A.grownBy (clearW A g) (some g) := by
  unfold clearW
  exact by_st (by_st (by_st (by_st (by_st (by_st (by_st (by_st (by_st (by_st ((Gr.refl A).by (some g)) _ _) _ _) _ _) _ _) _ _) _ _) _ _) _ _) _ _) _ _
theorem clear_bk {A : World} {g : Nat} {t : TypeId} {said : List Bool} (h : Bk A g t (said.map Value.bool).toArray (0, 0)) (hl : said.length = 10) : Bk (clearW A g) g t ((List.replicate 10 false).map Value.bool).toArray (0, 0) := by
  obtain ⟨b0, b1, b2, b3, b4, b5, b6, b7, b8, b9, rfl⟩ := ten_form hl
  unfold clearW
  have := ((((((((((h.set 0 (.bool false)).set 1 (.bool false)).set 2 (.bool false)).set 3 (.bool false)).set 4 (.bool false)).set 5 (.bool false)).set 6 (.bool false)).set 7 (.bool false)).set 8 (.bool false)).set 9 (.bool false))
  simp only [List.map_cons, List.map_nil, List.setIfInBounds_toArray, List.set_cons_zero, List.set_cons_succ] at this
  exact this
theorem PI.setSaid {g b : Nat} {W1 : World} {st : PSt} {A B : World} (h : PI g b W1 st A) (k : A.grownBy B (some (g + 5))) (hb : g + 6 < b) (hW : b + 2 < W1.heap.size - 1) {said' : List Bool} (hs : Bk B (g + 5) 65 (said'.map Value.bool).toArray (0, 0)) : PI g b W1 { st with said := said' } B := by
  obtain ⟨va, h1, h2⟩ := h.all
  obtain ⟨vb, h3, h4⟩ := h.begins
  exact ⟨h.kr.by k (fun j e => by cases e; exact .inl (by simp)), ⟨va, bk_by h1 k (by simp), own_kr h2 k (.inr (own_ne h2 (by omega)))⟩, ⟨vb, bk_by h3 k (by simp), own_kr h4 k (.inr (own_ne h4 (by omega)))⟩, hs, bk_by h.no k (by simp)⟩
theorem flat_len : ∀ (a : List (List Int)), (∀ l ∈ a, l.length = 10) → (flatI a).length = a.length * 10
  | [], _ => rfl
  | x :: a, h => by
    have := flat_len a (fun l hl => h l (List.mem_cons_of_mem _ hl))
    have hx := h x (List.mem_cons_self ..)
    simp only [flatI, List.flatMap_cons, List.length_append, List.length_map, List.length_cons] at *
    omega
theorem flat_set {all : List (List Int)} {m i : Nat} (n : Int) (hl : all.length = m + 1) (ht : ∀ l ∈ all, l.length = 10) : flatI (setLast all i n) = (flatI all).set (m * 10 + i) (.int .i64 n) ∧ (setLast all i n).length = m + 1 ∧ ∀ l ∈ setLast all i n, l.length = 10 := by
  obtain ⟨a, x, rfl⟩ : ∃ a x, all = a ++ [x] := by
    rcases nil_or_snoc all with h | ⟨a, x, h⟩
    · rw [h] at hl; cases hl
    · exact ⟨a, x, h⟩
  rw [setLast_snoc]
  have hm : a.length = m := by simpa using hl
  have hla := flat_len a (fun l hl => ht l (List.mem_append_left _ hl))
  refine ⟨?_, by simp [hm], ?_⟩
  · have e : ∀ y : List Int, flatI (a ++ [y]) = flatI a ++ y.map (Value.int .i64) := fun y => by unfold flatI; rw [List.flatMap_append]; simp
    rw [e, e, List.set_append_right _ _ (by omega), List.map_set]
    congr 2; omega
  · intro l hl'
    rcases List.mem_append.1 hl' with h | h
    · exact ht l (List.mem_append_left _ h)
    · simp only [List.mem_singleton] at h; subst h; rw [List.length_set]; exact ht x (by simp)
theorem said_set {A : World} {g i : Nat} {t : TypeId} {said : List Bool} (h : Bk A g t (said.map Value.bool).toArray (0, 0)) : Bk (A.setCell ⟨g, i, none⟩ (.bool true)) g t ((said.set i true).map Value.bool).toArray (0, 0) := by
  have := h.set i (.bool true)
  rw [List.setIfInBounds_toArray, ← List.map_set] at this
  exact this
theorem said_cell {A : World} {g i : Nat} {t : TypeId} {said : List Bool} (h : Bk A g t (said.map Value.bool).toArray (0, 0)) (hi : i < said.length) : A.cell? ⟨g, i, none⟩ = some (.bool (said.getD i false)) := by
  rw [h.cell i]; simp [hi]
theorem own_at {W0 w : World} {e : TypeId} {size m c : Nat} {A : Option Addr} {xs : List Value} (h : Own W0 w e size (.slice A (m + 1) c) (m + 1) xs) : ∃ ba, A = some ⟨ba, 0, none⟩ ∧ m + 1 ≤ c := by
  rcases h.2 with ⟨hv, hn⟩ | ⟨b, cap, cur, hv, _, _, hc, _⟩
  · cases hn
  · cases hv; exact ⟨b, rfl, hc⟩
theorem own_cell {W0 w : World} {e : TypeId} {size n ba c j : Nat} {xs : List Value} (h : Own W0 w e size (.slice (some ⟨ba, 0, none⟩) n c) n xs) (hj : j < xs.length) : ∃ u, w.cell? ⟨ba, j, none⟩ = some u ∧ w.frozen? ⟨ba, j, none⟩ = false := by
  rcases h.2 with ⟨hv, hn⟩ | ⟨b, cap, cur, hv, _, hh, hc, _, hz, ht⟩
  · cases hv
  · cases hv
    have hb : Bk w ba e cur (0, 0) := hh
    have hlt : j < cur.toList.length := by
      rw [← ht, List.length_take] at hj; omega
    refine ⟨cur[j]'(by simpa using hlt), ?_, hb.free j (.inr (Nat.zero_le _))⟩
    rw [hb.cell j]; simp
theorem PI.putAll {g b : Nat} {W1 : World} {st : PSt} {A : World} {ba ca j : Nat} {u : Value} {all' : List (List Int)} (h : PI g b W1 st A) (hb : g + 6 < b) (hW : b + 2 < W1.heap.size - 1)
    (hown : Own W1 A 49 10 (.slice (some ⟨ba, 0, none⟩) st.all.length ca) st.all.length (flatI st.all)) (hb3 : Bk A (g + 3) 63 #[.slice (some ⟨ba, 0, none⟩) st.all.length ca] (0, 0))
    (he : flatI all' = (flatI st.all).set j u) (hl : all'.length = st.all.length) : PI g b W1 { st with all := all' } (A.setCell ⟨ba, j, none⟩ u) := by
  have hba : W1.heap.size ≤ ba := (World.ownsRow.lt hown ba rfl).1
  obtain ⟨vb, h3, h4⟩ := h.begins
  have k := by_st ((Gr.refl A).by (some ba)) j u
  have hne : ∀ j, j ≤ 6 → (some ba : Option Nat) ≠ some (g + j) := fun j hj e => by cases e; omega
  refine ⟨h.kr.by k (fun x e => by cases e; exact .inr hba), ⟨_, bk_by hb3 k (hne 3 (by omega)), ?_⟩, ⟨vb, bk_by h3 k (hne 4 (by omega)), own_kr h4 k (own_own h4 hown (Ne.symm ne_ten_int))⟩, bk_by h.said k (hne 5 (by omega)), bk_by h.no k (hne 6 (by omega))⟩
  show Own W1 _ _ 10 _ all'.length (flatI all')
  rw [he, hl]
  exact own_put hown j u
theorem c_of_lit (x0 x1 x2 x3 x4 x5 x6 x7 x8 x9 : Int) (w : World) : Calls Tryd.prog 38 #[.agg #[.int .i64 x0, .int .i64 x1, .int .i64 x2, .int .i64 x3, .int .i64 x4, .int .i64 x5, .int .i64 x6, .int .i64 x7, .int .i64 x8, .int .i64 x9]] w fun e w' => e = .returned (.agg #[.int .i64 x0, .int .i64 x1, .int .i64 x2, .int .i64 x3, .int .i64 x4, .int .i64 x5, .int .i64 x6, .int .i64 x7, .int .i64 x8, .int .i64 x9]) ∧ Gr w w' := c_of_any ⟨x0, x1, x2, x3, x4, x5, x6, x7, x8, x9⟩ w
theorem c_right_lit (x0 x1 x2 x3 x4 x5 x6 x7 x8 x9 : Int) (w : World) : Calls Tryd.prog 9 #[.agg #[.int .i64 x0, .int .i64 x1, .int .i64 x2, .int .i64 x3, .int .i64 x4, .int .i64 x5, .int .i64 x6, .int .i64 x7, .int .i64 x8, .int .i64 x9]] w fun e w' => e = .returned (.bool (Cfg.right ⟨x0, x1, x2, x3, x4, x5, x6, x7, x8, x9⟩)) ∧ Gr w w' := c_right_any ⟨x0, x1, x2, x3, x4, x5, x6, x7, x8, x9⟩ w
theorem elemCfg : ElemOk Tryd.prog 32 23 (.agg #[.int .i64 0, .int .i64 0, .int .i64 0, .int .i64 0, .int .i64 0, .int .i64 0, .int .i64 0, .int .i64 0, .int .i64 0, .int .i64 0]) 10 80 := ⟨Tryd.underlying32, by kernel_rfl, rfl, by omega⟩
theorem one_ten_any (x0 x1 x2 x3 x4 x5 x6 x7 x8 x9 : Int) : ∀ u ∈ [Value.int .i64 x0, .int .i64 x1, .int .i64 x2, .int .i64 x3, .int .i64 x4, .int .i64 x5, .int .i64 x6, .int .i64 x7, .int .i64 x8, .int .i64 x9], u.oneCell' = true := by
  intro u hu
  simp only [List.mem_cons, List.not_mem_nil, or_false] at hu
  rcases hu with rfl | rfl | rfl | rfl | rfl | rfl | rfl | rfl | rfl | rfl <;> rfl
theorem wrong_at : ∀ {all : List (List Int)} {beg : List Nat} {k : Nat}, k < all.length → (∀ j, j < k → (ofNums (all.getD j [])).right = true) → (ofNums (all.getD k [])).right = false → wrongAt all beg = some (beg.getD k 0)
  | [], _, _, hk, _, _ => by simp at hk
  | n :: r, beg, 0, _, _, hn => by
    have : (ofNums n).right = false := hn
    unfold wrongAt; rw [this]; cases beg <;> rfl
  | n :: r, beg, k + 1, hk, h, hn => by
    have h0 : (ofNums n).right = true := h 0 (by omega)
    unfold wrongAt; rw [h0, if_pos rfl, wrong_at (k := k) (by simpa using hk) (fun j hj => h (j + 1) (by omega)) hn]
    cases beg <;> simp
theorem wrong_all : ∀ {all : List (List Int)} {beg : List Nat}, (∀ j, j < all.length → (ofNums (all.getD j [])).right = true) → wrongAt all beg = none
  | [], _, _ => rfl
  | n :: r, beg, h => by
    have h0 : (ofNums n).right = true := h 0 (by simp)
    unfold wrongAt; rw [h0, if_pos rfl, wrong_all (fun j hj => h (j + 1) (by simpa using hj))]
theorem own_get {W0 w : World} {e : TypeId} {size n ba c j : Nat} {u : Value} {xs : List Value} (h : Own W0 w e size (.slice (some ⟨ba, 0, none⟩) n c) n xs) (hj : xs[j]? = some u) : w.cell? ⟨ba, j, none⟩ = some u := by
  rcases h.2 with ⟨hv, hn⟩ | ⟨b, cap, cur, hv, _, hh, hc, _, hz, ht⟩
  · cases hv
  · cases hv
    have hb : Bk w ba e cur (0, 0) := hh
    rw [← ht, List.getElem?_take] at hj
    split at hj
    · rw [hb.cell j, ← Array.getElem?_toList]; exact hj
    · cases hj
theorem flat_at : ∀ {all : List (List Int)} {k j : Nat} {x : Int}, (∀ l ∈ all, l.length = 10) → j < 10 → (all.getD k [])[j]? = some x → (flatI all)[k * 10 + j]? = some (.int .i64 x)
  | [], k, j, x, _, _, h => by simp at h
  | l :: r, 0, j, x, ht, hj, h => by
    have hl := ht l (List.mem_cons_self ..)
    simp only [List.getD_cons_zero] at h
    simp only [flatI, List.flatMap_cons, Nat.zero_mul, Nat.zero_add]
    rw [List.getElem?_append_left (by rw [List.length_map]; omega), List.getElem?_map, h]; rfl
  | l :: r, k + 1, j, x, ht, hj, h => by
    have hl := ht l (List.mem_cons_self ..)
    have := flat_at (all := r) (k := k) (j := j) (x := x) (fun l hl => ht l (List.mem_cons_of_mem _ hl)) hj (by simpa using h)
    simp only [flatI, List.flatMap_cons]
    rw [List.getElem?_append_right (by rw [List.length_map]; omega), List.length_map, hl, show (k + 1) * 10 + j - 10 = k * 10 + j from by omega]
    exact this
theorem cfgs_snoc {W B : World} {v : Value} {all : List (List Int)} {k : Nat} {x0 x1 x2 x3 x4 x5 x6 x7 x8 x9 : Int} (hk : k < all.length) (hx : all.getD k [] = [x0, x1, x2, x3, x4, x5, x6, x7, x8, x9]) (h : Own W B 23 10 v (k + 1) (flatC ((all.take k).map ofNums) ++ [.int .i64 x0, .int .i64 x1, .int .i64 x2, .int .i64 x3, .int .i64 x4, .int .i64 x5, .int .i64 x6, .int .i64 x7, .int .i64 x8, .int .i64 x9])) : Own W B 23 10 v (k + 1) (flatC ((all.take (k + 1)).map ofNums)) := by
  have e : all[k] = [x0, x1, x2, x3, x4, x5, x6, x7, x8, x9] := by rw [← hx]; simp [hk]
  rw [List.take_succ_eq_append_getElem hk, List.map_append]
  have : flatC ((all.take k).map ofNums ++ [all[k]].map ofNums) = flatC ((all.take k).map ofNums) ++ [.int .i64 x0, .int .i64 x1, .int .i64 x2, .int .i64 x3, .int .i64 x4, .int .i64 x5, .int .i64 x6, .int .i64 x7, .int .i64 x8, .int .i64 x9] := by
    unfold flatC; rw [List.flatMap_append, e]; rfl
  rw [this]; exact h
theorem put_cell {A : World} {D g i : Nat} {o : Obj} (h : g ≠ D) : (A.putObj D o).cell? ⟨g, i, none⟩ = A.cell? ⟨g, i, none⟩ := World.cell?_of_block (World.putObj_heap_other h)
theorem gr_put {w A : World} {D : Nat} (h : Gr w A) (hD : w.heap.size ≤ D) (o : Obj) : Gr w (A.putObj D o) :=
  have k := grownBy_putObj' A D o
  ⟨k.os.trans h.os, k.tape.trans h.tape, k.output.trans h.output, Nat.le_trans h.size k.size, fun j hj => (k.block j (Nat.lt_of_lt_of_le hj h.size) (by intro e; cases e; omega)).trans (h.block j hj)⟩
theorem sl_nil (w : World) : Sl w (.slice none 0 0) 0 [] := ⟨none, 0, rfl, Nat.le_refl _, by omega, .inl rfl⟩
theorem Bk.dr {w : World} {g t cs fr} (h : Bk w g t cs fr) : Bk w.drew g t cs fr := h
theorem stop_bks {g : Nat} {A : World} (r : R0 g A) {v : Value} (k e : Int) : Bk (((A.setCell ⟨g, 0, none⟩ v).setCell ⟨g + 1, 0, none⟩ (.int .i64 k)).setCell ⟨g + 2, 0, none⟩ (.int .i64 e)) g 32 #[v] (0, 0) ∧ Bk (((A.setCell ⟨g, 0, none⟩ v).setCell ⟨g + 1, 0, none⟩ (.int .i64 k)).setCell ⟨g + 2, 0, none⟩ (.int .i64 e)) (g + 1) 3 #[.int .i64 k] (0, 0) ∧ Bk (((A.setCell ⟨g, 0, none⟩ v).setCell ⟨g + 1, 0, none⟩ (.int .i64 k)).setCell ⟨g + 2, 0, none⟩ (.int .i64 e)) (g + 2) 28 #[.int .i64 e] (0, 0) :=
  ⟨((r.r0.set 0 _).far (p := ⟨g + 1, 0, none⟩) (by simp) _).far (p := ⟨g + 2, 0, none⟩) (by simp) _, ((r.r1.far (p := ⟨g, 0, none⟩) (by simp) _).set 0 _).far (p := ⟨g + 2, 0, none⟩) (by simp) _, ((r.r2.far (p := ⟨g, 0, none⟩) (by simp) _).far (p := ⟨g + 1, 0, none⟩) (by simp) _).set 0 _⟩
theorem heap_three {A : World} {g D : Nat} {v1 v2 v3 : Value} (h : g + 2 < D) : (((A.setCell ⟨g, 0, none⟩ v1).setCell ⟨g + 1, 0, none⟩ v2).setCell ⟨g + 2, 0, none⟩ v3).heap[D]? = A.heap[D]? := by
  rw [Below.heap_setCell _ ⟨g + 2, 0, none⟩ _ _ (by show D ≠ g + 2; omega), Below.heap_setCell _ ⟨g + 1, 0, none⟩ _ _ (by show D ≠ g + 1; omega), Below.heap_setCell _ ⟨g, 0, none⟩ _ _ (by show D ≠ g; omega)]
theorem nats_at {l : List Nat} {k : Nat} (h : k < l.length) : (natsV l)[k]? = some (.int .i64 ((l.getD k 0 : Nat) : Int)) := by simp [natsV, h]
theorem parse_ok {s : List UInt8} {st : PSt} (hr : runC PSt.start (splitN s) = .inl st) (h : ∀ j, j < st.all.length → (ofNums (st.all.getD j [])).right = true) : parseC s = (st.all.map ofNums, 0, 0) := by
  unfold parseC; rw [hr]; simp only; rw [wrong_all h]
theorem parse_wrong {s : List UInt8} {st : PSt} {k : Nat} (hr : runC PSt.start (splitN s) = .inl st) (hk : k < st.all.length) (h : ∀ j, j < k → (ofNums (st.all.getD j [])).right = true) (hn : (ofNums (st.all.getD k [])).right = false) : parseC s = ([], st.begins.getD k 0, 1) := by
  unfold parseC; rw [hr]; simp only; rw [wrong_at hk h hn]
/-- the variables at the start -/
structure P0 (w : World) (w1 : World) : Prop where
  gr : Gr w w1
  size : w.heap.size + 7 ≤ w1.heap.size
  r0 : Bk w1 w.heap.size 32 #[.slice none 0 0] (0, 0)
  r1 : Bk w1 (w.heap.size + 1) 3 #[.int .i64 0] (0, 0)
  r2 : Bk w1 (w.heap.size + 2) 28 #[.int .i64 0] (0, 0)
  all : Bk w1 (w.heap.size + 3) 63 #[.slice none 0 0] (0, 0)
  begins : Bk w1 (w.heap.size + 4) 64 #[.slice none 0 0] (0, 0)
  said : Bk w1 (w.heap.size + 5) 65 ((List.replicate 10 false).map Value.bool).toArray (0, 0)
  no : Bk w1 (w.heap.size + 6) 3 #[.int .i64 0] (0, 0)
theorem p0_of (w w1 : World) (h : Gr (((((((w.alloc (Obj.cells #[Value.slice none 0 0] 32)).alloc (Obj.cells #[Value.int IntKind.i64 0] 3)).alloc (Obj.cells #[Value.int IntKind.i64 0] 28)).alloc (Obj.cells #[Value.slice none 0 0] 63)).alloc (Obj.cells #[Value.slice none 0 0] 64)).alloc
    (Obj.cells #[Value.bool false, Value.bool false, Value.bool false, Value.bool false, Value.bool false, Value.bool false, Value.bool false, Value.bool false, Value.bool false, Value.bool false] 65)).alloc (Obj.cells #[Value.int IntKind.i64 0] 3)) w1) : P0 w w1 := by
  have hsz := h.size
  simp only [World.size_alloc] at hsz
  refine ⟨Gr.tr (Gr.al (Gr.al (Gr.al (Gr.al (Gr.al (Gr.al (Gr.al (Gr.refl w) _) _) _) _) _) _) _) h, by omega, ?_, ?_, ?_, ?_, ?_, ?_, ?_⟩
  · exact ((((((((Bk.new _ _ _ _).al _).al _).al _).al _).al _).al _)).gr h
  · have := ((((((Bk.new (w.alloc (Obj.cells #[Value.slice none 0 0] 32)) 3 #[Value.int IntKind.i64 0] (0, 0)).al _).al _).al _).al _).al _).gr h
    simpa only [World.size_alloc] using this
  · have := (((((Bk.new ((w.alloc (Obj.cells #[Value.slice none 0 0] 32)).alloc (Obj.cells #[Value.int IntKind.i64 0] 3)) 28 #[Value.int IntKind.i64 0] (0, 0)).al _).al _).al _).al _).gr h
    simpa only [World.size_alloc] using this
  · have := ((((Bk.new (((w.alloc (Obj.cells #[Value.slice none 0 0] 32)).alloc (Obj.cells #[Value.int IntKind.i64 0] 3)).alloc (Obj.cells #[Value.int IntKind.i64 0] 28)) 63 #[Value.slice none 0 0] (0, 0)).al _).al _).al _).gr h
    simpa only [World.size_alloc] using this
  · have := (((Bk.new ((((w.alloc (Obj.cells #[Value.slice none 0 0] 32)).alloc (Obj.cells #[Value.int IntKind.i64 0] 3)).alloc (Obj.cells #[Value.int IntKind.i64 0] 28)).alloc (Obj.cells #[Value.slice none 0 0] 63)) 64 #[Value.slice none 0 0] (0, 0)).al _).al _).gr h
    simpa only [World.size_alloc] using this
  · have := ((Bk.new (((((w.alloc (Obj.cells #[Value.slice none 0 0] 32)).alloc (Obj.cells #[Value.int IntKind.i64 0] 3)).alloc (Obj.cells #[Value.int IntKind.i64 0] 28)).alloc (Obj.cells #[Value.slice none 0 0] 63)).alloc (Obj.cells #[Value.slice none 0 0] 64)) 65 ((List.replicate 10 false).map Value.bool).toArray (0, 0)).al _).gr h
    simpa only [World.size_alloc] using this
  · have := (Bk.new ((((((w.alloc (Obj.cells #[Value.slice none 0 0] 32)).alloc (Obj.cells #[Value.int IntKind.i64 0] 3)).alloc (Obj.cells #[Value.int IntKind.i64 0] 28)).alloc (Obj.cells #[Value.slice none 0 0] 63)).alloc (Obj.cells #[Value.slice none 0 0] 64)).alloc
      (Obj.cells #[Value.bool false, Value.bool false, Value.bool false, Value.bool false, Value.bool false, Value.bool false, Value.bool false, Value.bool false, Value.bool false, Value.bool false] 65)) 3 #[Value.int IntKind.i64 0] (0, 0)).gr h
    simpa only [World.size_alloc] using this
set_option maxHeartbeats 8000000 in
set_option maxRecDepth 100000 in
theorem c_parse_any (s : List UInt8) (w : World) (hs : s.length ≤ 1000000) (ha : ∀ t ∈ splitN s, Ascii (cleanL t)) (hn : Nm w) : Calls Tryd.prog 19 #[str s] w fun e w' =>
    (∃ v, e = .returned (.tuple #[v, .int .i64 (parseC s).2.1, .int .i64 (parseC s).2.2]) ∧ Sl w' v (parseC s).1.length (flatC (parseC s).1)) ∧ Gr w w' := by
  have HS := Lib.hid (fun (w : World) => SplitSeq_any s 10 w (by omega))
  have HA := Lib.hid ha
  have HNm := Lib.hid hn
  clear ha hn
  (refine calls_of_wp_marks Tryd.func19 rfl ?_; simp only [Tryd.ntmps19, List.size_toArray, List.length_cons, List.length_nil, Nat.reduceAdd, Nat.reduceSub, Array.replicate_succ, Array.replicate_zero, List.push_toArray, List.append_toArray, List.nil_append, List.cons_append])
  go_wp2_with (go_at_call 34; refine (HS.out _).mono ?_; rintro e w1 ⟨b, rfl, hG1, hb1, hb2, hit⟩)
  rw [split_ten] at hit
  have HP := Lib.hid (p0_of w w1 hG1)
  simp only [World.size_alloc] at hb1
  clear hG1 HS
  simp only [Nat.add_assoc, Nat.reduceAdd]
  have hgb : w.heap.size + 6 < b := by omega
  clear hb1
  generalize hg : w.heap.size = g at *
  have HG := Lib.hid hg
  clear hg
  refine wp_rangeFunc_it (gf := 58) rfl (enters_of Tryd.func58 (by kernel_rfl) rfl) hit (fun _ => rfl) ?hw0 (PInv g b) (PInx g b) ?hI ?hIx ?hIL ?hIxL ?hI0 ?h0 ?a1 ?hassign ?hbody ?hdone ?hstop
  case hassign =>
    intro l x W K hK
    gi_wp2_with (first | (refine wpR_region (by kernel_rfl) (fun _ _ h => h) ?_) | go_step)
    exact hK
  case hw0 => intro k hk; cases hk; exact ⟨by omega, rfl⟩
  case hI =>
    rintro W1 pre A B _ hsz ⟨st, h1, h2, h3⟩ hgr
    exact ⟨st, h1, h2.by hgr (.inl rfl) hgb (by omega), h3⟩
  case hIx =>
    rintro W1 c pre A B _ hsz ⟨hc, k, e, h1, h2⟩ hgr
    exact ⟨hc, k, e, h1, h2.by hgr (.inl rfl) hgb (by omega)⟩
  case hIL =>
    rintro W1 pre A k o _ hsz ⟨st, h1, h2, h3⟩ rfl
    exact ⟨st, h1, h2.by (grownBy_putObj' A _ o) (.inr (by omega)) hgb (by omega), h3⟩
  case hIxL =>
    rintro W1 c pre A k o _ hsz ⟨hc, k', e, h1, h2⟩ rfl
    exact ⟨hc, k', e, h1, h2.by (grownBy_putObj' A _ o) (.inr (by omega)) hgb (by omega)⟩
  case hI0 =>
    rintro W1 pre A hgr hsz ⟨st, h1, h2, h3⟩
    refine ⟨(h2.kr.block (b + 1) (by omega) (by simp; omega)).trans (hgr.block _ (by omega)), (h2.kr.block (b + 2) (by omega) (by simp; omega)).trans (hgr.block _ (by omega))⟩
  case h0 =>
    intro W1 hgr hsz
    have hp := HP.out
    have e := HG.out
    subst e
    exact ⟨PSt.start, rfl, ⟨Kr.refl (Nat.le_refl _), ⟨_, hp.all.gr hgr, Own.nil _ _ _ _⟩, ⟨_, hp.begins.gr hgr, Own.nil _ _ _ _⟩, hp.said.gr hgr, hp.no.gr hgr⟩, ⟨by simp [PSt.start], rfl, rfl, by simp [PSt.start]⟩⟩
  case hbody =>
    rintro W1 l pre x post A hgr hsz hxs ⟨st, hrun, hpi, hps⟩ hAs
    have hxm : x ∈ splitN s := by rw [hxs]; simp
    have hxl := splitN_mem s x hxm
    have hpl : pre.length + 1 ≤ (splitN s).length := by rw [hxs]; simp
    have hsl := splitN_len s
    have hno : st.no ≤ 1000001 := by have := runC_no hrun; simp only [PSt.start] at this; omega
    have hcells : A.cell? ⟨g + 6, 0, none⟩ = some (.int .i64 st.no) := hpi.no.cell 0
    have hfree := hpi.no.free 0 (.inr (Nat.le_refl _))
    have ew : wrap64 ((st.no : Int) + 1) = ((st.no + 1 : Nat) : Int) := by rw [IntWalk.wrap64_in _ (by omega)]; omega
    have hul := upto_len 35 x
    have HAx := Lib.hid (HA.out x hxm)
    have HPI := Lib.hid hpi
    have HXS := Lib.hid hxs
    have HPS := Lib.hid hps
    have HRUN := Lib.hid hrun
    have hN := hAs
    clear hpi hps hxs hrun hxm hAs
    gi_upto_region 10 with (first | (go_at_call 35; refine (cutOne x 35 _ (by omega)).mono ?_; rintro e w2 ⟨⟨r2, b2, rfl⟩, hG2⟩) | (go_at_call 36; refine (trim_any (upto 35 x) _ (by omega)).mono ?_; rintro e w3 ⟨rfl, hG3⟩) | (refine wpR_region (by kernel_rfl) (fun _ _ h => h) ?_) | go_guarded | go_step | go_upon)
    rw [show ((st.no : Int) + 1) = ((st.no + 1 : Nat) : Int) from by omega] at hG2
    have hp3 := ((HPI.out.next hgb (by omega) (st.no + 1)).gr hG2).gr hG3
    have hk3 : Kr [g + 3, g + 4, g + 5, g + 6] W1.heap.size A w3 := (((Kr.refl hN).set (.inl (by simp)) 0 _).gr hG2).gr hG3
    have HSN := Lib.hid (fun (x' : PSt) (h : stepC st x = .inl x') => show runC PSt.start (pre ++ [x]) = .inl x' from by rw [runC_snoc HRUN.out, h])
    have HSX := Lib.hid (fun (e : Nat) (h : stepC st x = .inr e) => show runC PSt.start (pre ++ [x]) = .inr (st.no + 1, e) from by rw [runC_snoc HRUN.out, h])
    have HCL := Lib.hid (show cleanL x = trim (upto 35 x) from rfl)
    rw [HCL.out] at HAx
    have HP3 := Lib.hid hp3
    have HK3 := Lib.hid hk3
    clear HPI HRUN hG2 hG3 hcells hfree ew hul hp3 hk3 hno hpl hsl
    have htl : (trim (upto 35 x)).length ≤ 1000000 := by have := trim_le (upto 35 x); have := upto_len 35 x; omega
    generalize trim (upto 35 x) = t at *
    by_cases c0 : t = []
    · subst c0
      gi_wp2_with (first | (refine wpR_region (by kernel_rfl) (fun _ _ h => h) ?_) | go_guarded | go_step | go_upon)
      exact ⟨keep3 HK3.out hsz hgb hb2, _, HSN.out _ (stepC_blank HCL.out), HP3.out, ⟨HPS.out.ten, HPS.out.len, HPS.out.beg, HPS.out.most⟩⟩
    · have k0 : (t == []) = false := by simpa using c0
      by_cases c1 : t = [110, 111, 100, 101]
      · subst c1
        by_cases c2 : st.all.length = 16
        · obtain ⟨va, hb3, hown⟩ := HP3.out.all
          obtain ⟨Aa, ca, rfl⟩ := hown.form
          have q3 : w3.cell? ⟨g + 3, 0, none⟩ = some (.slice Aa st.all.length ca) := hb3.cell 0
          have q8 : w3.cell? ⟨g + 6, 0, none⟩ = some (.int .i64 ((st.no + 1 : Nat) : Int)) := HP3.out.no.cell 0
          rw [c2] at q3
          clear hb3 hown
          have hr0 : R0 g w3 := HP3.out.res ⟨by rw [← HG.out]; exact HP.out.r0.gr hgr, by rw [← HG.out]; exact HP.out.r1.gr hgr, by rw [← HG.out]; exact HP.out.r2.gr hgr⟩ hgb (by omega)
          have z0 : w3.cell? ⟨g, 0, none⟩ = some (.slice none 0 0) := hr0.r0.cell 0
          have z1 : w3.cell? ⟨g + 1, 0, none⟩ = some (.int .i64 0) := hr0.r1.cell 0
          have z2 : w3.cell? ⟨g + 2, 0, none⟩ = some (.int .i64 0) := hr0.r2.cell 0
          have f0 := hr0.r0.free 0 (.inr (Nat.le_refl _))
          have f1 := hr0.r1.free 0 (.inr (Nat.le_refl _))
          have f2 := hr0.r2.free 0 (.inr (Nat.le_refl _))
          have HR0 := Lib.hid hr0
          clear hr0
          gi_upto_region 13 with (first | (refine wpR_region (by kernel_rfl) (fun _ _ h => h) ?_) | go_guarded | go_step | go_upon)
          refine wpR_region_two (by kernel_rfl) (by kernel_rfl) (fun _ _ h => h) (by kernel_rfl) (by kernel_rfl) (by kernel_rfl) (by kernel_rfl) ?_ ?_
          all_goals
            gi_wp2_with (first | (refine wpR_region (by kernel_rfl) (fun _ _ h => h) ?_) | go_guarded | go_step | go_upon)
            exact stop_end HK3.out HP3.out HR0.out hsz hgb hb2 (HSX.out 4 (stepC_many (by rw [HCL.out]; rfl) c2))
        · obtain ⟨va, hb3, hown⟩ := HP3.out.all
          obtain ⟨Aa, ca, rfl⟩ := hown.form
          have q3 : w3.cell? ⟨g + 3, 0, none⟩ = some (.slice Aa st.all.length ca) := hb3.cell 0
          have k2 : ((st.all.length : Int) == 16) = false := by simp; omega
          have hmost := HPS.out.most
          have HO := Lib.hid hown
          have HB3 := Lib.hid hb3
          clear hb3 hown
          gi_upto_region 14 with (first | (refine wpR_region (by kernel_rfl) (fun _ _ h => h) ?_) | go_guarded | go_step | go_upon)
          gi_cut [] from 20 (fun wx => PI g b W1 { st with all := st.all ++ [Cfg.dflt.nums], no := st.no + 1 } wx ∧ Kr [g + 3, g + 4, g + 5, g + 6] W1.heap.size A wx)
          case first =>
            refine wpR_region_orders [[0, 1, 2, 3, 4, 5], [1, 0, 2, 3, 4, 5], [1, 2, 0, 3, 4, 5], [1, 2, 3, 0, 4, 5]] (by kernel_rfl) (by kernel_rfl) (fun _ _ h => h) (by kernel_rfl) (by kernel_rfl) ?_
            intro ord hord
            simp only [List.mem_cons, List.not_mem_nil, or_false] at hord
            rcases hord with rfl | rfl | rfl | rfl
            all_goals
              simp only [pickOps, List.filterMap_cons, List.filterMap_nil, List.getElem?_cons_zero, List.getElem?_cons_succ]
              change wpList _ _ _ (_ :: _ :: _ :: _ :: _ :: _ :: []) _ _
              go_wp2_with (first | (go_at_call 11; refine (c_default_any _).mono ?_; rintro e w4 ⟨rfl, hG4⟩; have q4 := hG4.cell (show w3.drew.cell? _ = _ from q3)) | (go_at_call 28; refine (c_numbers_dflt _).mono ?_; rintro e w5 ⟨rfl, hG5⟩; have q5 := hG5.cell q4; have hGG : Gr w3 w5 := Gr.tr (Gr.tr (Gr.dr (Gr.refl w3)) hG4) hG5; have hl5 : g + 3 < w5.heap.size := (HB3.out.gr hGG).lt; have HGG := Lib.hid hGG; clear hGG) | (at_builtin; refine wpList_app1x (W0 := W1) (n := st.all.length) (xs := flatI st.all) (v := .slice Aa st.all.length ca) elemTen rfl _ _ rfl rfl rfl (Nat.le_trans (Nat.le_trans hN HK3.out.size) HGG.out.size) (HO.out.gr HGG.out) rfl one_ten (by omega) (by omega) ?_; intro v' w6 hown' happ; obtain ⟨A', c', rfl⟩ := hown'.form; have hp5 := HP3.out.gr HGG.out; have ho5 := HO.out.gr HGG.out; have hb5 := HB3.out.gr HGG.out; have hb6 := bk_by hb5 happ.grown (own_ne ho5 (by omega)); have q6 : w6.cell? ⟨g + 3, 0, none⟩ = some (.slice Aa st.all.length ca) := hb6.cell 0; have f6 := hb6.free 0 (.inr (Nat.le_refl _)); have HPA := Lib.hid (hp5.setAll hgb (by omega) ho5 (own_snoc hown') happ hb5); have HKA := Lib.hid (((HK3.out.gr HGG.out).by happ.grown (fun k hk => .inr (World.ownsRow.lt ho5 k hk).1)).set (g := g + 3) (.inl (by simp)) 0 (.slice A' (st.all.length + 1) c')); clear hp5 ho5 hb5 hb6 hown' happ))
              gi_meet
              exact ⟨HPA.out, HKA.out⟩
          case rest =>
            obtain ⟨hpi4, hk4⟩ := hcut
            obtain ⟨vb, hb4, hownb⟩ := hpi4.begins
            obtain ⟨Ab, cb, rfl⟩ := hownb.form
            have q4 : wc.cell? ⟨g + 4, 0, none⟩ = some (.slice Ab st.begins.length cb) := hb4.cell 0
            have q6 : wc.cell? ⟨g + 6, 0, none⟩ = some (.int .i64 ((st.no + 1 : Nat) : Int)) := hpi4.no.cell 0
            have HP4 := Lib.hid hpi4
            have HK4 := Lib.hid hk4
            have HO4 := Lib.hid hownb
            have HB4 := Lib.hid hb4
            have hbl : st.begins.length ≤ 16 := by rw [HPS.out.beg]; omega
            clear hpi4 hk4 hownb hb4 HO HB3 q3
            gi_upto_region 15 with (first | (refine wpR_region (by kernel_rfl) (fun _ _ h => h) ?_) | go_guarded | go_step | go_upon)
            gi_cut [] from 20 (fun wx => PI g b W1 { st with all := st.all ++ [Cfg.dflt.nums], begins := st.begins ++ [st.no + 1], no := st.no + 1 } wx ∧ Kr [g + 3, g + 4, g + 5, g + 6] W1.heap.size A wx)
            case first =>
              (refine wpR_region (by kernel_rfl) (fun _ _ h => h) ?_)
              go_wp2_with (at_builtin; refine wpList_app1x (W0 := W1) (n := st.begins.length) (xs := natsV st.begins) (v := .slice Ab st.begins.length cb) elemInt rfl _ _ rfl rfl rfl (Nat.le_trans hN HK4.out.size) HO4.out rfl (one_int _) (by omega) (by omega) ?_; intro v' w6 hown' happ; obtain ⟨A', c', rfl⟩ := hown'.form; have hb6 := bk_by HB4.out happ.grown (own_ne HO4.out (by omega)); have q6' : w6.cell? ⟨g + 4, 0, none⟩ = some (.slice Ab st.begins.length cb) := hb6.cell 0; have f6' := hb6.free 0 (.inr (Nat.le_refl _)); have HPA := Lib.hid (HP4.out.setBegins hgb (by omega) HO4.out (beg_snoc hown') happ HB4.out); have HKA := Lib.hid ((HK4.out.by happ.grown (fun k hk => .inr (World.ownsRow.lt HO4.out k hk).1)).set (g := g + 4) (.inl (by simp)) 0 (.slice A' (st.begins.length + 1) c')); clear hb6 hown' happ)
              gi_meet
              exact ⟨HPA.out, HKA.out⟩
            case rest =>
              obtain ⟨hpi5, hk5⟩ := hcut
              have hsb := hpi5.said
              have HP5 := Lib.hid hpi5
              have HK5 := Lib.hid hk5
              clear hpi5 hk5 HP4 HK4 HO4 HB4 q4 q6
              obtain ⟨b0, b1, b2, b3, b4, b5, b6, b7, b8, b9, hsd⟩ := ten_form HPS.out.len
              have hsb' : Bk wc (g + 5) 65 #[.bool b0, .bool b1, .bool b2, .bool b3, .bool b4, .bool b5, .bool b6, .bool b7, .bool b8, .bool b9] (0, 0) := by have := hsb; rw [hsd] at this; exact this
              have HSB := Lib.hid hsb
              clear hsb hsd
              have s0 : wc.cell? ⟨g + 5, 0, none⟩ = some (.bool b0) := hsb'.cell 0
              have s1 : wc.cell? ⟨g + 5, 1, none⟩ = some (.bool b1) := hsb'.cell 1
              have s2 : wc.cell? ⟨g + 5, 2, none⟩ = some (.bool b2) := hsb'.cell 2
              have s3 : wc.cell? ⟨g + 5, 3, none⟩ = some (.bool b3) := hsb'.cell 3
              have s4 : wc.cell? ⟨g + 5, 4, none⟩ = some (.bool b4) := hsb'.cell 4
              have s5 : wc.cell? ⟨g + 5, 5, none⟩ = some (.bool b5) := hsb'.cell 5
              have s6 : wc.cell? ⟨g + 5, 6, none⟩ = some (.bool b6) := hsb'.cell 6
              have s7 : wc.cell? ⟨g + 5, 7, none⟩ = some (.bool b7) := hsb'.cell 7
              have s8 : wc.cell? ⟨g + 5, 8, none⟩ = some (.bool b8) := hsb'.cell 8
              have s9 : wc.cell? ⟨g + 5, 9, none⟩ = some (.bool b9) := hsb'.cell 9
              have f0 := hsb'.free 0 (.inr (Nat.zero_le _))
              have f1 := hsb'.free 1 (.inr (Nat.zero_le _))
              have f2 := hsb'.free 2 (.inr (Nat.zero_le _))
              have f3 := hsb'.free 3 (.inr (Nat.zero_le _))
              have f4 := hsb'.free 4 (.inr (Nat.zero_le _))
              have f5 := hsb'.free 5 (.inr (Nat.zero_le _))
              have f6 := hsb'.free 6 (.inr (Nat.zero_le _))
              have f7 := hsb'.free 7 (.inr (Nat.zero_le _))
              have f8 := hsb'.free 8 (.inr (Nat.zero_le _))
              have f9 := hsb'.free 9 (.inr (Nat.zero_le _))
              clear hsb'
              gi_wp2_with (first | (refine wpR_region (by kernel_rfl) (fun _ _ h => h) ?_) | go_guarded | go_step | go_upon)
              refine ⟨keep3 (HK5.out.by (clear_by wc (g + 5)) (fun k e => by cases e; exact .inl (by simp))) hsz hgb hb2, _, HSN.out _ (stepC_node (by rw [HCL.out]; rfl) c2), (HP5.out.setSaid (clear_by wc (g + 5)) hgb (by omega) (clear_bk HSB.out HPS.out.len)), ⟨?_, rfl, ?_, ?_⟩⟩
              · intro l hl
                rcases List.mem_append.1 hl with h | h
                · exact HPS.out.ten l h
                · simp only [List.mem_singleton] at h; subst h; rfl
              · simp only [List.length_append, List.length_cons, List.length_nil]; have := HPS.out.beg; omega
              · simp only [List.length_append, List.length_cons, List.length_nil]; omega
      · have k1 : (t == [110, 111, 100, 101]) = false := by simpa using c1
        have hGw : Gr w w3 := by
          refine HP3.out.kr.old (Gr.tr HP.out.gr hgr) ?_ ?_
          · intro k hk
            simp only [List.mem_cons, List.not_mem_nil, or_false] at hk
            have e := HG.out
            have := HP.out.size
            omega
          · have e := HG.out
            have := hgr.size
            have := HP.out.size
            omega
        have HNM3 := Lib.hid (HNm.out.gr hGw)
        have HC0 := Lib.hid (show ¬ cleanL x = [] from by rw [HCL.out]; exact c0)
        have HC1 := Lib.hid (show ¬ cleanL x = nodeL from by rw [HCL.out]; exact c1)
        clear hGw c0 c1
        have hr0 : R0 g w3 := HP3.out.res ⟨by rw [← HG.out]; exact HP.out.r0.gr hgr, by rw [← HG.out]; exact HP.out.r1.gr hgr, by rw [← HG.out]; exact HP.out.r2.gr hgr⟩ hgb (by omega)
        have HR0 := Lib.hid hr0
        clear hr0
        gi_upto_region 18 with (first | (go_at_call 37; refine (c_line_any t _ (by omega) HAx.out HNM3.out).mono ?_; rintro e w4 ⟨⟨i, n, rfl, hi, hsay⟩, hG4⟩) | (refine wpR_region (by kernel_rfl) (fun _ _ h => h) ?_) | go_guarded | go_step | go_upon)
        have HP4 := Lib.hid (HP3.out.gr hG4)
        have HK4 := Lib.hid (HK3.out.gr hG4)
        have hr0 : R0 g w4 := ⟨HR0.out.r0.gr hG4, HR0.out.r1.gr hG4, HR0.out.r2.gr hG4⟩
        have HR4 := Lib.hid hr0
        have HSAY := Lib.hid hsay
        clear hsay hG4 HP3 HK3 HR0
        have z0 : w4.cell? ⟨g, 0, none⟩ = some (.slice none 0 0) := hr0.r0.cell 0
        have z1 : w4.cell? ⟨g + 1, 0, none⟩ = some (.int .i64 0) := hr0.r1.cell 0
        have z2 : w4.cell? ⟨g + 2, 0, none⟩ = some (.int .i64 0) := hr0.r2.cell 0
        have f0 := hr0.r0.free 0 (.inr (Nat.le_refl _))
        have f1 := hr0.r1.free 0 (.inr (Nat.le_refl _))
        have f2 := hr0.r2.free 0 (.inr (Nat.le_refl _))
        have q8 : w4.cell? ⟨g + 6, 0, none⟩ = some (.int .i64 ((st.no + 1 : Nat) : Int)) := HP4.out.no.cell 0
        clear hr0
        cases hsl : sayL t with
        | none =>
          have HSL := Lib.hid hsl
          clear hsl
          simp only [Option.isSome_none]
          gi_upto_region 19 with (first | (refine wpR_region (by kernel_rfl) (fun _ _ h => h) ?_) | go_guarded | go_step | go_upon)
          refine wpR_region_two (by kernel_rfl) (by kernel_rfl) (fun _ _ h => h) (by kernel_rfl) (by kernel_rfl) (by kernel_rfl) (by kernel_rfl) ?_ ?_
          all_goals
            gi_wp2_with (first | (refine wpR_region (by kernel_rfl) (fun _ _ h => h) ?_) | go_guarded | go_step | go_upon)
            exact stop_end HK4.out HP4.out HR4.out hsz hgb hb2 (HSX.out 2 (stepC_bad HC0.out HC1.out (by rw [HCL.out]; exact HSL.out)))
        | some p =>
          have hp := HSAY.out p hsl
          subst hp
          have HSL := Lib.hid hsl
          clear hsl HSAY
          simp only [Option.isSome_some]
          have hcs := said_cell HP4.out.said (i := i) (by rw [HPS.out.len]; exact hi)
          have hfs := HP4.out.said.free i (.inr (Nat.zero_le _))
          have bi : (i : Int) < 10 := by omega
          by_cases hsd : st.said.getD i false = true
          · have HSD := Lib.hid hsd
            simp only [hsd] at hcs
            clear hsd
            gi_upto_region 19 with (first | (refine wpR_region (by kernel_rfl) (fun _ _ h => h) ?_) | go_guarded | go_step | go_upon)
            refine wpR_region_two (by kernel_rfl) (by kernel_rfl) (fun _ _ h => h) (by kernel_rfl) (by kernel_rfl) (by kernel_rfl) (by kernel_rfl) ?_ ?_
            all_goals
              gi_wp2_with (first | (refine wpR_region (by kernel_rfl) (fun _ _ h => h) ?_) | go_guarded | go_step | go_upon)
              exact stop_end HK4.out HP4.out HR4.out hsz hgb hb2 (HSX.out 2 (stepC_twice HC0.out HC1.out (by rw [HCL.out]; exact HSL.out) (.inl HSD.out)))
          · have HSD := Lib.hid hsd
            simp only [hsd] at hcs
            clear hsd
            obtain ⟨va, hb3, hown⟩ := HP4.out.all
            obtain ⟨Aa, ca, rfl⟩ := hown.form
            have q3 : w4.cell? ⟨g + 3, 0, none⟩ = some (.slice Aa st.all.length ca) := hb3.cell 0
            cases hal : st.all.length with
            | zero =>
              have HAL := Lib.hid hal
              rw [hal] at q3
              clear hal
              gi_upto_region 19 with (first | (refine wpR_region (by kernel_rfl) (fun _ _ h => h) ?_) | go_guarded | go_step | go_upon)
              refine wpR_region_two (by kernel_rfl) (by kernel_rfl) (fun _ _ h => h) (by kernel_rfl) (by kernel_rfl) (by kernel_rfl) (by kernel_rfl) ?_ ?_
              all_goals
                gi_wp2_with (first | (refine wpR_region (by kernel_rfl) (fun _ _ h => h) ?_) | go_guarded | go_step | go_upon)
                exact stop_end HK4.out HP4.out HR4.out hsz hgb hb2 (HSX.out 2 (stepC_twice HC0.out HC1.out (by rw [HCL.out]; exact HSL.out) (.inr (List.eq_nil_of_length_eq_zero HAL.out))))
            | succ m =>
              have HAL := Lib.hid hal
              rw [hal] at q3
              obtain ⟨ba, rfl, hca⟩ := own_at (by rw [hal] at hown; exact hown)
              have hfl := flat_len st.all HPS.out.ten
              obtain ⟨uo, hcu, hfu⟩ := own_cell hown (j := m * 10 + i) (by rw [hfl, hal]; omega)
              have HO := Lib.hid hown
              have HB3 := Lib.hid hb3
              have hbaN : W1.heap.size ≤ ba := (World.ownsRow.lt hown ba rfl).1
              have hbag : ba ≠ g + 5 := by omega
              have hmost := HPS.out.most
              rw [hal] at hmost
              clear hal hown hb3 hfl
              gi_wp2_with (first | (refine wpR_region (by kernel_rfl) (fun _ _ h => h) ?_) | go_guarded | go_step | go_upon)
              have hP5 := HP4.out.setSaid (by_st ((Gr.refl w4).by (some (g + 5))) i (.bool true)) hgb (by omega) (said_set HP4.out.said)
              have hfl := flat_set (i := i) (n : Int) HAL.out HPS.out.ten
              have hP6 := hP5.putAll hgb (by omega) (own_kr HO.out (by_st ((Gr.refl w4).by (some (g + 5))) i (.bool true)) (.inr (own_ne HO.out (by omega)))) (HB3.out.far (p := ⟨g + 5, i, none⟩) (by simp) _) hfl.1 (hfl.2.1.trans HAL.out.symm)
              refine ⟨keep3 ((HK4.out.set (.inl (by simp)) _ _).set (.inr hbaN) _ _) hsz hgb hb2, _, HSN.out _ (stepC_say HC0.out HC1.out (by rw [HCL.out]; exact HSL.out) ?_), hP6, ⟨hfl.2.2, by rw [List.length_set]; exact HPS.out.len, ?_, ?_⟩⟩
              · rintro (h | h)
                · exact HSD.out h
                · have := HAL.out; rw [h] at this; cases this
              · show st.begins.length = (setLast st.all i n).length
                rw [hfl.2.1, HPS.out.beg]; exact HAL.out
              · show (setLast st.all i n).length ≤ 16
                rw [hfl.2.1]; exact hmost
  case hstop =>
    rintro W1 A c pre x post hgr hsz hxs ⟨rfl, k, e, hrun, hpx⟩ hD
    have hpc : parseC s = ([], k, e) := by
      have : runC PSt.start (splitN s) = .inr (k, e) := by rw [hxs, show pre ++ x :: post = (pre ++ [x]) ++ post from by simp]; exact runC_stop hrun
      unfold parseC; rw [this]
    have hGw : Gr w A := by
      refine hpx.kr.old (Gr.tr HP.out.gr hgr) ?_ ?_
      · intro k hk
        simp only [List.mem_cons, List.not_mem_nil, or_false] at hk
        have e := HG.out
        have := HP.out.size
        omega
      · have e := HG.out
        have := hgr.size
        have := HP.out.size
        omega
    have hDw : w.heap.size ≤ w1.heap.size := HP.out.gr.size
    have hgA : g + 6 < w1.heap.size := by omega
    have z0 : (A.putObj w1.heap.size (.deferred none)).cell? ⟨g, 0, none⟩ = some (.slice none 0 0) := (put_cell (by omega)).trans (hpx.r0.cell 0)
    have z1 : (A.putObj w1.heap.size (.deferred none)).cell? ⟨g + 1, 0, none⟩ = some (.int .i64 k) := (put_cell (by omega)).trans (hpx.r1.cell 0)
    have z2 : (A.putObj w1.heap.size (.deferred none)).cell? ⟨g + 2, 0, none⟩ = some (.int .i64 e) := (put_cell (by omega)).trans (hpx.r2.cell 0)
    go_wp2_with fail
    refine bodyM_mark (v := .tuple #[.slice none 0 0, .int .i64 k, .int .i64 e]) hD rfl (by simp [results, Tryd.results19, go_sem, z0, z1, z2]) ?_
    rw [hpc]
    exact ⟨⟨_, rfl, sl_nil _⟩, gr_put hGw hDw _⟩
  case hdone =>
    rintro W1 A hgr hsz ⟨st, hrun, hpi, hps⟩ hD
    have HGw := Lib.hid (show Gr w A from by
      refine hpi.kr.old (Gr.tr HP.out.gr hgr) ?_ ?_
      · intro k hk
        simp only [List.mem_cons, List.not_mem_nil, or_false] at hk
        have e := HG.out
        have := HP.out.size
        omega
      · have e := HG.out
        have := hgr.size
        have := HP.out.size
        omega)
    have hr0 : R0 g A := hpi.res ⟨by rw [← HG.out]; exact HP.out.r0.gr hgr, by rw [← HG.out]; exact HP.out.r1.gr hgr, by rw [← HG.out]; exact HP.out.r2.gr hgr⟩ hgb (by omega)
    have HDw := Lib.hid HP.out.gr.size
    have hgA : g + 6 < w1.heap.size := by omega
    have HR0 := Lib.hid hr0
    have HPI := Lib.hid hpi
    have HPS := Lib.hid hps
    have HD := Lib.hid hD
    have HRUN := Lib.hid hrun
    obtain ⟨va, hb3, hown⟩ := hpi.all
    obtain ⟨Aa, ca, rfl⟩ := hown.form
    have q3 : A.cell? ⟨g + 3, 0, none⟩ = some (.slice Aa st.all.length ca) := hb3.cell 0
    have HO0 := Lib.hid hown
    have HB0 := Lib.hid hb3
    have hmost := hps.most
    clear hr0 hpi hps hD hrun hown hb3 hit
    go_wp2_with fail
    go_loopw [13, 79] (fun x13 i wr => ∃ (k : Nat), k ≤ st.all.length ∧ i = .int .i64 k ∧ Gr A wr ∧ Own A wr 23 10 x13 k (flatC ((st.all.take k).map ofNums)) ∧ ∀ j, j < k → (ofNums (st.all.getD j [])).right = true) (fun _ i _ => st.all.length - (intOf i).toNat)
    case atStart => exact ⟨0, Nat.zero_le _, rfl, Gr.refl _, Own.nil _ _ _ _, fun j hj => by omega⟩
    case round =>
      obtain ⟨k, hk, rfl, hG, hown, hall⟩ := hrel
      obtain ⟨A13, c13, rfl⟩ := hown.form
      have HALL := Lib.hid hall
      have HOW := Lib.hid hown
      clear hall hown
      by_cases hlt : k < st.all.length
      · obtain ⟨x0, x1, x2, x3, x4, x5, x6, x7, x8, x9, hx⟩ := ten_form (l := st.all.getD k []) (by have := HPS.out.ten st.all[k] (List.getElem_mem hlt); simpa [hlt] using this)
        obtain ⟨ba, hAa, hca⟩ : ∃ ba, Aa = some ⟨ba, 0, none⟩ ∧ st.all.length ≤ ca := by
          have h := HO0.out
          cases hal : st.all.length with
          | zero => omega
          | succ m => rw [hal] at h; exact own_at h
        subst hAa
        have c0 : wr.cell? ⟨ba, k * 10, none⟩ = some (.int .i64 x0) := hG.cell (own_get HO0.out (flat_at (k := k) (j := 0) (x := x0) HPS.out.ten (by omega) (by rw [hx]; rfl)))
        have c1 := hG.cell (own_get HO0.out (flat_at (k := k) (j := 1) (x := x1) HPS.out.ten (by omega) (by rw [hx]; rfl)))
        have c2 := hG.cell (own_get HO0.out (flat_at (k := k) (j := 2) (x := x2) HPS.out.ten (by omega) (by rw [hx]; rfl)))
        have c3 := hG.cell (own_get HO0.out (flat_at (k := k) (j := 3) (x := x3) HPS.out.ten (by omega) (by rw [hx]; rfl)))
        have c4 := hG.cell (own_get HO0.out (flat_at (k := k) (j := 4) (x := x4) HPS.out.ten (by omega) (by rw [hx]; rfl)))
        have c5 := hG.cell (own_get HO0.out (flat_at (k := k) (j := 5) (x := x5) HPS.out.ten (by omega) (by rw [hx]; rfl)))
        have c6 := hG.cell (own_get HO0.out (flat_at (k := k) (j := 6) (x := x6) HPS.out.ten (by omega) (by rw [hx]; rfl)))
        have c7 := hG.cell (own_get HO0.out (flat_at (k := k) (j := 7) (x := x7) HPS.out.ten (by omega) (by rw [hx]; rfl)))
        have c8 := hG.cell (own_get HO0.out (flat_at (k := k) (j := 8) (x := x8) HPS.out.ten (by omega) (by rw [hx]; rfl)))
        have c9 := hG.cell (own_get HO0.out (flat_at (k := k) (j := 9) (x := x9) HPS.out.ten (by omega) (by rw [hx]; rfl)))
        have HX := Lib.hid hx
        have HGr := Lib.hid hG
        clear hx hG
        have hOf : ofNums (st.all.getD k []) = ⟨x0, x1, x2, x3, x4, x5, x6, x7, x8, x9⟩ := by rw [HX.out]; rfl
        have HOf := Lib.hid hOf
        clear hOf
        cases hr : Cfg.right ⟨x0, x1, x2, x3, x4, x5, x6, x7, x8, x9⟩ with
        | true =>
          have HRT := Lib.hid hr
          go_wp2_with (first | (go_at_call 38; refine (c_of_lit _ _ _ _ _ _ _ _ _ _ _).mono ?_; rintro e w5 ⟨rfl, hG5⟩) | (go_at_call 9; refine (c_right_lit _ _ _ _ _ _ _ _ _ _ _).mono ?_; rintro e w6 ⟨rfl, hG6⟩; have hb6 := (Bk.new w5 23 #[.int .i64 x0, .int .i64 x1, .int .i64 x2, .int .i64 x3, .int .i64 x4, .int .i64 x5, .int .i64 x6, .int .i64 x7, .int .i64 x8, .int .i64 x9] (0, 0)).gr hG6; have d0 : w6.cell? ⟨w5.heap.size, 0, none⟩ = some (.int .i64 x0) := hb6.cell 0; have d1 : w6.cell? ⟨w5.heap.size, 1, none⟩ = some (.int .i64 x1) := hb6.cell 1; have d2 : w6.cell? ⟨w5.heap.size, 2, none⟩ = some (.int .i64 x2) := hb6.cell 2; have d3 : w6.cell? ⟨w5.heap.size, 3, none⟩ = some (.int .i64 x3) := hb6.cell 3; have d4 : w6.cell? ⟨w5.heap.size, 4, none⟩ = some (.int .i64 x4) := hb6.cell 4; have d5 : w6.cell? ⟨w5.heap.size, 5, none⟩ = some (.int .i64 x5) := hb6.cell 5; have d6 : w6.cell? ⟨w5.heap.size, 6, none⟩ = some (.int .i64 x6) := hb6.cell 6; have d7 : w6.cell? ⟨w5.heap.size, 7, none⟩ = some (.int .i64 x7) := hb6.cell 7; have d8 : w6.cell? ⟨w5.heap.size, 8, none⟩ = some (.int .i64 x8) := hb6.cell 8; have d9 : w6.cell? ⟨w5.heap.size, 9, none⟩ = some (.int .i64 x9) := hb6.cell 9; have hGG : Gr wr w6 := Gr.tr (Gr.al (Gr.refl wr) _) (Gr.tr hG5 (Gr.tr (Gr.al (Gr.refl w5) _) hG6)); have HGG := Lib.hid hGG; clear hGG hb6) | (at_builtin; refine wpList_app1x (W0 := A) (n := k) (xs := flatC ((st.all.take k).map ofNums)) (v := .slice A13 k c13) elemCfg rfl _ _ rfl rfl rfl (Gr.tr HGr.out HGG.out).size (HOW.out.gr HGG.out) rfl (one_ten_any x0 x1 x2 x3 x4 x5 x6 x7 x8 x9) (by omega) (by omega) ?_; intro v' w7 hown' happ; have HGA := Lib.hid (happ.gr (Gr.tr HGr.out HGG.out) (HOW.out.gr HGG.out)); have HOA := Lib.hid (cfgs_snoc hlt HX.out hown'); clear hown' happ))
          refine ⟨⟨k + 1, by omega, rfl, HGA.out, HOA.out, fun j hj => ?_⟩, by simp [intOf]; omega⟩
          rcases Nat.lt_or_ge j k with h | h
          · exact HALL.out j h
          · obtain rfl : j = k := by omega
            rw [HOf.out]; exact HRT.out
        | false =>
          have HRT := Lib.hid hr
          go_upto_region 28 with (first | (go_at_call 38; refine (c_of_lit _ _ _ _ _ _ _ _ _ _ _).mono ?_; rintro e w5 ⟨rfl, hG5⟩) | (go_at_call 9; refine (c_right_lit _ _ _ _ _ _ _ _ _ _ _).mono ?_; rintro e w6 ⟨rfl, hG6⟩; have hb6 := (Bk.new w5 23 #[.int .i64 x0, .int .i64 x1, .int .i64 x2, .int .i64 x3, .int .i64 x4, .int .i64 x5, .int .i64 x6, .int .i64 x7, .int .i64 x8, .int .i64 x9] (0, 0)).gr hG6; have d0 : w6.cell? ⟨w5.heap.size, 0, none⟩ = some (.int .i64 x0) := hb6.cell 0; have d1 : w6.cell? ⟨w5.heap.size, 1, none⟩ = some (.int .i64 x1) := hb6.cell 1; have d2 : w6.cell? ⟨w5.heap.size, 2, none⟩ = some (.int .i64 x2) := hb6.cell 2; have d3 : w6.cell? ⟨w5.heap.size, 3, none⟩ = some (.int .i64 x3) := hb6.cell 3; have d4 : w6.cell? ⟨w5.heap.size, 4, none⟩ = some (.int .i64 x4) := hb6.cell 4; have d5 : w6.cell? ⟨w5.heap.size, 5, none⟩ = some (.int .i64 x5) := hb6.cell 5; have d6 : w6.cell? ⟨w5.heap.size, 6, none⟩ = some (.int .i64 x6) := hb6.cell 6; have d7 : w6.cell? ⟨w5.heap.size, 7, none⟩ = some (.int .i64 x7) := hb6.cell 7; have d8 : w6.cell? ⟨w5.heap.size, 8, none⟩ = some (.int .i64 x8) := hb6.cell 8; have d9 : w6.cell? ⟨w5.heap.size, 9, none⟩ = some (.int .i64 x9) := hb6.cell 9; have hGG : Gr wr w6 := Gr.tr (Gr.al (Gr.refl wr) _) (Gr.tr hG5 (Gr.tr (Gr.al (Gr.refl w5) _) hG6)); have HGG := Lib.hid hGG; clear hGG hb6))
          have hGA : Gr A w6 := Gr.tr HGr.out HGG.out
          obtain ⟨vb, hb4, hownb⟩ := HPI.out.begins
          obtain ⟨Ab, cb, rfl⟩ := hownb.form
          have hbl := HPS.out.beg
          obtain ⟨bb, hAb, hcb⟩ : ∃ bb, Ab = some ⟨bb, 0, none⟩ ∧ st.begins.length ≤ cb := by
            cases hal : st.begins.length with
            | zero => omega
            | succ m => rw [hal] at hownb; exact own_at hownb
          subst hAb
          have q4 : w6.cell? ⟨g + 4, 0, none⟩ = some (.slice (some ⟨bb, 0, none⟩) st.begins.length cb) := hGA.cell (hb4.cell 0)
          have q5 := hGA.cell (own_get hownb (nats_at (k := k) (by omega)))
          have kb : (k : Int) < (st.begins.length : Int) := by omega
          have hr6 : R0 g w6 := ⟨HR0.out.r0.gr hGA, HR0.out.r1.gr hGA, HR0.out.r2.gr hGA⟩
          have z0 : w6.cell? ⟨g, 0, none⟩ = some (.slice none 0 0) := hr6.r0.cell 0
          have z1 : w6.cell? ⟨g + 1, 0, none⟩ = some (.int .i64 0) := hr6.r1.cell 0
          have z2 : w6.cell? ⟨g + 2, 0, none⟩ = some (.int .i64 0) := hr6.r2.cell 0
          have f0 := hr6.r0.free 0 (.inr (Nat.le_refl _))
          have f1 := hr6.r1.free 0 (.inr (Nat.le_refl _))
          have f2 := hr6.r2.free 0 (.inr (Nat.le_refl _))
          have hbbN : W1.heap.size ≤ bb := (World.ownsRow.lt hownb bb rfl).1
          have n0 : bb ≠ g := by omega
          have HR6 := Lib.hid hr6
          have HGA := Lib.hid hGA
          have hkb : st.begins.getD k 0 = st.begins.getD k 0 := rfl
          generalize hval : st.begins.getD k 0 = vl at q5
          have HVL := Lib.hid hval
          clear hval hkb hbl hr6 hGA hb4 hownb d0 d1 d2 d3 d4 d5 d6 d7 d8 d9 c0 c1 c2 c3 c4 c5 c6 c7 c8 c9
          refine wp_region_orders [[0, 1, 2, 3, 4, 5, 6], [0, 1, 2, 4, 3, 5, 6], [0, 1, 4, 2, 3, 5, 6], [0, 4, 1, 2, 3, 5, 6], [1, 0, 2, 3, 4, 5, 6], [1, 0, 2, 4, 3, 5, 6], [1, 0, 4, 2, 3, 5, 6], [1, 4, 0, 2, 3, 5, 6], [4, 0, 1, 2, 3, 5, 6], [4, 1, 0, 2, 3, 5, 6]] (by kernel_rfl) (by kernel_rfl) (by kernel_rfl) ?_
          intro ord hord
          simp only [List.mem_cons, List.not_mem_nil, or_false] at hord
          rcases hord with rfl | rfl | rfl | rfl | rfl | rfl | rfl | rfl | rfl | rfl
          all_goals
            simp only [pickOps, List.filterMap_cons, List.filterMap_nil, List.getElem?_cons_zero, List.getElem?_cons_succ]
            change wpList _ _ _ (_ :: _ :: _ :: _ :: _ :: _ :: _ :: []) _ _
            go_wp2_with fail
            obtain ⟨y0, y1, y2⟩ := stop_bks (v := .slice none 0 0) HR6.out (vl : Int) 1
            have hD6 : w6.heap[w1.heap.size]? = some (.deferred (some [])) := (HGA.out.block _ (Array.getElem?_eq_some_iff.1 HD.out).1).trans HD.out
            refine bodyM_mark (v := .tuple #[.slice none 0 0, .int .i64 vl, .int .i64 1]) ((heap_three (by omega)).trans hD6) rfl (by simp [results, Tryd.results19, go_sem, (put_cell (o := .deferred none) (show g ≠ w1.heap.size by omega)).trans (y0.dr.cell 0), (put_cell (o := .deferred none) (show g + 1 ≠ w1.heap.size by omega)).trans (y1.dr.cell 0), (put_cell (o := .deferred none) (show g + 2 ≠ w1.heap.size by omega)).trans (y2.dr.cell 0)]) ?_
            rw [parse_wrong HRUN.out hlt HALL.out (by rw [HOf.out]; exact HRT.out), HVL.out]
            have e := HG.out
            exact ⟨⟨_, rfl, sl_nil _⟩, gr_put (Gr.dr (Gr.st (Gr.st (Gr.st (Gr.tr HGw.out HGA.out) (by show _ ≤ g; omega) _) (by show _ ≤ g + 1; omega) _) (by show _ ≤ g + 2; omega) _)) HDw.out _⟩
      · obtain rfl : k = st.all.length := by omega
        have hr6 : R0 g wr := ⟨HR0.out.r0.gr hG, HR0.out.r1.gr hG, HR0.out.r2.gr hG⟩
        have z0 : wr.cell? ⟨g, 0, none⟩ = some (.slice none 0 0) := hr6.r0.cell 0
        have z1 : wr.cell? ⟨g + 1, 0, none⟩ = some (.int .i64 0) := hr6.r1.cell 0
        have z2 : wr.cell? ⟨g + 2, 0, none⟩ = some (.int .i64 0) := hr6.r2.cell 0
        have f0 := hr6.r0.free 0 (.inr (Nat.le_refl _))
        have f1 := hr6.r1.free 0 (.inr (Nat.le_refl _))
        have f2 := hr6.r2.free 0 (.inr (Nat.le_refl _))
        have HR6 := Lib.hid hr6
        have HGr := Lib.hid hG
        clear hr6 hG
        go_wp2_with fail
        obtain ⟨y0, y1, y2⟩ := stop_bks (v := .slice A13 st.all.length c13) HR6.out 0 0
        have hD6 : wr.heap[w1.heap.size]? = some (.deferred (some [])) := (HGr.out.block _ (Array.getElem?_eq_some_iff.1 HD.out).1).trans HD.out
        refine bodyM_mark (v := .tuple #[.slice A13 st.all.length c13, .int .i64 0, .int .i64 0]) ((heap_three (by omega)).trans hD6) rfl (by simp [results, Tryd.results19, go_sem, (put_cell (o := .deferred none) (show g ≠ w1.heap.size by omega)).trans (y0.cell 0), (put_cell (o := .deferred none) (show g + 1 ≠ w1.heap.size by omega)).trans (y1.cell 0), (put_cell (o := .deferred none) (show g + 2 ≠ w1.heap.size by omega)).trans (y2.cell 0)]) ?_
        rw [parse_ok HRUN.out HALL.out]
        have e := HG.out
        have hDA : w1.heap.size < A.heap.size := (Array.getElem?_eq_some_iff.1 HD.out).1
        have o1 := own_kr HOW.out (by_st ((Gr.refl wr).by (some g)) 0 (.slice A13 st.all.length c13)) (.inr (own_ne HOW.out (by omega)))
        have o2 := own_kr o1 (by_st ((Gr.refl _).by (some (g + 1))) 0 (.int .i64 0)) (.inr (own_ne HOW.out (by omega)))
        have o3 := own_kr o2 (by_st ((Gr.refl _).by (some (g + 2))) 0 (.int .i64 0)) (.inr (own_ne HOW.out (by omega)))
        have o4 := own_kr o3 (grownBy_putObj' _ w1.heap.size (.deferred none)) (.inr (own_ne HOW.out (by omega)))
        rw [List.take_length] at o4
        refine ⟨⟨_, rfl, ?_⟩, gr_put (Gr.st (Gr.st (Gr.st (Gr.tr HGw.out HGr.out) (by show _ ≤ g; omega) _) (by show _ ≤ g + 1; omega) _) (by show _ ≤ g + 2; omega) _) HDw.out _⟩
        show Sl _ _ (st.all.map ofNums).length _
        rw [List.length_map]
        exact o4.sl (by omega)
end Go.Proofs.YtghopokdfjcjlaaDoor
