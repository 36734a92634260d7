/- Arguments of whatever make (texts, numbers, bools, structs and slices of these, nested), opened by their shape. No conditions beyond the row's own reach. -/
import Derived.Test.YtnmfmcmokdoieaaGreatDoorOpen
set_option linter.unusedVariables false
set_option linter.unusedSimpArgs false
namespace Go.Proofs.YtnmfmcmokdoieaaGreatDoor
open Go.ChangeShapes Go.WideShapes Go.ChangeAt Go.RowKit Go.Deep Go.Joins
/-- a type's shape; a struct's parts as a chain -/
inductive Sh where
  | str
  | int (k : IntKind)
  | bool
  | slice (e : Sh)
  | struct (r : Sh)
  | nil
  | seq (a r : Sh)
/-- how many cells -/
def Sh.size : Sh → Nat
  | .nil => 0
  | .seq a r => a.size + r.size
  | .struct r => r.size
  | _ => 1
/-- cells that read as the shape -/
def Rd : Sh → World → List Value → Prop
  | .str, _, cs => ∃ l, cs = [Go.Proofs.YtnmfmcmokdoieaaGreatDoor.str l] ∧ l.length ≤ 140737488355328
  | .int k, _, cs => ∃ x, cs = [.int k x] ∧ (Lit.int k x).wf = true
  | .bool, _, cs => ∃ b, cs = [.bool b]
  | .slice e, w, cs => ∃ (v : Value) (rows : List (List Value)), cs = [v] ∧ rows.length ≤ 140737488355328 ∧ Sl w v rows.length rows.flatten ∧ ∀ r ∈ rows, r.length = e.size ∧ Rd e w r
  | .struct r, w, cs => Rd r w cs
  | .nil, _, cs => cs = []
  | .seq a r, w, cs => ∃ c1 c2, cs = c1 ++ c2 ∧ c1.length = a.size ∧ Rd a w c1 ∧ Rd r w c2
section
variable {H : Type} {enc : TypeId × Value → H} {P : Program}
/-- does a type, or do fields from a place on, have the shape? -/
def fits (P : Program) : Sh → TypeId ⊕ (List Field × Nat) → Bool
  | .str, .inl t => match P.underlying t with | some .string => true | _ => false
  | .int k, .inl t => match P.underlying t with | some (.int k') => decide (k' = k) | _ => false
  | .bool, .inl t => match P.underlying t with | some .bool => true | _ => false
  | .slice e, .inl t => match P.underlying t with | some (.slice e') => fits P e (.inl e') && decide (P.cellsOf e' = e.size) && decide (1 ≤ P.bytesOf e') && decide (1 ≤ e.size) | _ => false
  | .struct r, .inl t => match P.underlying t with | some (.struct fs) => fits P r (.inr (fs.toList, 0)) && decide (P.cellsOf t = r.size) | _ => false
  | .nil, .inr (fs, _) => fs.isEmpty
  | .seq a r, .inr (f :: fs, off) => decide (f.offset = off) && decide (P.cellsOf f.type = a.size) && fits P a (.inl f.type) && fits P r (.inr (fs, off + a.size))
  | _, _ => false
theorem weightsEach_cons {t : TypeId} {ts : List TypeId} {d : DataW H} {ds : List (DataW H)} : DataW.weightsEach P (t :: ts) (d :: ds) = d.weights P t ++ DataW.weightsEach P ts ds := by simp [DataW.weightsEach]
theorem flatten_at {rows : List (List Value)} {k : Nat} (h : ∀ r ∈ rows, r.length = k) {i j : Nat} (hi : i < rows.length) (hj : j < k) : rows.flatten[i * k + j]? = rows[i][j]? := by
  induction rows generalizing i with
  | nil => simp at hi
  | cons r rs ih =>
    have hr := h r (List.mem_cons_self ..)
    cases i with
    | zero =>
      rw [List.flatten_cons, List.getElem?_append_left (by omega)]; simp
    | succ i =>
      have := ih (fun x hx => h x (List.mem_cons_of_mem _ hx)) (i := i) (by simpa using hi)
      rw [List.flatten_cons, List.getElem?_append_right (by rw [hr, Nat.succ_mul]; omega), hr, show (i + 1) * k + j - k = i * k + j from by rw [Nat.succ_mul]; omega, this]
      simp
theorem flatten_len {rows : List (List Value)} {k : Nat} (h : ∀ r ∈ rows, r.length = k) : rows.flatten.length = rows.length * k := by
  induction rows with
  | nil => simp
  | cons r rs ih =>
    rw [List.flatten_cons, List.length_append, ih (fun x hx => h x (List.mem_cons_of_mem _ hx)), h r (List.mem_cons_self ..), List.length_cons, Nat.succ_mul]; omega
/-- the fields of a struct, from a place on -/
def FieldsRd (enc : TypeId × Value → H) (P : Program) (W : World) (n : Nat) (cs : List Value) (fs : List Field) (xs : List (DataW H × List MemPlace)) : Prop :=
  xs.length = fs.length ∧ ∀ (i : Nat) (f : Field), fs[i]? = some f → DataW.trod enc P W 0 (fun _ => true) true n f.type ((cs.drop f.offset).take (P.cellsOf f.type)) = xs[i]?
theorem rd_of {W : World} (sh : Sh) :
    (∀ (t : TypeId) (fuel : Nat) (cs : List Value) (x : DataW H × List MemPlace), fits P sh (.inl t) = true → DataW.trod enc P W 0 (fun _ => true) true fuel t cs = some x → (∀ n ∈ x.1.weights P t, n ≤ reachBytes) → Rd sh W cs) ∧
    (∀ (fs : List Field) (off n : Nat) (cs : List Value) (xs : List (DataW H × List MemPlace)), fits P sh (.inr (fs, off)) = true → FieldsRd enc P W n cs fs xs → (∀ m ∈ DataW.weightsEach P (fs.map (·.type)) (xs.map (·.1)), m ≤ reachBytes) → cs.length = off + sh.size → Rd sh W (cs.drop off)) := by
  induction sh with
  | str =>
    refine ⟨fun t fuel cs x hf h hz => ?_, fun fs off n cs xs hf => by simp [fits] at hf⟩
    have ht : P.underlying t = some .string := by unfold fits at hf; split at hf <;> simp_all
    obtain ⟨s, rfl, rfl, _⟩ := DataW.trod_string ht h
    exact ⟨s.data.toList, by rw [← ba_eta], reach_le (hz _ (by simp [DataW.weights]))⟩
  | int k =>
    refine ⟨fun t fuel cs x hf h hz => ?_, fun fs off n cs xs hf => by simp [fits] at hf⟩
    have ht : P.underlying t = some (.int k) := by unfold fits at hf; split at hf <;> simp_all
    obtain ⟨y, rfl, rfl, hw⟩ := DataW.trod_int ht h
    exact ⟨y, rfl, hw⟩
  | bool =>
    refine ⟨fun t fuel cs x hf h hz => ?_, fun fs off n cs xs hf => by simp [fits] at hf⟩
    have ht : P.underlying t = some .bool := by unfold fits at hf; split at hf <;> simp_all
    obtain ⟨y, rfl, rfl⟩ := DataW.trod_bool ht h
    exact ⟨y, rfl⟩
  | slice e ih =>
    refine ⟨fun t fuel cs x hf h hz => ?_, fun fs off n cs xs hf => by simp [fits] at hf⟩
    obtain ⟨e', ht, he, hc, hby, hsz⟩ : ∃ e', P.underlying t = some (.slice e') ∧ fits P e (.inl e') = true ∧ P.cellsOf e' = e.size ∧ 1 ≤ P.bytesOf e' ∧ 1 ≤ e.size := by
      unfold fits at hf
      split at hf
      · rename_i e' he'
        simp only [Bool.and_eq_true, decide_eq_true_eq] at hf
        exact ⟨e', he', hf.1.1.1, hf.1.1.2, hf.1.2, hf.2⟩
      · cases hf
    rcases open_slice ht h with ⟨hcs, hx⟩ | ⟨a, len, cap, m, n, D, Pl, hcs, _, hl, hm, hmm, hx, hi⟩
    · exact ⟨_, [], hcs, by simp, ⟨none, 0, rfl, Nat.le_refl _, by simp, .inl rfl⟩, fun r hr => by simp at hr⟩
    · simp only [if_true] at hmm
      subst hmm
      subst hx
      have hw : ∀ n, n ∈ (len + (m - len)) * P.bytesOf e' :: (DataW.weightsAll P e' ((List.range len).map D)) → n ≤ reachBytes := fun n hn => hz n (by
        simp only [DataW.weights, ht, List.length_map, List.length_range, List.mem_cons, List.mem_append] at hn ⊢
        rcases hn with h | h
        · exact .inl h
        · exact .inr (.inl h))
      have hlen : len ≤ 140737488355328 := by
        have := reach_le (hw _ (List.mem_cons_self ..))
        have h2 : (len + (m - len)) * 1 ≤ (len + (m - len)) * P.bytesOf e' := Nat.mul_le_mul_left _ hby
        omega
      obtain ⟨rows, hrl, hrs⟩ := list_of (R := fun i (r : List Value) => r.length = e.size ∧ Rd e W r ∧ ∀ j, j < e.size → W.cell? (a.add (i * e.size + j)) = r[j]?) len (fun i hil => by
        obtain ⟨cs', hcc, htt⟩ := hi i (by omega)
        rw [hc] at hcc
        obtain ⟨_, hcl, hat⟩ := World.cells?_some hcc
        refine ⟨cs', hcl, ih.1 e' n cs' _ he htt (fun q hq => hw q (List.mem_cons_of_mem _ (weightsAll_mem (List.mem_map.2 ⟨i, by simpa using hil, rfl⟩) hq))), fun j hj => ?_⟩
        have := hat j (by omega)
        rw [Go.Deep.add_add] at this
        exact this)
      subst hcs
      subst hrl
      refine ⟨_, rows, rfl, hlen, ?_, fun r hr => ?_⟩
      · refine ⟨_, _, rfl, hl, by omega, ?_⟩
        have hk : ∀ r ∈ rows, r.length = e.size := fun r hr => by
          obtain ⟨i, hi', rfl⟩ := List.getElem_of_mem hr
          exact (hrs i hi').1
        rcases Nat.eq_zero_or_pos rows.length with h0 | h0
        · left; rw [List.eq_nil_of_length_eq_zero h0]; rfl
        · right
          have hfl := flatten_len hk
          have ha : ∃ v, W.cell? a = some v := by
            have h1 := (hrs 0 h0).2.2 0 (by omega)
            rw [Nat.zero_mul, Nat.zero_add, show a.add 0 = a from by simp [Addr.add]] at h1
            have h2 := (hrs 0 h0).1
            exact ⟨_, h1.trans (List.getElem?_eq_getElem (by omega))⟩
          obtain ⟨v0, ha⟩ := ha
          have hae := add_none ha
          refine ⟨a.block, a.off, by rw [← hae], ?_, fun j u hu => ?_⟩
          · rcases Nat.lt_or_ge a.block W.heap.size with h | h
            · exact h
            · simp [World.cell?, Array.getElem?_eq_none h] at ha
          · rw [← add_at, ← hae]
            have hj : j < rows.length * e.size := by
              have := (List.getElem?_eq_some_iff.1 hu).1; omega
            have hdiv : j / e.size < rows.length := Nat.div_lt_of_lt_mul (by rw [Nat.mul_comm]; exact hj)
            have hmod : j % e.size < e.size := Nat.mod_lt _ (by omega)
            have hdm : j / e.size * e.size + j % e.size = j := by rw [Nat.mul_comm]; exact Nat.div_add_mod j e.size
            have h1 := (hrs (j / e.size) hdiv).2.2 (j % e.size) hmod
            rw [hdm] at h1
            rw [h1, ← flatten_at hk hdiv hmod, hdm]
            exact hu
      · obtain ⟨i, hi', rfl⟩ := List.getElem_of_mem hr
        exact ⟨(hrs i hi').1, (hrs i hi').2.1⟩
  | struct r ih =>
    refine ⟨fun t fuel cs x hf h hz => ?_, fun fs off n cs xs hf => by simp [fits] at hf⟩
    obtain ⟨fs, ht, hr, hc⟩ : ∃ fs, P.underlying t = some (.struct fs) ∧ fits P r (.inr (fs.toList, 0)) = true ∧ P.cellsOf t = r.size := by
      unfold fits at hf
      split at hf
      · rename_i fs hfs
        simp only [Bool.and_eq_true, decide_eq_true_eq] at hf
        exact ⟨fs, hfs, hf.1, hf.2⟩
      · cases hf
    obtain ⟨xs, n, _, rfl, hcl, hxl, hat⟩ := DataW.trod_struct ht h
    have := ih.2 fs.toList 0 n cs xs hr ⟨by simpa using hxl, fun i f hi => hat i f (by simpa using hi)⟩ (fun m hm => hz m (by simpa [DataW.weights, ht] using hm)) (by omega)
    rw [List.drop_zero] at this
    exact this
  | nil =>
    refine ⟨fun t fuel cs x hf => by simp [fits] at hf, fun fs off n cs xs hf _ _ hl => ?_⟩
    show cs.drop off = []
    exact List.drop_eq_nil_of_le (by rw [hl]; simp [Sh.size])
  | seq a r iha ihr =>
    refine ⟨fun t fuel cs x hf => by simp [fits] at hf, fun fs off n cs xs hf hx hz hl => ?_⟩
    match fs, xs, hx, hf, hz with
    | [], _, _, hf, _ => simp [fits] at hf
    | f :: fs, [], hx, _, _ => exact absurd hx.1 (by simp)
    | f :: fs, x :: xs, hx, hf, hz =>
      simp only [fits, Bool.and_eq_true, decide_eq_true_eq] at hf
      obtain ⟨⟨⟨ho, hc⟩, hfa⟩, hfr⟩ := hf
      have h0 := hx.2 0 f rfl
      simp only [List.getElem?_cons_zero] at h0
      rw [ho, hc] at h0
      simp only [Sh.size] at hl
      simp only [List.map_cons, weightsEach_cons, List.mem_append] at hz
      have hA := iha.1 f.type n _ x hfa h0 (fun m hm => hz m (.inl hm))
      have hR := ihr.2 fs (off + a.size) n cs xs hfr ⟨by simpa using hx.1, fun i g hi => by have := hx.2 (i + 1) g (by simpa using hi); simpa using this⟩ (fun m hm => hz m (.inr hm)) (by omega)
      refine ⟨(cs.drop off).take a.size, cs.drop (off + a.size), ?_, by rw [List.length_take, List.length_drop]; omega, hA, hR⟩
      rw [← List.drop_drop, List.take_append_drop]
/-- an argument that is a struct -/
theorem open_struct {W : World} {b0 : Nat} {t : TypeId} {r : Sh} {v : Value} {d : DataW H} {ps : List MemPlace} (hf : fits P (.struct r) (.inl t) = true)
    (hval : Value.okWide P W .any b0 t v) (hd : DataW.Trod enc P W 0 (fun _ => true) true t v d ps) (hz : ∀ n ∈ d.weights P t, n ≤ reachBytes) : ∃ cs : List Value, v = .agg cs.toArray ∧ Rd r W cs := by
  obtain ⟨fs, ht⟩ : ∃ fs, P.underlying t = some (.struct fs) := by
    unfold fits at hf
    split at hf
    · rename_i fs hfs; exact ⟨fs, hfs⟩
    · cases hf
  obtain ⟨cs, rfl, hsz⟩ := okWide_struct ht hval
  obtain ⟨fuel, hx⟩ := hd
  exact ⟨cs.toList, by simp, (rd_of (.struct r)).1 t fuel _ _ hf hx hz⟩
/-- an argument that is a slice -/
theorem open_rows {W : World} {b0 : Nat} {t : TypeId} {e : Sh} {v : Value} {d : DataW H} {ps : List MemPlace} (hf : fits P (.slice e) (.inl t) = true)
    (hval : Value.okWide P W .any b0 t v) (hd : DataW.Trod enc P W 0 (fun _ => true) true t v d ps) (hz : ∀ n ∈ d.weights P t, n ≤ reachBytes) : ∃ rows : List (List Value), rows.length ≤ 140737488355328 ∧ Sl W v rows.length rows.flatten ∧ ∀ r ∈ rows, r.length = e.size ∧ Rd e W r := by
  obtain ⟨e', ht⟩ : ∃ e', P.underlying t = some (.slice e') := by
    unfold fits at hf
    split at hf
    · rename_i e' he'; exact ⟨e', he'⟩
    · cases hf
  obtain ⟨a0, len0, cap0, rfl⟩ := okWide_slice ht hval
  obtain ⟨fuel, hx⟩ := hd
  obtain ⟨v, rows, hv, hl, hs, hr⟩ := (rd_of (.slice e)).1 t fuel _ _ hf hx hz
  simp [Value.cells] at hv
  subst hv
  exact ⟨rows, hl, hs, hr⟩
end
theorem Rd.int_cons {k : IntKind} {r : Sh} {w : World} {cs : List Value} (h : Rd (.seq (.int k) r) w cs) : ∃ x cs', cs = .int k x :: cs' ∧ (Lit.int k x).wf = true ∧ Rd r w cs' := by
  obtain ⟨c1, c2, rfl, _, ⟨x, rfl, hw⟩, h2⟩ := h
  exact ⟨x, c2, rfl, hw, h2⟩
theorem Rd.str_cons {r : Sh} {w : World} {cs : List Value} (h : Rd (.seq .str r) w cs) : ∃ l cs', cs = str l :: cs' ∧ l.length ≤ 140737488355328 ∧ Rd r w cs' := by
  obtain ⟨c1, c2, rfl, _, ⟨x, rfl, hw⟩, h2⟩ := h
  exact ⟨x, c2, rfl, hw, h2⟩
theorem Rd.bool_cons {r : Sh} {w : World} {cs : List Value} (h : Rd (.seq .bool r) w cs) : ∃ b cs', cs = .bool b :: cs' ∧ Rd r w cs' := by
  obtain ⟨c1, c2, rfl, _, ⟨x, rfl⟩, h2⟩ := h
  exact ⟨x, c2, rfl, h2⟩
theorem Rd.slice_cons {e r : Sh} {w : World} {cs : List Value} (h : Rd (.seq (.slice e) r) w cs) : ∃ (v : Value) (rows : List (List Value)) (cs' : List Value), cs = v :: cs' ∧ rows.length ≤ 140737488355328 ∧ Sl w v rows.length rows.flatten ∧ (∀ x ∈ rows, x.length = e.size ∧ Rd e w x) ∧ Rd r w cs' := by
  obtain ⟨c1, c2, rfl, _, ⟨v, rows, rfl, h1, h2, h3⟩, h4⟩ := h
  exact ⟨v, rows, c2, rfl, h1, h2, h3, h4⟩
theorem Rd.struct_cons {a r : Sh} {w : World} {cs : List Value} (h : Rd (.seq (.struct a) r) w cs) : ∃ c1 c2, cs = c1 ++ c2 ∧ c1.length = a.size ∧ Rd a w c1 ∧ Rd r w c2 := h
theorem Rd.nil_eq {w : World} {cs : List Value} (h : Rd .nil w cs) : cs = [] := h
end Go.Proofs.YtnmfmcmokdoieaaGreatDoor
