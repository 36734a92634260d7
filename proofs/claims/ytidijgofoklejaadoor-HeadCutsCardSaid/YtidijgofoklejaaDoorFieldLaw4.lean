/- Plain mathematics of layer 7: the items of values. No conditions. -/
import Derived.Test.YtidijgofoklejaaDoorFieldLaw3
namespace Go.Proofs.YtidijgofoklejaaDoor
/-- a value, cut at its commas that stand in no quoted text -/
def scan (q n : Bool) (item : List UInt8) : List UInt8 → List (List UInt8)
  | [] => [item]
  | c :: t => if c == 44 && !q then item :: scan q n [] t
    else if n then scan q false (item ++ [c]) t else if q && c == 92 then scan q true (item ++ [c]) t else if c == 34 then scan (!q) false (item ++ [c]) t else scan q false (item ++ [c]) t
theorem scan_cons (q n : Bool) (item : List UInt8) (c : UInt8) (t : List UInt8) : scan q n item (c :: t) = if c == 44 && !q then item :: scan q n [] t
    else if n then scan q false (item ++ [c]) t else if q && c == 92 then scan q true (item ++ [c]) t else if c == 34 then scan (!q) false (item ++ [c]) t else scan q false (item ++ [c]) t := rfl
theorem iend_cons (q n : Bool) (c : UInt8) (t : List UInt8) : iend q n (c :: t) = if n then 1 + iend q false t else if q && c == 92 then 1 + iend q true t else if c == 34 then 1 + iend (!q) false t else if c == 44 && !q then 0 else 1 + iend q false t := rfl
theorem scan_iend (l : List UInt8) (q n : Bool) (item : List UInt8) (h : n = true → q = true) :
    scan q n item l = (item ++ l.take (iend q n l)) :: (if iend q n l < l.length then scan false false [] (l.drop (iend q n l + 1)) else []) := by
  induction l generalizing q n item with
  | nil => simp [scan, iend]
  | cons c t ih =>
    rw [scan_cons, iend_cons]
    cases h44 : (c == 44 && !q) with
    | true =>
      simp only [Bool.and_eq_true, beq_iff_eq, Bool.not_eq_true'] at h44
      obtain ⟨rfl, rfl⟩ := h44
      have hn : n = false := by cases n with
        | false => rfl
        | true => simp at h
      subst hn
      simp
    | false =>
      simp only [Bool.false_eq_true, if_false]
      have e1 : ∀ m : Nat, (c :: t).take (1 + m) = c :: t.take m := fun m => by rw [Nat.add_comm]; rfl
      have e2 : ∀ m : Nat, (c :: t).drop (1 + m + 1) = t.drop (m + 1) := fun m => by rw [show 1 + m + 1 = (m + 1) + 1 from by omega]; rfl
      have e3 : ∀ m : Nat, (1 + m < (c :: t).length) = (m < t.length) := fun m => by simp only [List.length_cons, eq_iff_iff]; omega
      split
      · rw [ih q false _ (by simp)]; simp only [e1, e2, e3, List.append_assoc, List.singleton_append]
      · split
        · rename_i hq; rw [ih q true _ (by simp only [Bool.and_eq_true] at hq; exact fun _ => hq.1)]; simp only [e1, e2, e3, List.append_assoc, List.singleton_append]
        · split
          · rw [ih (!q) false _ (by simp)]; simp only [e1, e2, e3, List.append_assoc, List.singleton_append]
          · rw [ih q false _ (by simp)]; simp only [e1, e2, e3, List.append_assoc, List.singleton_append]
/-- the items of a value, trimmed, those that are not empty -/
def itemsV (l : List UInt8) : List (List UInt8) := ((scan false false [] l).map trim).filter (!·.isEmpty)
def itemsAll (vs : List (List UInt8)) : List (List UInt8) := vs.flatMap itemsV
/-- the items from a place on -/
def remI (l : List UInt8) (b : Nat) : List (List UInt8) := if b ≤ l.length then itemsV (l.drop b) else []
theorem remI_zero (l : List UInt8) : remI l 0 = itemsV l := by simp [remI]
theorem remI_past (l : List UInt8) (b : Nat) (h : ¬ b ≤ l.length) : remI l b = [] := by simp [remI, h]
theorem remI_step (l : List UInt8) (b : Nat) (h : b ≤ l.length) : remI l b = (if (trim ((l.drop b).take (iendAt l b - b))).isEmpty then [] else [trim ((l.drop b).take (iendAt l b - b))]) ++ remI l (iendAt l b + 1) := by
  have e : iendAt l b - b = iend false false (l.drop b) := by unfold iendAt; omega
  rw [e]
  unfold remI itemsV
  rw [if_pos h, scan_iend _ _ _ _ (by simp)]
  have hl : (l.drop b).length = l.length - b := List.length_drop
  have hle := iend_le (l.drop b) false false
  have hat : iendAt l b = b + iend false false (l.drop b) := rfl
  by_cases hc : iend false false (l.drop b) < (l.drop b).length
  · have h2 : iendAt l b + 1 ≤ l.length := by omega
    rw [if_pos hc, if_pos h2, hat, List.drop_drop, show b + (iend false false (l.drop b) + 1) = b + iend false false (l.drop b) + 1 from by omega]
    simp only [List.nil_append, List.map_cons, List.filter_cons]
    cases (trim ((l.drop b).take (iend false false (l.drop b)))).isEmpty <;> rfl
  · have h2 : ¬ iendAt l b + 1 ≤ l.length := by omega
    rw [if_neg hc, if_neg h2]
    simp only [List.nil_append, List.map_cons, List.map_nil, List.filter_cons, List.filter_nil]
    cases (trim ((l.drop b).take (iend false false (l.drop b)))).isEmpty <;> rfl
/-- what is told as long as it is asked for -/
def tell (go : List (List UInt8) → List UInt8 → Bool) : List (List UInt8) → List (List UInt8) → List (List UInt8)
  | done, [] => done
  | done, x :: r => if go done x then tell go (done ++ [x]) r else done ++ [x]
theorem tell_all (done l : List (List UInt8)) (N : Nat) (h : done.length + l.length < N) : tell (fun d _ => decide (d.length + 1 < N)) done l = done ++ l := by
  induction l generalizing done with
  | nil => simp [tell]
  | cons x r ih =>
    simp only [List.length_cons] at h
    unfold tell
    rw [if_pos (by simp; omega), ih _ (by simp; omega)]
    simp
theorem tell_some (done l : List (List UInt8)) (N : Nat) (h0 : done.length < N) (h : N ≤ done.length + l.length) : (tell (fun d _ => decide (d.length + 1 < N)) done l).length = N := by
  induction l generalizing done with
  | nil => simp at h; omega
  | cons x r ih =>
    simp only [List.length_cons] at h
    unfold tell
    by_cases hc : done.length + 1 < N
    · rw [if_pos (by simp; omega)]; exact ih _ (by simp; omega) (by simp; omega)
    · rw [if_neg (by simp; omega)]; simp; omega
theorem scan_len (l : List UInt8) (q n : Bool) (item : List UInt8) : (scan q n item l).length ≤ l.length + 1 := by
  induction l generalizing q n item with
  | nil => simp [scan]
  | cons c t ih =>
    rw [scan_cons]
    have h1 := ih q n []
    have h2 := ih q false (item ++ [c])
    have h3 := ih q true (item ++ [c])
    have h4 := ih (!q) false (item ++ [c])
    simp only [List.length_cons]
    split
    · simp only [List.length_cons]; omega
    · split
      · omega
      · split
        · omega
        · split <;> omega
theorem itemsV_len (l : List UInt8) : (itemsV l).length ≤ l.length + 1 := by
  unfold itemsV
  exact Nat.le_trans (List.length_filter_le _ _) (by rw [List.length_map]; exact scan_len l _ _ _)
theorem itemsAll_len (vs : List (List UInt8)) : (itemsAll vs).length ≤ bulk1 vs + vs.length := by
  unfold itemsAll bulk1
  induction vs with
  | nil => simp
  | cons v vs ih =>
    have := itemsV_len v
    simp only [List.flatMap_cons, List.length_append, List.map_cons, List.sum_cons, List.length_cons]; omega
theorem itemsAll_succ (vs : List (List UInt8)) (k : Nat) (h : k < vs.length) : itemsAll (vs.take (k + 1)) = itemsAll (vs.take k) ++ itemsV vs[k] := by
  unfold itemsAll; rw [take_snoc vs k h, List.flatMap_append]; simp
theorem itemsAll_drop (vs : List (List UInt8)) (k : Nat) (h : k < vs.length) : itemsAll (vs.drop k) = itemsV vs[k] ++ itemsAll (vs.drop (k + 1)) := by
  unfold itemsAll; rw [List.drop_eq_getElem_cons h]; rfl
theorem scan_at (q n : Bool) (item : List UInt8) (l : List UInt8) (k : Nat) (h : k < l.length) : scan q n item (l.drop k) = if l[k] == 44 && !q then item :: scan q n [] (l.drop (k + 1))
    else if n then scan q false (item ++ [l[k]]) (l.drop (k + 1)) else if q && l[k] == 92 then scan q true (item ++ [l[k]]) (l.drop (k + 1)) else if l[k] == 34 then scan (!q) false (item ++ [l[k]]) (l.drop (k + 1)) else scan q false (item ++ [l[k]]) (l.drop (k + 1)) := by
  rw [List.drop_eq_getElem_cons h]; rfl
theorem scan_past (q n : Bool) (item : List UInt8) (l : List UInt8) (k : Nat) (h : ¬ k < l.length) : scan q n item (l.drop k) = [item] := by
  rw [List.drop_of_length_le (by omega)]; rfl
end Go.Proofs.YtidijgofoklejaaDoor
