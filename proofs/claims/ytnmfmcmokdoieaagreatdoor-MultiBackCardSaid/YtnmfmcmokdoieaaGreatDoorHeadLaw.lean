/- Plain mathematics of layer 12: the first line of a head, a request's, an answer's. No conditions. -/
import Derived.Test.YtnmfmcmokdoieaaGreatDoorJLawA
import Derived.Test.YtnmfmcmokdoieaaGreatDoorBase
set_option linter.unusedVariables false
set_option linter.unusedSimpArgs false
namespace Go.Proofs.YtnmfmcmokdoieaaGreatDoor
/-- method, object, status, fields -/
abbrev HeadT := List UInt8 × List UInt8 × Int × List Fld
def noHead : HeadT := ([], [], 0, [])
def httpB : List UInt8 := [72, 84, 84, 80, 47, 49, 46, 49]
def getB : List UInt8 := [71, 69, 84]
def headB : List UInt8 := [72, 69, 65, 68]
/-- the first line, how many bytes it has with its end, what is wrong -/
def firstL (s : List UInt8) : List UInt8 × Nat × Nat := match crlf s with
  | none => if s.length ≤ 400 then ([], 0, 3) else ([], 0, 2)
  | some i => if 400 < i then ([], 0, 2) else (s.take i, i + 2, 0)
theorem firstL_bad {s : List UInt8} {e : Nat} (h : (firstL s).2.2 = e) (he : e ≠ 0) : firstL s = ([], 0, e) := by
  unfold firstL at *
  cases hc : crlf s with
  | none =>
    rw [hc] at h; simp only at h ⊢
    by_cases hl : s.length ≤ 400
    · rw [if_pos hl] at h ⊢; simp only at h; rw [h]
    · rw [if_neg hl] at h ⊢; simp only at h; rw [h]
  | some i =>
    rw [hc] at h; simp only at h ⊢
    by_cases hl : 400 < i
    · rw [if_pos hl] at h ⊢; simp only at h; rw [h]
    · rw [if_neg hl] at h; simp only at h; exact absurd h.symm he
theorem firstL_ok {s : List UInt8} (h : (firstL s).2.2 = 0) : ∃ i, crlf s = some i ∧ i ≤ 400 ∧ firstL s = (s.take i, i + 2, 0) := by
  unfold firstL at *
  split at h
  · split at h <;> simp at h
  · rename_i i hi
    split at h
    · simp at h
    · exact ⟨i, hi, by omega, by rw [if_neg (by assumption)]⟩
/-- a byte of an object's name -/
def objC (c : UInt8) : Bool := decide (33 ≤ c.toNat) && decide (c.toNat ≤ 126)
theorem objC_yes (c : UInt8) (h : 33 ≤ (c.toNat : Int) ∧ (c.toNat : Int) ≤ 126) : objC c = true := by unfold objC; simp; omega
theorem objC_no (c : UInt8) (h : ¬ (33 ≤ (c.toNat : Int) ∧ (c.toNat : Int) ≤ 126)) : objC c = false := by unfold objC; simp; omega
def objB : List UInt8 → Bool
  | [] => false
  | c :: t => decide (t.length < 200) && (c == 47) && (c :: t).all objC
theorem objB_cons (c : UInt8) (t : List UInt8) : objB (c :: t) = (decide (t.length < 200) && (c == 47) && (c :: t).all objC) := rfl
theorem objB_nil : objB [] = false := rfl
theorem objB_long {l : List UInt8} (h : 200 < l.length) : objB l = false := by
  cases l with
  | nil => rfl
  | cons c t => rw [objB_cons]; simp at h; simp; omega
theorem objB_first {l : List UInt8} (h0 : 0 < l.length) (h : (l[0].toNat : Int) ≠ 47) : objB l = false := by
  cases l with
  | nil => rfl
  | cons c t =>
    have hc : (c == 47) = false := by rw [beq_eq_false_iff_ne]; rintro rfl; exact h rfl
    rw [objB_cons, hc]; simp
theorem objB_rest {l : List UInt8} (h0 : 0 < l.length) (hl : l.length ≤ 200) (h : (l[0].toNat : Int) = 47) : objB l = l.all objC := by
  cases l with
  | nil => simp at h0
  | cons c t =>
    have hc : (c == 47) = true := by
      rw [beq_iff_eq]; apply UInt8.toNat_inj.1; simp only [List.getElem_cons_zero] at h; show c.toNat = 47; omega
    rw [objB_cons, hc]; simp at hl; simp; omega
/-- a digit -/
def digC (c : UInt8) : Bool := decide (48 ≤ c.toNat) && decide (c.toNat ≤ 57)
theorem digC_yes (c : UInt8) (h : 48 ≤ (c.toNat : Int) ∧ (c.toNat : Int) ≤ 57) : digC c = true := by unfold digC; simp; omega
theorem digC_no (c : UInt8) (h : ¬ (48 ≤ (c.toNat : Int) ∧ (c.toNat : Int) ≤ 57)) : digC c = false := by unfold digC; simp; omega
/-- the number of digits -/
def numB (l : List UInt8) : Nat := l.foldl (fun n c => n * 10 + (c.toNat - 48)) 0
theorem numB_snoc (l : List UInt8) (c : UInt8) : numB (l ++ [c]) = numB l * 10 + (c.toNat - 48) := by unfold numB; rw [List.foldl_append]; rfl
theorem numB_succ (l : List UInt8) (k : Nat) (h : k < l.length) : numB (l.take (k + 1)) = numB (l.take k) * 10 + (l[k].toNat - 48) := by rw [take_snoc l k h, numB_snoc]
theorem numB_lt (l : List UInt8) (h : l.all digC = true) : numB l < 10 ^ l.length := by
  have key : ∀ n (l : List UInt8), l.length = n → l.all digC = true → numB l < 10 ^ l.length := by
    intro n
    induction n with
    | zero => intro l hl _; rw [List.eq_nil_of_length_eq_zero hl]; decide
    | succ n ih =>
      intro l hl h
      rcases nil_or_snoc l with rfl | ⟨t, c, rfl⟩
      · simp at hl
      · rw [List.all_append, Bool.and_eq_true] at h
        have h2 : c.toNat ≤ 57 := by have := h.2; simp [digC] at this; omega
        have := ih t (by simpa using hl) h.1
        rw [numB_snoc, List.length_append, List.length_singleton, Nat.pow_succ]
        omega
  exact key _ l rfl h
/-- the status of what stands behind the protocol -/
def statR (r : List UInt8) : Option Nat :=
  if 3 ≤ r.length ∧ (r.take 3).all digC = true ∧ (r.drop 3).all visC = true ∧ (r.length = 3 ∨ r[3]? = some 32) ∧ 100 ≤ numB (r.take 3) ∧ numB (r.take 3) ≤ 599 then some (numB (r.take 3)) else none
def tellN (x : List UInt8) : Option Nat := if (httpB ++ [32]).isPrefixOf x then statR (x.drop 9) else none
/-- fields behind a line -/
def restL (m o : List UInt8) (st : Int) (s : List UInt8) (n : Nat) : HeadT × Nat × Nat :=
  let p := parse (s.drop n)
  if p.2.2 = 0 then ((m, o, st, p.1), n + p.2.1, 0) else (noHead, 0, p.2.2)
def tellR (s : List UInt8) : HeadT × Nat × Nat :=
  if (firstL s).2.2 = 0 then
    match tellN (firstL s).1 with
    | none => (noHead, 0, 2)
    | some n => restL [] [] n s (firstL s).2.1
  else (noHead, 0, (firstL s).2.2)
/-- is a line a request's, of this method? -/
def askM (m x : List UInt8) : Bool := decide (m.length + 10 < x.length) && (x.take (m.length + 1) == m ++ [32]) && (x.drop (x.length - 9) == 32 :: httpB) && objB ((x.drop (m.length + 1)).take (x.length - 9 - (m.length + 1)))
def askO (m x : List UInt8) : List UInt8 := (x.drop (m.length + 1)).take (x.length - 9 - (m.length + 1))
def askN (x : List UInt8) : Option (List UInt8 × List UInt8) := if askM getB x then some (getB, askO getB x) else if askM headB x then some (headB, askO headB x) else none
def askR (s : List UInt8) : HeadT × Nat × Nat :=
  if (firstL s).2.2 = 0 then
    match askN (firstL s).1 with
    | none => (noHead, 0, 2)
    | some p => restL p.1 p.2 0 s (firstL s).2.1
  else (noHead, 0, (firstL s).2.2)
/-- a status, told -/
def reason (n : Int) : List UInt8 :=
  if n = 200 then [79, 75] else if n = 206 then [80, 97, 114, 116, 105, 97, 108, 32, 67, 111, 110, 116, 101, 110, 116] else
  if n = 304 then [78, 111, 116, 32, 77, 111, 100, 105, 102, 105, 101, 100] else if n = 400 then [66, 97, 100, 32, 82, 101, 113, 117, 101, 115, 116] else
  if n = 404 then [78, 111, 116, 32, 70, 111, 117, 110, 100] else if n = 412 then [80, 114, 101, 99, 111, 110, 100, 105, 116, 105, 111, 110, 32, 70, 97, 105, 108, 101, 100] else
  if n = 416 then [82, 97, 110, 103, 101, 32, 78, 111, 116, 32, 83, 97, 116, 105, 115, 102, 105, 97, 98, 108, 101] else
  if n = 500 then [73, 110, 116, 101, 114, 110, 97, 108, 32, 83, 101, 114, 118, 101, 114, 32, 69, 114, 114, 111, 114] else if n = 502 then [66, 97, 100, 32, 71, 97, 116, 101, 119, 97, 121] else [79, 116, 104, 101, 114]
/-- a text cut at its first byte of a kind -/
def cutB (b : UInt8) : List UInt8 → Option (List UInt8 × List UInt8)
  | [] => none
  | c :: t => if c == b then some ([], t) else (cutB b t).map fun p => (c :: p.1, p.2)
theorem cutB_spec (b : UInt8) : ∀ l : List UInt8, match cutB b l with | none => Lib.index l [b] = -1 ∧ b ∉ l | some p => Lib.index l [b] = (p.1.length : Int) ∧ l = p.1 ++ b :: p.2 ∧ b ∉ p.1 := by
  intro l
  induction l with
  | nil => exact ⟨rfl, by simp⟩
  | cons c t ih =>
    unfold cutB Lib.index
    have e : ([b] : List UInt8).isPrefixOf (c :: t) = (c == b) := by
      simp only [List.isPrefixOf, Bool.and_true]; rw [BEq.comm]
    rw [e]
    cases hc : (c == b) with
    | true => simp only [beq_iff_eq] at hc; subst hc; simp
    | false =>
      have hcb : b ≠ c := by rintro rfl; simp at hc
      cases h : cutB b t with
      | none => rw [h] at ih; simp [ih, hcb]
      | some p =>
        rw [h] at ih
        obtain ⟨h1, h2, h3⟩ := ih
        have : ((p.1.length : Int) == -1) = false := by rw [beq_eq_false_iff_ne]; omega
        simp only [Option.map_some, Bool.false_eq_true, if_false, h1, this, List.length_cons, List.cons_append]
        exact ⟨by omega, by rw [← h2], by simp [hcb, h3]⟩
theorem cutB_lib (b : UInt8) (l : List UInt8) : Lib.cut l [b] = match cutB b l with | none => (l, [], false) | some p => (p.1, p.2, true) := by
  have := cutB_spec b l
  unfold Lib.cut
  cases h : cutB b l with
  | none => rw [h] at this; simp only at this; rw [this.1]; rfl
  | some p =>
    rw [h] at this
    obtain ⟨h1, h2, _⟩ := this
    rw [h1]
    have h3 : (0 : Int) ≤ (p.1.length : Int) := by omega
    rw [if_pos h3]
    simp only [Int.toNat_natCast, List.length_singleton]
    conv => lhs; rw [h2]
    simp
/-- what the program asks of a line: the method up to the first blank, the protocol at the end -/
def askP (x : List UInt8) : Option (List UInt8 × List UInt8) :=
  let c := Lib.cut x [32]
  if Lib.hasSuffix c.2.1 (32 :: httpB) && ((c.1 == getB || c.1 == headB) && objB (Lib.trimSuffix c.2.1 (32 :: httpB))) then some (c.1, Lib.trimSuffix c.2.1 (32 :: httpB)) else none
theorem askM_iff (m x : List UInt8) (_hm : 32 ∉ m) : (askM m x = true) ↔ ∃ o, objB o = true ∧ x = m ++ 32 :: (o ++ 32 :: httpB) := by
  constructor
  · intro h
    unfold askM at h
    simp only [Bool.and_eq_true, decide_eq_true_eq, beq_iff_eq] at h
    obtain ⟨⟨⟨h1, h2⟩, h3⟩, h4⟩ := h
    refine ⟨_, h4, ?_⟩
    have e1 : x = x.take (m.length + 1) ++ ((x.drop (m.length + 1)).take (x.length - 9 - (m.length + 1)) ++ x.drop (x.length - 9)) := by
      have : x.drop (x.length - 9) = (x.drop (m.length + 1)).drop (x.length - 9 - (m.length + 1)) := by rw [List.drop_drop]; congr 1; omega
      rw [this, List.take_append_drop, List.take_append_drop]
    conv => lhs; rw [e1, h2, h3]
    simp
  · rintro ⟨o, ho, rfl⟩
    have hl : 0 < o.length := by cases o with | nil => cases ho | cons => simp
    have hx : (m ++ 32 :: (o ++ 32 :: httpB)).length = m.length + 1 + o.length + 9 := by simp [httpB]; omega
    unfold askM
    simp only [Bool.and_eq_true, decide_eq_true_eq, beq_iff_eq]
    have e0 : m ++ 32 :: (o ++ 32 :: httpB) = (m ++ [32]) ++ (o ++ 32 :: httpB) := by simp
    have e1 : m ++ 32 :: (o ++ 32 :: httpB) = ((m ++ [32]) ++ o) ++ 32 :: httpB := by simp
    have l0 : (m ++ [32]).length = m.length + 1 := by simp
    have l1 : ((m ++ [32]) ++ o).length = m.length + 1 + o.length := by simp; omega
    refine ⟨⟨⟨by omega, ?_⟩, ?_⟩, ?_⟩
    · rw [e0, ← l0, List.take_left]
    · rw [hx, show m.length + 1 + o.length + 9 - 9 = ((m ++ [32]) ++ o).length by rw [l1]; omega, e1, List.drop_left]
    · rw [hx, e0, ← l0, List.drop_left, l0, show m.length + 1 + o.length + 9 - 9 - (m.length + 1) = o.length by omega, List.take_left]; exact ho
theorem askO_of (m o : List UInt8) : askO m (m ++ 32 :: (o ++ 32 :: httpB)) = o := by
  have hx : (m ++ 32 :: (o ++ 32 :: httpB)).length = m.length + 1 + o.length + 9 := by simp [httpB]; omega
  have e0 : m ++ 32 :: (o ++ 32 :: httpB) = (m ++ [32]) ++ (o ++ 32 :: httpB) := by simp
  have l0 : (m ++ [32]).length = m.length + 1 := by simp
  unfold askO
  rw [hx, e0, ← l0, List.drop_left, l0, show m.length + 1 + o.length + 9 - 9 - (m.length + 1) = o.length by omega, List.take_left]
theorem cutB_of (b : UInt8) (m t : List UInt8) (h : b ∉ m) : cutB b (m ++ b :: t) = some (m, t) := by
  induction m with
  | nil => simp [cutB]
  | cons c m ih =>
    simp only [List.mem_cons, not_or] at h
    have hc : (c == b) = false := by rw [beq_eq_false_iff_ne]; exact fun e => h.1 e.symm
    rw [List.cons_append]; unfold cutB
    rw [hc, ih h.2]; rfl
theorem cut_of (b : UInt8) (m t : List UInt8) (h : b ∉ m) : Lib.cut (m ++ b :: t) [b] = (m, t, true) := by rw [cutB_lib, cutB_of b m t h]
theorem suf_of (o p : List UInt8) : Lib.hasSuffix (o ++ p) p = true ∧ Lib.trimSuffix (o ++ p) p = o := by
  have h : Lib.hasSuffix (o ++ p) p = true := by unfold Lib.hasSuffix; rw [List.isSuffixOf_iff_suffix]; exact ⟨o, rfl⟩
  refine ⟨h, ?_⟩
  unfold Lib.trimSuffix; rw [h, if_pos rfl]; simp
theorem suf_eq {r p : List UInt8} (h : Lib.hasSuffix r p = true) : r = Lib.trimSuffix r p ++ p := by
  have h' := h
  unfold Lib.hasSuffix at h; rw [List.isSuffixOf_iff_suffix] at h
  obtain ⟨o, rfl⟩ := h
  rw [(suf_of o p).2]
theorem askP_of (m o : List UInt8) (hm : m = getB ∨ m = headB) (ho : objB o = true) : askP (m ++ 32 :: (o ++ 32 :: httpB)) = some (m, o) := by
  have h32 : 32 ∉ m := by rcases hm with rfl | rfl <;> decide
  unfold askP
  rw [cut_of 32 m _ h32]
  simp only [(suf_of o (32 :: httpB)).1, (suf_of o (32 :: httpB)).2, ho]
  rcases hm with rfl | rfl <;> rfl
theorem askP_eq (x : List UInt8) : askP x = askN x := by
  unfold askN
  by_cases h1 : askM getB x = true
  · obtain ⟨o, ho, rfl⟩ := (askM_iff getB x (by decide)).1 h1
    rw [if_pos h1, askP_of _ _ (.inl rfl) ho, askO_of]
  · rw [if_neg h1]
    by_cases h2 : askM headB x = true
    · obtain ⟨o, ho, rfl⟩ := (askM_iff headB x (by decide)).1 h2
      rw [if_pos h2, askP_of _ _ (.inr rfl) ho, askO_of]
    · rw [if_neg h2]
      unfold askP
      simp only
      split
      · rename_i h
        exfalso
        simp only [Bool.and_eq_true, Bool.or_eq_true, beq_iff_eq] at h
        obtain ⟨hs, hm, ho⟩ := h
        have hr := suf_eq hs
        have hc := cutB_lib 32 x
        have hsp := cutB_spec 32 x
        cases hcb : cutB 32 x with
        | none => rw [hcb] at hc; simp only at hc; rw [hc] at hs; exact absurd (show Lib.hasSuffix [] (32 :: httpB) = true from hs) (by decide)
        | some p =>
          rw [hcb] at hc hsp
          simp only at hc hsp
          rw [hc] at hr ho hm
          simp only at hr ho hm
          have hx : x = p.1 ++ 32 :: (Lib.trimSuffix p.2 (32 :: httpB) ++ 32 :: httpB) := by rw [← hr]; exact hsp.2.1
          rcases hm with hm | hm
          · exact h1 ((askM_iff getB x (by decide)).2 ⟨_, ho, by rw [← hm]; exact hx⟩)
          · exact h2 ((askM_iff headB x (by decide)).2 ⟨_, ho, by rw [← hm]; exact hx⟩)
      · rfl
end Go.Proofs.YtnmfmcmokdoieaaGreatDoor
