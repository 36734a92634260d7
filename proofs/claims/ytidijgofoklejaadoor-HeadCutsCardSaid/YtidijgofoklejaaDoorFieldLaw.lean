/- Plain mathematics of layer 7 (header fields): no program in sight. No conditions. -/
import Derived.Lib.SlTrimSet
import Derived.Lib.IndexMore
namespace Go.Proofs.YtidijgofoklejaaDoor

theorem bne_true {x y : UInt8} (h : ((x.toNat : Int) != (y.toNat : Int)) = true) : x ≠ y := by
  rintro rfl; simp at h
theorem bne_false {x y : UInt8} (h : ((x.toNat : Int) != (y.toNat : Int)) = false) : x = y := by
  simp at h; exact UInt8.toNat_inj.1 (by omega)
theorem take_snoc {α : Type} (l : List α) (k : Nat) (h : k < l.length) : l.take (k + 1) = l.take k ++ [l[k]] := (List.take_append_getElem h).symm

/-- a letter, small -/
def lowN (c : UInt8) : UInt8 := if 65 ≤ c ∧ c ≤ 90 then c + 32 else c
theorem lowN_up (c : UInt8) (h1 : 65 ≤ (c.toNat : Int)) (h2 : (c.toNat : Int) ≤ 90) : ((c.toNat : Int) + 97 - 65) = ((lowN c).toNat : Int) := by
  have e : 65 ≤ c ∧ c ≤ 90 := by constructor <;> (rw [UInt8.le_iff_toNat_le]; simp; omega)
  unfold lowN; rw [if_pos e, UInt8.toNat_add]; have : (32 : UInt8).toNat = 32 := rfl
  omega
theorem lowN_no (c : UInt8) (h : ¬ (65 ≤ (c.toNat : Int) ∧ (c.toNat : Int) ≤ 90)) : (c.toNat : Int) = ((lowN c).toNat : Int) := by
  have e : ¬ (65 ≤ c ∧ c ≤ 90) := by
    intro e; apply h; obtain ⟨e1, e2⟩ := e; rw [UInt8.le_iff_toNat_le] at e1 e2; simp at e1 e2; omega
  unfold lowN; rw [if_neg e]
def low (l : List UInt8) : List UInt8 := l.map lowN
def alike (a b : List UInt8) : Bool := low a == low b
theorem alike_len {a b : List UInt8} (h : a.length ≠ b.length) : alike a b = false := by
  unfold alike low
  rw [beq_eq_false_iff_ne]; intro e
  have := congrArg List.length e
  simp at this; exact h this
theorem alike_ne {a b : List UInt8} {k : Nat} (ha : k < a.length) (hb : k < b.length) (h : ((((lowN a[k]).toNat : Nat) : Int) != (((lowN b[k]).toNat : Nat) : Int)) = true) : alike a b = false := by
  unfold alike low
  rw [beq_eq_false_iff_ne]; intro e
  have e1 := congrArg (fun l => l[k]?) e
  simp [ha, hb] at e1
  exact bne_true h e1
theorem alike_step {a b : List UInt8} {k : Nat} (ha : k < a.length) (hb : k < b.length) (h : ((((lowN a[k]).toNat : Nat) : Int) != (((lowN b[k]).toNat : Nat) : Int)) = false) (he : low (a.take k) = low (b.take k)) : low (a.take (k + 1)) = low (b.take (k + 1)) := by
  unfold low at *
  rw [take_snoc a k ha, take_snoc b k hb, List.map_append, List.map_append, he, List.map_singleton, List.map_singleton, bne_false h]
theorem alike_end {a b : List UInt8} {k : Nat} (hk : ¬ k < a.length) (hl : a.length = b.length) (he : low (a.take k) = low (b.take k)) : alike a b = true := by
  rw [List.take_of_length_le (by omega), List.take_of_length_le (by omega)] at he
  unfold alike; rw [he]; exact BEq.refl _

/-- a blank or a tab -/
def blk (c : UInt8) : Bool := [32, 9].contains c
theorem blk_iff (c : UInt8) : blk c = true ↔ (c.toNat : Int) = 32 ∨ (c.toNat : Int) = 9 := by
  unfold blk
  simp only [List.contains_cons, List.contains_nil, Bool.or_false, Bool.or_eq_true, beq_iff_eq]
  rw [← UInt8.toNat_inj, ← UInt8.toNat_inj]
  have e1 : (32 : UInt8).toNat = 32 := rfl
  have e2 : (9 : UInt8).toNat = 9 := rfl
  omega
def trimL (l : List UInt8) : List UInt8 := l.dropWhile blk
def trimR (l : List UInt8) : List UInt8 := (l.reverse.dropWhile blk).reverse
def trim (l : List UInt8) : List UInt8 := trimL (trimR l)
theorem trim_lib (l : List UInt8) : Lib.trimS l [32, 9] = trim l := rfl
theorem trimL_nil : trimL [] = [] := rfl
theorem trimR_nil : trimR [] = [] := rfl
theorem trimL_yes {c : UInt8} {t : List UInt8} (h : blk c = true) : trimL (c :: t) = trimL t := by simp [trimL, List.dropWhile, h]
theorem trimL_no {c : UInt8} {t : List UInt8} (h : blk c = false) : trimL (c :: t) = c :: t := by simp [trimL, List.dropWhile, h]
theorem trimR_yes {c : UInt8} {t : List UInt8} (h : blk c = true) : trimR (t ++ [c]) = trimR t := by simp [trimR, h]
theorem trimR_no {c : UInt8} {t : List UInt8} (h : blk c = false) : trimR (t ++ [c]) = t ++ [c] := by simp [trimR, h]
theorem trimR_cons {c : UInt8} {t : List UInt8} (h : blk c = false) : trimR (c :: t) = c :: trimR t := by
  unfold trimR
  rw [List.reverse_cons, List.dropWhile_append]
  split
  · rename_i h1
    simp only [List.isEmpty_iff] at h1
    simp [List.dropWhile, h, h1]
  · simp
theorem trim_comm (l : List UInt8) : trimR (trimL l) = trim l := by
  induction l with
  | nil => rfl
  | cons c t ih =>
    cases h : blk c with
    | true =>
      rw [trimL_yes h, ih]
      unfold trim trimR
      rw [List.reverse_cons, List.dropWhile_append]
      split
      · rename_i h1
        simp only [List.isEmpty_iff] at h1
        simp [trimL, List.dropWhile, h, h1]
      · simp only [List.reverse_append, List.reverse_cons, List.reverse_nil, List.nil_append, List.singleton_append]
        rw [trimL_yes h]
    | false =>
      rw [trimL_no h, trim, trimR_cons h, trimL_no h]
theorem trimR_le (l : List UInt8) : (trimR l).length ≤ l.length := by
  unfold trimR
  rw [List.length_reverse]
  exact Nat.le_trans (List.dropWhile_sublist _).length_le (by simp)
theorem trimL_le (l : List UInt8) : (trimL l).length ≤ l.length := (List.dropWhile_sublist _).length_le
theorem trim_le (l : List UInt8) : (trim l).length ≤ l.length := Nat.le_trans (trimL_le _) (trimR_le _)

/-- a byte of a token -/
def tokB : List UInt8 := [33, 35, 36, 37, 38, 39, 42, 43, 45, 46, 94, 95, 96, 124, 126]
def letterC (c : UInt8) : Bool := (decide (97 ≤ c.toNat) && decide (c.toNat ≤ 122)) || (decide (65 ≤ c.toNat) && decide (c.toNat ≤ 90)) || (decide (48 ≤ c.toNat) && decide (c.toNat ≤ 57))
def tokC (c : UInt8) : Bool := letterC c || tokB.contains c
def token (l : List UInt8) : Bool := !l.isEmpty && l.all tokC
theorem token_nil : token [] = false := rfl
theorem all_take_succ {α : Type} (p : α → Bool) (l : List α) (k : Nat) (h : k < l.length) (hk : (l.take k).all p = true) (hc : p l[k] = true) : (l.take (k + 1)).all p = true := by
  rw [take_snoc l k h, List.all_append, hk]; simp [hc]
theorem all_no {α : Type} (p : α → Bool) (l : List α) (k : Nat) (h : k < l.length) (hc : p l[k] = false) : l.all p = false := by
  rw [List.all_eq_false]; exact ⟨l[k], List.getElem_mem h, by simp [hc]⟩
theorem all_end {α : Type} (p : α → Bool) (l : List α) (k : Nat) (h : ¬ k < l.length) (hk : (l.take k).all p = true) : l.all p = true := by
  rwa [List.take_of_length_le (by omega)] at hk
theorem indexByte_neg (l : List UInt8) (c : UInt8) : (Lib.indexByte l c < 0) ↔ l.contains c = false := by
  induction l with
  | nil => simp [Lib.indexByte]
  | cons b l ih =>
    unfold Lib.indexByte
    have hg := Lib.indexByte_ge l c
    by_cases h : b = c
    · subst h; simp
    · have h1 : (b == c) = false := by simp [h]
      have h2 : (c == b) = false := by simp; exact fun e => h e.symm
      rw [h1, List.contains_cons, h2, Bool.false_or]
      simp only [Bool.false_eq_true, if_false]
      split
      · rename_i h3; simp only [beq_iff_eq] at h3; rw [← ih]; omega
      · rename_i h3; simp only [beq_iff_eq] at h3; rw [← ih]; omega
theorem tokC_letter (c : UInt8) (h : (97 ≤ (c.toNat : Int) ∧ (c.toNat : Int) ≤ 122) ∨ (65 ≤ (c.toNat : Int) ∧ (c.toNat : Int) ≤ 90) ∨ (48 ≤ (c.toNat : Int) ∧ (c.toNat : Int) ≤ 57)) : letterC c = true := by
  unfold letterC; simp only [Bool.or_eq_true, Bool.and_eq_true, decide_eq_true_eq]; omega
theorem letterC_no (c : UInt8) (h : ¬ ((97 ≤ (c.toNat : Int) ∧ (c.toNat : Int) ≤ 122) ∨ (65 ≤ (c.toNat : Int) ∧ (c.toNat : Int) ≤ 90) ∨ (48 ≤ (c.toNat : Int) ∧ (c.toNat : Int) ≤ 57))) : letterC c = false := by
  unfold letterC; rw [Bool.eq_false_iff]; simp only [ne_eq, Bool.or_eq_true, Bool.and_eq_true, decide_eq_true_eq]; omega
theorem tokC_of_letter {c : UInt8} (h : letterC c = true) : tokC c = true := by simp [tokC, h]
theorem tokC_of_sign {c : UInt8} (h : ¬ Lib.indexByte tokB c < 0) : tokC c = true := by
  rw [indexByte_neg] at h; simp only [Bool.not_eq_false] at h; simp only [tokC, h, Bool.or_true]
theorem tokC_no {c : UInt8} (h1 : letterC c = false) (h : Lib.indexByte tokB c < 0) : tokC c = false := by
  rw [indexByte_neg] at h; simp only [tokC, h1, h, Bool.or_false]
theorem token_no {l : List UInt8} {k : Nat} (h : k < l.length) (hc : tokC l[k] = false) : token l = false := by
  unfold token; rw [all_no tokC l k h hc, Bool.and_false]
theorem token_yes {l : List UInt8} {k : Nat} (h0 : 0 < l.length) (h : ¬ k < l.length) (hk : (l.take k).all tokC = true) : token l = true := by
  unfold token; rw [all_end tokC l k h hk]; cases l <;> simp at *

/-- the place of the first D A -/
def crlf : List UInt8 → Option Nat
  | [] => none
  | a :: l => if a == 13 && l.head? == some 10 then some 0 else (crlf l).map (· + 1)
theorem crlf_lib (l : List UInt8) : Lib.index l [13, 10] = match crlf l with | none => -1 | some k => (k : Int) := by
  induction l with
  | nil => rfl
  | cons a l ih =>
    unfold Lib.index crlf
    have e : ([13, 10] : List UInt8).isPrefixOf (a :: l) = (a == 13 && l.head? == some 10) := by
      cases l with
      | nil => simp [List.isPrefixOf]
      | cons b l => simp only [List.isPrefixOf, List.head?_cons, Bool.and_true, Option.some_beq_some]; rw [BEq.comm (a := (13 : UInt8)), BEq.comm (a := (10 : UInt8))]
    rw [e]
    split
    · simp
    · rw [ih]
      cases crlf l with
      | none => simp
      | some k =>
        have : ((k : Int) == -1) = false := by rw [beq_eq_false_iff_ne]; omega
        simp [this]
theorem crlf_lt {l : List UInt8} {k : Nat} (h : crlf l = some k) : k + 1 < l.length := by
  induction l generalizing k with
  | nil => cases h
  | cons a l ih =>
    unfold crlf at h
    split at h
    · rename_i h1
      simp only [Option.some.injEq] at h
      cases l with
      | nil => simp at h1
      | cons b l => simp; omega
    · cases hc : crlf l with
      | none => rw [hc] at h; cases h
      | some j =>
        rw [hc] at h; simp only [Option.map_some, Option.some.injEq] at h
        have := ih hc; simp only [List.length_cons]; omega
def lineAt (l : List UInt8) (at_ : Nat) : Int := match crlf (l.drop at_) with | none => -1 | some k => ((at_ + k : Nat) : Int)
theorem lineAt_hit {l : List UInt8} {k : Nat} (h : k + 1 < l.length) (h1 : (l[k].toNat : Int) = 13) (h2 : (l[k + 1].toNat : Int) = 10) : lineAt l k = k := by
  have e1 : l[k] = 13 := UInt8.toNat_inj.1 (by have : (13 : UInt8).toNat = 13 := rfl
                                               omega)
  have e2 : l[k + 1] = 10 := UInt8.toNat_inj.1 (by have : (10 : UInt8).toNat = 10 := rfl
                                                   omega)
  unfold lineAt
  rw [List.drop_eq_getElem_cons (by omega : k < l.length), List.drop_eq_getElem_cons h, e1, e2]
  rfl
theorem lineAt_miss {l : List UInt8} {k : Nat} (h : k + 1 < l.length) (h1 : ¬ ((l[k].toNat : Int) = 13 ∧ (l[k + 1].toNat : Int) = 10)) : lineAt l (k + 1) = lineAt l k := by
  have e : (l[k] == 13 && (l.drop (k + 1)).head? == some 10) = false := by
    rw [List.drop_eq_getElem_cons h, List.head?_cons]
    rw [Bool.eq_false_iff]
    intro e
    simp only [Bool.and_eq_true, beq_iff_eq, Option.some.injEq] at e
    rw [e.1, e.2] at h1
    exact h1 ⟨rfl, rfl⟩
  unfold lineAt
  rw [List.drop_eq_getElem_cons (by omega : k < l.length)]
  conv => rhs; unfold crlf
  rw [e]
  simp only [Bool.false_eq_true, if_false]
  cases crlf (l.drop (k + 1)) with
  | none => rfl
  | some j => simp only [Option.map_some]; congr 1; omega
theorem lineAt_end {l : List UInt8} {k : Nat} (h : ¬ k + 1 < l.length) : lineAt l k = -1 := by
  unfold lineAt
  cases hc : crlf (l.drop k) with
  | none => rfl
  | some j => have := crlf_lt hc; rw [List.length_drop] at this; omega

/-- how far an item reaches: q: in a quoted text; n: the next byte is as it is -/
def iend (q n : Bool) : List UInt8 → Nat
  | [] => 0
  | c :: t => if n then 1 + iend q false t else if q && c == 92 then 1 + iend q true t else if c == 34 then 1 + iend (!q) false t else if c == 44 && !q then 0 else 1 + iend q false t
theorem iend_le (l : List UInt8) (q n : Bool) : iend q n l ≤ l.length := by
  induction l generalizing q n with
  | nil => simp [iend]
  | cons c t ih =>
    have h1 := ih q false
    have h2 := ih q true
    have h3 := ih (!q) false
    unfold iend
    simp only [List.length_cons]
    split
    · omega
    · split
      · omega
      · split
        · omega
        · split <;> omega
/-- where the item that begins at a place ends -/
def iendAt (l : List UInt8) (k : Nat) : Nat := k + iend false false (l.drop k)
theorem iend_at (l : List UInt8) (q n : Bool) (k : Nat) (h : k < l.length) : iend q n (l.drop k) = if n then 1 + iend q false (l.drop (k + 1)) else if q && l[k] == 92 then 1 + iend q true (l.drop (k + 1)) else if l[k] == 34 then 1 + iend (!q) false (l.drop (k + 1)) else if l[k] == 44 && !q then 0 else 1 + iend q false (l.drop (k + 1)) := by
  rw [List.drop_eq_getElem_cons h]; rfl
theorem iend_past (l : List UInt8) (q n : Bool) (k : Nat) (h : l.length ≤ k) : iend q n (l.drop k) = 0 := by
  rw [List.drop_of_length_le h]; rfl
theorem iendAt_le (l : List UInt8) (k : Nat) (h : k ≤ l.length) : iendAt l k ≤ l.length := by
  have := iend_le (l.drop k) false false
  rw [List.length_drop] at this; unfold iendAt; omega
theorem u8_eq {c : UInt8} {n : Nat} (hn : n < 256) : (c == UInt8.ofNat n) = ((c.toNat : Int) == (n : Int)) := by
  rw [Bool.eq_iff_iff]
  simp only [beq_iff_eq]
  rw [← UInt8.toNat_inj, UInt8.toNat_ofNat']
  omega
theorem contains_take_succ (l : List UInt8) (j : Nat) (h : j < l.length) (c : UInt8) : (l.take (j + 1)).contains c = ((l.take j).contains c || ((c.toNat : Int) == (l[j].toNat : Int))) := by
  rw [take_snoc l j h, List.contains_append]
  congr 1
  rw [Bool.eq_iff_iff]
  simp only [List.contains_cons, List.contains_nil, Bool.or_false, beq_iff_eq]
  rw [← UInt8.toNat_inj]; omega
theorem low_len (l : List UInt8) : (low l).length = l.length := by simp [low]
/-- a byte that may stand in a value -/
def visC (c : UInt8) : Bool := (decide (32 ≤ c.toNat) && decide (c.toNat ≤ 126)) || c.toNat == 9
theorem visC_yes (c : UInt8) (h : (32 ≤ (c.toNat : Int) ∧ (c.toNat : Int) ≤ 126) ∨ (c.toNat : Int) = 9) : visC c = true := by
  unfold visC; simp only [Bool.or_eq_true, Bool.and_eq_true, decide_eq_true_eq, beq_iff_eq]; omega
theorem visC_no (c : UInt8) (h : ¬ ((32 ≤ (c.toNat : Int) ∧ (c.toNat : Int) ≤ 126) ∨ (c.toNat : Int) = 9)) : visC c = false := by
  unfold visC; rw [Bool.eq_false_iff]; simp only [ne_eq, Bool.or_eq_true, Bool.and_eq_true, decide_eq_true_eq, beq_iff_eq]; omega
/-- may a field be? -/
def right (f : List UInt8 × List UInt8) : Bool := token f.1 && decide (f.1.length ≤ 200) && decide (f.2.length ≤ 8192) && (trim f.2 == f.2) && f.2.all visC
theorem right_head {n v : List UInt8} (h : ¬ (token n = true ∧ n.length ≤ 200 ∧ v.length ≤ 8192 ∧ (trim v == v) = true)) : right (n, v) = false := by
  rw [Bool.eq_false_iff]; intro hr
  unfold right at hr
  simp only [Bool.and_eq_true, decide_eq_true_eq] at hr
  exact h ⟨hr.1.1.1.1, hr.1.1.1.2, hr.1.1.2, hr.1.2⟩
theorem right_rest {n v : List UInt8} (h1 : token n = true) (h2 : n.length ≤ 200) (h3 : v.length ≤ 8192) (h4 : (trim v == v) = true) : right (n, v) = v.all visC := by
  unfold right; simp [h1, h2, h3, h4]
end Go.Proofs.YtidijgofoklejaaDoor
