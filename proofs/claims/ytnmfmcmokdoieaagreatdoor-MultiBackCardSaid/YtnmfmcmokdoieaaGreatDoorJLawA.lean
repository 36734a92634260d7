/- Several texts in one (their own heads say what each is). No conditions but those that each theorem names. -/
import Derived.Lib.SlTrimSet
import Derived.Lib.IndexMore
set_option linter.unusedVariables false
set_option linter.unusedSimpArgs false
/- XFieldLaw -/
namespace Go.Proofs.YtnmfmcmokdoieaaGreatDoor

theorem bne_true {x y : UInt8} (h : ((x.toNat : Int) != (y.toNat : Int)) = true) : x ≠ y := by
  rintro rfl; simp at h
theorem bne_false {x y : UInt8} (h : ((x.toNat : Int) != (y.toNat : Int)) = false) : x = y := by
  simp at h; exact UInt8.toNat_inj.1 (by omega)
theorem take_snoc {α : Type} (l : List α) (k : Nat) (h : k < l.length) : l.take (k + 1) = l.take k ++ [l[k]] := (List.take_append_getElem h).symm

/-- a letter, small -/
def lowN (c : UInt8) : UInt8 := if 65 ≤ c ∧ c ≤ 90 then c + 32 else c
theorem lowN_up (c : UInt8) (h1 : 65 ≤ (c.toNat : Int)) (h2 : (c.toNat : Int) ≤ 90) : ((c.toNat : Int) + 97 - 65) = ((lowN c).toNat : Int) := by
  have e : 65 ≤ c ∧ c ≤ 90 := by constructor <;> (rw [UInt8.le_iff_toNat_le]; simp; omega)
  unfold lowN; rw [if_pos e, UInt8.toNat_add]; have : (32 : UInt8).toNat = 32 := rfl
  omega
theorem lowN_no (c : UInt8) (h : ¬ (65 ≤ (c.toNat : Int) ∧ (c.toNat : Int) ≤ 90)) : (c.toNat : Int) = ((lowN c).toNat : Int) := by
  have e : ¬ (65 ≤ c ∧ c ≤ 90) := by
    intro e; apply h; obtain ⟨e1, e2⟩ := e; rw [UInt8.le_iff_toNat_le] at e1 e2; simp at e1 e2; omega
  unfold lowN; rw [if_neg e]
def low (l : List UInt8) : List UInt8 := l.map lowN
def alike (a b : List UInt8) : Bool := low a == low b
theorem alike_len {a b : List UInt8} (h : a.length ≠ b.length) : alike a b = false := by
  unfold alike low
  rw [beq_eq_false_iff_ne]; intro e
  have := congrArg List.length e
  simp at this; exact h this
theorem alike_ne {a b : List UInt8} {k : Nat} (ha : k < a.length) (hb : k < b.length) (h : ((((lowN a[k]).toNat : Nat) : Int) != (((lowN b[k]).toNat : Nat) : Int)) = true) : alike a b = false := by
  unfold alike low
  rw [beq_eq_false_iff_ne]; intro e
  have e1 := congrArg (fun l => l[k]?) e
  simp [ha, hb] at e1
  exact bne_true h e1
theorem alike_step {a b : List UInt8} {k : Nat} (ha : k < a.length) (hb : k < b.length) (h : ((((lowN a[k]).toNat : Nat) : Int) != (((lowN b[k]).toNat : Nat) : Int)) = false) (he : low (a.take k) = low (b.take k)) : low (a.take (k + 1)) = low (b.take (k + 1)) := by
  unfold low at *
  rw [take_snoc a k ha, take_snoc b k hb, List.map_append, List.map_append, he, List.map_singleton, List.map_singleton, bne_false h]
theorem alike_end {a b : List UInt8} {k : Nat} (hk : ¬ k < a.length) (hl : a.length = b.length) (he : low (a.take k) = low (b.take k)) : alike a b = true := by
  rw [List.take_of_length_le (by omega), List.take_of_length_le (by omega)] at he
  unfold alike; rw [he]; exact BEq.refl _

/-- a blank or a tab -/
def blk (c : UInt8) : Bool := [32, 9].contains c
theorem blk_iff (c : UInt8) : blk c = true ↔ (c.toNat : Int) = 32 ∨ (c.toNat : Int) = 9 := by
  unfold blk
  simp only [List.contains_cons, List.contains_nil, Bool.or_false, Bool.or_eq_true, beq_iff_eq]
  rw [← UInt8.toNat_inj, ← UInt8.toNat_inj]
  have e1 : (32 : UInt8).toNat = 32 := rfl
  have e2 : (9 : UInt8).toNat = 9 := rfl
  omega
def trimL (l : List UInt8) : List UInt8 := l.dropWhile blk
def trimR (l : List UInt8) : List UInt8 := (l.reverse.dropWhile blk).reverse
def trim (l : List UInt8) : List UInt8 := trimL (trimR l)
theorem trim_lib (l : List UInt8) : Lib.trimS l [32, 9] = trim l := rfl
theorem trimL_nil : trimL [] = [] := rfl
theorem trimR_nil : trimR [] = [] := rfl
theorem trimL_yes {c : UInt8} {t : List UInt8} (h : blk c = true) : trimL (c :: t) = trimL t := by simp [trimL, List.dropWhile, h]
theorem trimL_no {c : UInt8} {t : List UInt8} (h : blk c = false) : trimL (c :: t) = c :: t := by simp [trimL, List.dropWhile, h]
theorem trimR_yes {c : UInt8} {t : List UInt8} (h : blk c = true) : trimR (t ++ [c]) = trimR t := by simp [trimR, h]
theorem trimR_no {c : UInt8} {t : List UInt8} (h : blk c = false) : trimR (t ++ [c]) = t ++ [c] := by simp [trimR, h]
theorem trimR_cons {c : UInt8} {t : List UInt8} (h : blk c = false) : trimR (c :: t) = c :: trimR t := by
  unfold trimR
  rw [List.reverse_cons, List.dropWhile_append]
  split
  · rename_i h1
    simp only [List.isEmpty_iff] at h1
    simp [List.dropWhile, h, h1]
  · simp
theorem trim_comm (l : List UInt8) : trimR (trimL l) = trim l := by
  induction l with
  | nil => rfl
  | cons c t ih =>
    cases h : blk c with
    | true =>
      rw [trimL_yes h, ih]
      unfold trim trimR
      rw [List.reverse_cons, List.dropWhile_append]
      split
      · rename_i h1
        simp only [List.isEmpty_iff] at h1
        simp [trimL, List.dropWhile, h, h1]
      · simp only [List.reverse_append, List.reverse_cons, List.reverse_nil, List.nil_append, List.singleton_append]
        rw [trimL_yes h]
    | false =>
      rw [trimL_no h, trim, trimR_cons h, trimL_no h]
theorem trimR_le (l : List UInt8) : (trimR l).length ≤ l.length := by
  unfold trimR
  rw [List.length_reverse]
  exact Nat.le_trans (List.dropWhile_sublist _).length_le (by simp)
theorem trimL_le (l : List UInt8) : (trimL l).length ≤ l.length := (List.dropWhile_sublist _).length_le
theorem trim_le (l : List UInt8) : (trim l).length ≤ l.length := Nat.le_trans (trimL_le _) (trimR_le _)

/-- a byte of a token -/
def tokB : List UInt8 := [33, 35, 36, 37, 38, 39, 42, 43, 45, 46, 94, 95, 96, 124, 126]
def letterC (c : UInt8) : Bool := (decide (97 ≤ c.toNat) && decide (c.toNat ≤ 122)) || (decide (65 ≤ c.toNat) && decide (c.toNat ≤ 90)) || (decide (48 ≤ c.toNat) && decide (c.toNat ≤ 57))
def tokC (c : UInt8) : Bool := letterC c || tokB.contains c
def token (l : List UInt8) : Bool := !l.isEmpty && l.all tokC
theorem token_nil : token [] = false := rfl
theorem all_take_succ {α : Type} (p : α → Bool) (l : List α) (k : Nat) (h : k < l.length) (hk : (l.take k).all p = true) (hc : p l[k] = true) : (l.take (k + 1)).all p = true := by
  rw [take_snoc l k h, List.all_append, hk]; simp [hc]
theorem all_no {α : Type} (p : α → Bool) (l : List α) (k : Nat) (h : k < l.length) (hc : p l[k] = false) : l.all p = false := by
  rw [List.all_eq_false]; exact ⟨l[k], List.getElem_mem h, by simp [hc]⟩
theorem all_end {α : Type} (p : α → Bool) (l : List α) (k : Nat) (h : ¬ k < l.length) (hk : (l.take k).all p = true) : l.all p = true := by
  rwa [List.take_of_length_le (by omega)] at hk
theorem indexByte_neg (l : List UInt8) (c : UInt8) : (Lib.indexByte l c < 0) ↔ l.contains c = false := by
  induction l with
  | nil => simp [Lib.indexByte]
  | cons b l ih =>
    unfold Lib.indexByte
    have hg := Lib.indexByte_ge l c
    by_cases h : b = c
    · subst h; simp
    · have h1 : (b == c) = false := by simp [h]
      have h2 : (c == b) = false := by simp; exact fun e => h e.symm
      rw [h1, List.contains_cons, h2, Bool.false_or]
      simp only [Bool.false_eq_true, if_false]
      split
      · rename_i h3; simp only [beq_iff_eq] at h3; rw [← ih]; omega
      · rename_i h3; simp only [beq_iff_eq] at h3; rw [← ih]; omega
theorem tokC_letter (c : UInt8) (h : (97 ≤ (c.toNat : Int) ∧ (c.toNat : Int) ≤ 122) ∨ (65 ≤ (c.toNat : Int) ∧ (c.toNat : Int) ≤ 90) ∨ (48 ≤ (c.toNat : Int) ∧ (c.toNat : Int) ≤ 57)) : letterC c = true := by
  unfold letterC; simp only [Bool.or_eq_true, Bool.and_eq_true, decide_eq_true_eq]; omega
theorem letterC_no (c : UInt8) (h : ¬ ((97 ≤ (c.toNat : Int) ∧ (c.toNat : Int) ≤ 122) ∨ (65 ≤ (c.toNat : Int) ∧ (c.toNat : Int) ≤ 90) ∨ (48 ≤ (c.toNat : Int) ∧ (c.toNat : Int) ≤ 57))) : letterC c = false := by
  unfold letterC; rw [Bool.eq_false_iff]; simp only [ne_eq, Bool.or_eq_true, Bool.and_eq_true, decide_eq_true_eq]; omega
theorem tokC_of_letter {c : UInt8} (h : letterC c = true) : tokC c = true := by simp [tokC, h]
theorem tokC_of_sign {c : UInt8} (h : ¬ Lib.indexByte tokB c < 0) : tokC c = true := by
  rw [indexByte_neg] at h; simp only [Bool.not_eq_false] at h; simp only [tokC, h, Bool.or_true]
theorem tokC_no {c : UInt8} (h1 : letterC c = false) (h : Lib.indexByte tokB c < 0) : tokC c = false := by
  rw [indexByte_neg] at h; simp only [tokC, h1, h, Bool.or_false]
theorem token_no {l : List UInt8} {k : Nat} (h : k < l.length) (hc : tokC l[k] = false) : token l = false := by
  unfold token; rw [all_no tokC l k h hc, Bool.and_false]
theorem token_yes {l : List UInt8} {k : Nat} (h0 : 0 < l.length) (h : ¬ k < l.length) (hk : (l.take k).all tokC = true) : token l = true := by
  unfold token; rw [all_end tokC l k h hk]; cases l <;> simp at *

/-- the place of the first D A -/
def crlf : List UInt8 → Option Nat
  | [] => none
  | a :: l => if a == 13 && l.head? == some 10 then some 0 else (crlf l).map (· + 1)
theorem crlf_lib (l : List UInt8) : Lib.index l [13, 10] = match crlf l with | none => -1 | some k => (k : Int) := by
  induction l with
  | nil => rfl
  | cons a l ih =>
    unfold Lib.index crlf
    have e : ([13, 10] : List UInt8).isPrefixOf (a :: l) = (a == 13 && l.head? == some 10) := by
      cases l with
      | nil => simp [List.isPrefixOf]
      | cons b l => simp only [List.isPrefixOf, List.head?_cons, Bool.and_true, Option.some_beq_some]; rw [BEq.comm (a := (13 : UInt8)), BEq.comm (a := (10 : UInt8))]
    rw [e]
    split
    · simp
    · rw [ih]
      cases crlf l with
      | none => simp
      | some k =>
        have : ((k : Int) == -1) = false := by rw [beq_eq_false_iff_ne]; omega
        simp [this]
theorem crlf_lt {l : List UInt8} {k : Nat} (h : crlf l = some k) : k + 1 < l.length := by
  induction l generalizing k with
  | nil => cases h
  | cons a l ih =>
    unfold crlf at h
    split at h
    · rename_i h1
      simp only [Option.some.injEq] at h
      cases l with
      | nil => simp at h1
      | cons b l => simp; omega
    · cases hc : crlf l with
      | none => rw [hc] at h; cases h
      | some j =>
        rw [hc] at h; simp only [Option.map_some, Option.some.injEq] at h
        have := ih hc; simp only [List.length_cons]; omega
def lineAt (l : List UInt8) (at_ : Nat) : Int := match crlf (l.drop at_) with | none => -1 | some k => ((at_ + k : Nat) : Int)
theorem lineAt_hit {l : List UInt8} {k : Nat} (h : k + 1 < l.length) (h1 : (l[k].toNat : Int) = 13) (h2 : (l[k + 1].toNat : Int) = 10) : lineAt l k = k := by
  have e1 : l[k] = 13 := UInt8.toNat_inj.1 (by have : (13 : UInt8).toNat = 13 := rfl
                                               omega)
  have e2 : l[k + 1] = 10 := UInt8.toNat_inj.1 (by have : (10 : UInt8).toNat = 10 := rfl
                                                   omega)
  unfold lineAt
  rw [List.drop_eq_getElem_cons (by omega : k < l.length), List.drop_eq_getElem_cons h, e1, e2]
  rfl
theorem lineAt_miss {l : List UInt8} {k : Nat} (h : k + 1 < l.length) (h1 : ¬ ((l[k].toNat : Int) = 13 ∧ (l[k + 1].toNat : Int) = 10)) : lineAt l (k + 1) = lineAt l k := by
  have e : (l[k] == 13 && (l.drop (k + 1)).head? == some 10) = false := by
    rw [List.drop_eq_getElem_cons h, List.head?_cons]
    rw [Bool.eq_false_iff]
    intro e
    simp only [Bool.and_eq_true, beq_iff_eq, Option.some.injEq] at e
    rw [e.1, e.2] at h1
    exact h1 ⟨rfl, rfl⟩
  unfold lineAt
  rw [List.drop_eq_getElem_cons (by omega : k < l.length)]
  conv => rhs; unfold crlf
  rw [e]
  simp only [Bool.false_eq_true, if_false]
  cases crlf (l.drop (k + 1)) with
  | none => rfl
  | some j => simp only [Option.map_some]; congr 1; omega
theorem lineAt_end {l : List UInt8} {k : Nat} (h : ¬ k + 1 < l.length) : lineAt l k = -1 := by
  unfold lineAt
  cases hc : crlf (l.drop k) with
  | none => rfl
  | some j => have := crlf_lt hc; rw [List.length_drop] at this; omega

/-- how far an item reaches: q: in a quoted text; n: the next byte is as it is -/
def iend (q n : Bool) : List UInt8 → Nat
  | [] => 0
  | c :: t => if n then 1 + iend q false t else if q && c == 92 then 1 + iend q true t else if c == 34 then 1 + iend (!q) false t else if c == 44 && !q then 0 else 1 + iend q false t
theorem iend_le (l : List UInt8) (q n : Bool) : iend q n l ≤ l.length := by
  induction l generalizing q n with
  | nil => simp [iend]
  | cons c t ih =>
    have h1 := ih q false
    have h2 := ih q true
    have h3 := ih (!q) false
    unfold iend
    simp only [List.length_cons]
    split
    · omega
    · split
      · omega
      · split
        · omega
        · split <;> omega
/-- where the item that begins at a place ends -/
def iendAt (l : List UInt8) (k : Nat) : Nat := k + iend false false (l.drop k)
theorem iend_at (l : List UInt8) (q n : Bool) (k : Nat) (h : k < l.length) : iend q n (l.drop k) = if n then 1 + iend q false (l.drop (k + 1)) else if q && l[k] == 92 then 1 + iend q true (l.drop (k + 1)) else if l[k] == 34 then 1 + iend (!q) false (l.drop (k + 1)) else if l[k] == 44 && !q then 0 else 1 + iend q false (l.drop (k + 1)) := by
  rw [List.drop_eq_getElem_cons h]; rfl
theorem iend_past (l : List UInt8) (q n : Bool) (k : Nat) (h : l.length ≤ k) : iend q n (l.drop k) = 0 := by
  rw [List.drop_of_length_le h]; rfl
theorem iendAt_le (l : List UInt8) (k : Nat) (h : k ≤ l.length) : iendAt l k ≤ l.length := by
  have := iend_le (l.drop k) false false
  rw [List.length_drop] at this; unfold iendAt; omega
theorem u8_eq {c : UInt8} {n : Nat} (hn : n < 256) : (c == UInt8.ofNat n) = ((c.toNat : Int) == (n : Int)) := by
  rw [Bool.eq_iff_iff]
  simp only [beq_iff_eq]
  rw [← UInt8.toNat_inj, UInt8.toNat_ofNat']
  omega
theorem contains_take_succ (l : List UInt8) (j : Nat) (h : j < l.length) (c : UInt8) : (l.take (j + 1)).contains c = ((l.take j).contains c || ((c.toNat : Int) == (l[j].toNat : Int))) := by
  rw [take_snoc l j h, List.contains_append]
  congr 1
  rw [Bool.eq_iff_iff]
  simp only [List.contains_cons, List.contains_nil, Bool.or_false, beq_iff_eq]
  rw [← UInt8.toNat_inj]; omega
theorem low_len (l : List UInt8) : (low l).length = l.length := by simp [low]
/-- a byte that may stand in a value -/
def visC (c : UInt8) : Bool := (decide (32 ≤ c.toNat) && decide (c.toNat ≤ 126)) || c.toNat == 9
theorem visC_yes (c : UInt8) (h : (32 ≤ (c.toNat : Int) ∧ (c.toNat : Int) ≤ 126) ∨ (c.toNat : Int) = 9) : visC c = true := by
  unfold visC; simp only [Bool.or_eq_true, Bool.and_eq_true, decide_eq_true_eq, beq_iff_eq]; omega
theorem visC_no (c : UInt8) (h : ¬ ((32 ≤ (c.toNat : Int) ∧ (c.toNat : Int) ≤ 126) ∨ (c.toNat : Int) = 9)) : visC c = false := by
  unfold visC; rw [Bool.eq_false_iff]; simp only [ne_eq, Bool.or_eq_true, Bool.and_eq_true, decide_eq_true_eq, beq_iff_eq]; omega
/-- may a field be? -/
def right (f : List UInt8 × List UInt8) : Bool := token f.1 && decide (f.1.length ≤ 200) && decide (f.2.length ≤ 8192) && (trim f.2 == f.2) && f.2.all visC
theorem right_head {n v : List UInt8} (h : ¬ (token n = true ∧ n.length ≤ 200 ∧ v.length ≤ 8192 ∧ (trim v == v) = true)) : right (n, v) = false := by
  rw [Bool.eq_false_iff]; intro hr
  unfold right at hr
  simp only [Bool.and_eq_true, decide_eq_true_eq] at hr
  exact h ⟨hr.1.1.1.1, hr.1.1.1.2, hr.1.1.2, hr.1.2⟩
theorem right_rest {n v : List UInt8} (h1 : token n = true) (h2 : n.length ≤ 200) (h3 : v.length ≤ 8192) (h4 : (trim v == v) = true) : right (n, v) = v.all visC := by
  unfold right; simp [h1, h2, h3, h4]
end Go.Proofs.YtnmfmcmokdoieaaGreatDoor
/- XFieldLaw2 -/
namespace Go.Proofs.YtnmfmcmokdoieaaGreatDoor
theorem eq_ne {α : Type} [BEq α] [LawfulBEq α] {xs ys : List α} {k : Nat} (h1 : k < xs.length) (h2 : k < ys.length) (h : (!xs[k] == ys[k]) = true) : (xs == ys) = false := by
  rw [beq_eq_false_iff_ne]; rintro rfl; simp at h
theorem eq_step {α : Type} [BEq α] [LawfulBEq α] {xs ys : List α} {k : Nat} (h1 : k < xs.length) (h2 : k < ys.length) (h : (!xs[k] == ys[k]) = false) (he : xs.take k = ys.take k) : xs.take (k + 1) = ys.take (k + 1) := by
  rw [take_snoc xs k h1, take_snoc ys k h2, he]; simp at h; rw [h]
theorem eq_end {α : Type} [BEq α] [LawfulBEq α] {xs ys : List α} {k : Nat} (hk : ¬ k < xs.length) (hl : xs.length = ys.length) (he : xs.take k = ys.take k) : (xs == ys) = true := by
  rw [List.take_of_length_le (by omega), List.take_of_length_le (by omega)] at he; rw [he]; exact BEq.refl _
theorem eq_len {α : Type} [BEq α] [LawfulBEq α] {xs ys : List α} (h : xs.length ≠ ys.length) : (xs == ys) = false := by
  rw [beq_eq_false_iff_ne]; rintro rfl; exact h rfl
abbrev Fld := List UInt8 × List UInt8
/-- all values of a name -/
def ofN (l : List Fld) (n : List UInt8) : List (List UInt8) := (l.filter fun f => alike f.1 n).map (·.2)
theorem ofN_succ (l : List Fld) (n : List UInt8) (k : Nat) (h : k < l.length) : ofN (l.take (k + 1)) n = ofN (l.take k) n ++ (if alike l[k].1 n then [l[k].2] else []) := by
  unfold ofN; rw [take_snoc l k h, List.filter_append, List.map_append]
  cases hc : alike l[k].1 n <;> simp [hc]
theorem ofN_len (l : List Fld) (n : List UInt8) : (ofN l n).length ≤ l.length := by unfold ofN; rw [List.length_map]; exact List.length_filter_le _ _
def getN (l : List Fld) (n : List UInt8) : List UInt8 × Bool := match ofN l n with | [] => ([], false) | v :: _ => (v, true)
def without (l : List Fld) (n : List UInt8) : List Fld := l.filter fun f => !alike f.1 n
theorem without_succ (l : List Fld) (n : List UInt8) (k : Nat) (h : k < l.length) : without (l.take (k + 1)) n = without (l.take k) n ++ (if alike l[k].1 n then [] else [l[k]]) := by
  unfold without; rw [take_snoc l k h, List.filter_append]
  cases hc : alike l[k].1 n <;> simp [hc]
theorem without_len (l : List Fld) (n : List UInt8) : (without l n).length ≤ l.length := List.length_filter_le _ _
/-- the fields with one of a name, if it is there: what has come so far, and whether it was there -/
def setGo (n v : List UInt8) : List Fld → List Fld × Bool
  | [] => ([], false)
  | f :: l => if alike f.1 n then ((n, v) :: without l n, true) else (f :: (setGo n v l).1, (setGo n v l).2)
def setN (l : List Fld) (n v : List UInt8) : List Fld := if (setGo n v l).2 then (setGo n v l).1 else (setGo n v l).1 ++ [(n, v)]
theorem setGo_snoc (n v : List UInt8) (l : List Fld) (f : Fld) : setGo n v (l ++ [f]) = if alike f.1 n then (if (setGo n v l).2 then setGo n v l else ((setGo n v l).1 ++ [(n, v)], true)) else ((setGo n v l).1 ++ [f], (setGo n v l).2) := by
  induction l with
  | nil => cases hc : alike f.1 n <;> simp [setGo, hc, without]
  | cons g l ih =>
    rw [List.cons_append]
    unfold setGo
    cases hg : alike g.1 n with
    | true => cases hc : alike f.1 n <;> simp [without, List.filter_append, hc]
    | false =>
      simp only [Bool.false_eq_true, if_false, ih]
      cases hc : alike f.1 n <;> cases hs : (setGo n v l).2 <;> simp [hs]
theorem setGo_succ (n v : List UInt8) (l : List Fld) (k : Nat) (h : k < l.length) : setGo n v (l.take (k + 1)) = if alike l[k].1 n then (if (setGo n v (l.take k)).2 then setGo n v (l.take k) else ((setGo n v (l.take k)).1 ++ [(n, v)], true)) else ((setGo n v (l.take k)).1 ++ [l[k]], (setGo n v (l.take k)).2) := by
  rw [take_snoc l k h]; exact setGo_snoc n v _ _
theorem setGo_len (n v : List UInt8) (l : List Fld) : (setGo n v l).1.length ≤ l.length := by
  induction l with
  | nil => simp [setGo]
  | cons g l ih =>
    unfold setGo
    have := without_len l n
    split <;> simp <;> omega
/-- how many bytes -/
def bulk2 (l : List Fld) : Nat := (l.map fun f => f.1.length + f.2.length).sum
def bulk1 (l : List (List UInt8)) : Nat := (l.map List.length).sum
theorem bulk2_succ (l : List Fld) (k : Nat) (h : k < l.length) : bulk2 (l.take (k + 1)) = bulk2 (l.take k) + l[k].1.length + l[k].2.length := by
  unfold bulk2; rw [take_snoc l k h]; simp only [List.map_append, List.sum_append, List.map_cons, List.map_nil, List.sum_cons, List.sum_nil]; omega
theorem bulk1_succ (l : List (List UInt8)) (k : Nat) (h : k < l.length) : bulk1 (l.take (k + 1)) = bulk1 (l.take k) + l[k].length := by
  unfold bulk1; rw [take_snoc l k h]; simp only [List.map_append, List.sum_append, List.map_cons, List.map_nil, List.sum_cons, List.sum_nil]; omega
theorem bulk2_all (l : List Fld) (k : Nat) (h : ¬ k < l.length) : bulk2 (l.take k) = bulk2 l := by rw [List.take_of_length_le (by omega)]
theorem bulk1_all (l : List (List UInt8)) (k : Nat) (h : ¬ k < l.length) : bulk1 (l.take k) = bulk1 l := by rw [List.take_of_length_le (by omega)]
theorem bulk2_le (l : List Fld) (B : Nat) (h : ∀ f ∈ l, f.1.length ≤ B ∧ f.2.length ≤ B) : bulk2 l ≤ l.length * (2 * B) := by
  unfold bulk2
  induction l with
  | nil => simp
  | cons f l ih =>
    have h1 := h f (by simp)
    have h2 := ih (fun g hg => h g (by simp [hg]))
    simp only [List.map_cons, List.sum_cons, List.length_cons, Nat.add_mul]; omega
theorem bulk1_le (l : List (List UInt8)) (B : Nat) (h : ∀ f ∈ l, f.length ≤ B) : bulk1 l ≤ l.length * B := by
  unfold bulk1
  induction l with
  | nil => simp
  | cons f l ih =>
    have h1 := h f (by simp)
    have h2 := ih (fun g hg => h g (by simp [hg]))
    simp only [List.map_cons, List.sum_cons, List.length_cons, Nat.add_mul]; omega
def great2 (l : List Fld) : Bool := decide (130 < l.length) || decide (12000 < bulk2 l)
def great1 (l : List (List UInt8)) : Bool := decide (10000 < bulk1 l) || decide (60 < l.length)
theorem great2_small {l : List Fld} (h : l.length ≤ 130) : decide (12000 < ((bulk2 l : Nat) : Int)) = great2 l := by
  unfold great2
  have : decide (130 < l.length) = false := decide_eq_false (by omega)
  rw [this, Bool.false_or, decide_eq_decide]; omega
theorem great2_big {l : List Fld} (h : 130 < l.length) : great2 l = true := by unfold great2; simp [h]
theorem great1_small {l : List (List UInt8)} (h : l.length ≤ 60) : decide (10000 < ((bulk1 l : Nat) : Int)) = great1 l := by
  unfold great1
  have : decide (60 < l.length) = false := decide_eq_false (by omega)
  rw [this, Bool.or_false, decide_eq_decide]; omega
theorem great1_big {l : List (List UInt8)} (h : 60 < l.length) : great1 l = true := by unfold great1; simp [h]
end Go.Proofs.YtnmfmcmokdoieaaGreatDoor
/- XFieldLaw3 -/
namespace Go.Proofs.YtnmfmcmokdoieaaGreatDoor
/-- a text cut at its first colon -/
def cutC : List UInt8 → Option (List UInt8 × List UInt8)
  | [] => none
  | c :: t => if c == 58 then some ([], t) else (cutC t).map fun p => (c :: p.1, p.2)
theorem cutC_lib (l : List UInt8) : Lib.cut l [58] = match cutC l with | none => (l, [], false) | some p => (p.1, p.2, true) := by
  have key : ∀ l : List UInt8, match cutC l with | none => Lib.index l [58] = -1 | some p => Lib.index l [58] = (p.1.length : Int) ∧ l = p.1 ++ 58 :: p.2 := by
    intro l
    induction l with
    | nil => rfl
    | cons c t ih =>
      unfold cutC Lib.index
      have e : ([58] : List UInt8).isPrefixOf (c :: t) = (c == 58) := by
        simp only [List.isPrefixOf, Bool.and_true]; rw [BEq.comm]
      rw [e]
      cases hc : (c == 58) with
      | true => simp only [beq_iff_eq] at hc; subst hc; simp
      | false =>
        cases h : cutC t with
        | none => rw [h] at ih; simp [ih]
        | some p =>
          rw [h] at ih
          obtain ⟨h1, h2⟩ := ih
          have : ((p.1.length : Int) == -1) = false := by rw [beq_eq_false_iff_ne]; omega
          simp only [Option.map_some, Bool.false_eq_true, if_false, h1, this, List.length_cons, List.cons_append]
          exact ⟨by omega, by rw [← h2]⟩
  have := key l
  unfold Lib.cut
  cases h : cutC l with
  | none => rw [h] at this; simp only at this; rw [this]; rfl
  | some p =>
    rw [h] at this
    obtain ⟨h1, h2⟩ := this
    rw [h1]
    have h3 : (0 : Int) ≤ (p.1.length : Int) := by omega
    rw [if_pos h3]
    simp only [Int.toNat_natCast, List.length_singleton]
    conv => lhs; rw [h2]
    simp
theorem cutC_hit {l : List UInt8} {i : Nat} (hi : i < l.length) (h : ∀ (j : Nat) (hj : j < i), (l[j].toNat : Int) ≠ 58) (hc : (l[i].toNat : Int) = 58) : cutC l = some (l.take i, l.drop (i + 1)) := by
  induction l generalizing i with
  | nil => simp at hi
  | cons c t ih =>
    unfold cutC
    cases i with
    | zero =>
      have e : c = 58 := UInt8.toNat_inj.1 (by have : (58 : UInt8).toNat = 58 := rfl
                                               simp at hc; omega)
      subst e; simp
    | succ i =>
      have hc0 : (c == 58) = false := by
        have := h 0 (by omega)
        rw [beq_eq_false_iff_ne]; rintro rfl; exact this rfl
      rw [hc0, ih (by simpa using hi) (fun j hj => by have := h (j + 1) (by omega); simpa using this) (by simpa using hc)]
      simp
theorem cutC_none {l : List UInt8} (h : ∀ (j : Nat) (hj : j < l.length), (l[j].toNat : Int) ≠ 58) : cutC l = none := by
  induction l with
  | nil => rfl
  | cons c t ih =>
    unfold cutC
    have hc0 : (c == 58) = false := by
      have := h 0 (by simp)
      rw [beq_eq_false_iff_ne]; rintro rfl; exact this rfl
    rw [hc0, ih (fun j hj => by have := h (j + 1) (by simpa using hj); simpa using this)]
    rfl
theorem cutC_len {l : List UInt8} {p : List UInt8 × List UInt8} (h : cutC l = some p) : p.1.length + p.2.length + 1 = l.length := by
  induction l generalizing p with
  | nil => cases h
  | cons c t ih =>
    unfold cutC at h
    split at h
    · simp only [Option.some.injEq] at h; subst h; simp
    · cases hc : cutC t with
      | none => rw [hc] at h; cases h
      | some q =>
        rw [hc] at h; simp only [Option.map_some, Option.some.injEq] at h; subst h
        have := ih hc; simp; omega
/-- the field of a line, and whether it may be -/
def fieldR (l : List UInt8) : Fld × Bool := match cutC l with | none => (([], []), false) | some p => ((p.1, trim p.2), right (p.1, trim p.2))
/-- the block with which a text begins, from a place on: fields, how far, and an error -/
def parseGo (s : List UInt8) : Nat → Nat → List Fld → List Fld × Nat × Nat
  | 0, _, _ => ([], 0, 0)
  | fuel + 1, at_, acc =>
    match crlf (s.drop at_) with
    | none => if 65536 < s.length then ([], 0, 4) else ([], 0, 3)
    | some k =>
      if 65536 < at_ + k + 2 then ([], 0, 4)
      else if k = 0 then (acc, at_ + 2, 0)
      else if acc.length = 100 then ([], 0, 4)
      else if (fieldR ((s.drop at_).take k)).2 then parseGo s fuel (at_ + k + 2) (acc ++ [(fieldR ((s.drop at_).take k)).1])
      else ([], 0, 2)
def parse (s : List UInt8) : List Fld × Nat × Nat := parseGo s (s.length + 1) 0 []
end Go.Proofs.YtnmfmcmokdoieaaGreatDoor
/- XFieldLaw4 -/
namespace Go.Proofs.YtnmfmcmokdoieaaGreatDoor
/-- a value, cut at its commas that stand in no quoted text -/
def scan (q n : Bool) (item : List UInt8) : List UInt8 → List (List UInt8)
  | [] => [item]
  | c :: t => if c == 44 && !q then item :: scan q n [] t
    else if n then scan q false (item ++ [c]) t else if q && c == 92 then scan q true (item ++ [c]) t else if c == 34 then scan (!q) false (item ++ [c]) t else scan q false (item ++ [c]) t
theorem scan_cons (q n : Bool) (item : List UInt8) (c : UInt8) (t : List UInt8) : scan q n item (c :: t) = if c == 44 && !q then item :: scan q n [] t
    else if n then scan q false (item ++ [c]) t else if q && c == 92 then scan q true (item ++ [c]) t else if c == 34 then scan (!q) false (item ++ [c]) t else scan q false (item ++ [c]) t := rfl
theorem iend_cons (q n : Bool) (c : UInt8) (t : List UInt8) : iend q n (c :: t) = if n then 1 + iend q false t else if q && c == 92 then 1 + iend q true t else if c == 34 then 1 + iend (!q) false t else if c == 44 && !q then 0 else 1 + iend q false t := rfl
theorem scan_iend (l : List UInt8) (q n : Bool) (item : List UInt8) (h : n = true → q = true) :
    scan q n item l = (item ++ l.take (iend q n l)) :: (if iend q n l < l.length then scan false false [] (l.drop (iend q n l + 1)) else []) := by
  induction l generalizing q n item with
  | nil => simp [scan, iend]
  | cons c t ih =>
    rw [scan_cons, iend_cons]
    cases h44 : (c == 44 && !q) with
    | true =>
      simp only [Bool.and_eq_true, beq_iff_eq, Bool.not_eq_true'] at h44
      obtain ⟨rfl, rfl⟩ := h44
      have hn : n = false := by cases n with
        | false => rfl
        | true => simp at h
      subst hn
      simp
    | false =>
      simp only [Bool.false_eq_true, if_false]
      have e1 : ∀ m : Nat, (c :: t).take (1 + m) = c :: t.take m := fun m => by rw [Nat.add_comm]; rfl
      have e2 : ∀ m : Nat, (c :: t).drop (1 + m + 1) = t.drop (m + 1) := fun m => by rw [show 1 + m + 1 = (m + 1) + 1 from by omega]; rfl
      have e3 : ∀ m : Nat, (1 + m < (c :: t).length) = (m < t.length) := fun m => by simp only [List.length_cons, eq_iff_iff]; omega
      split
      · rw [ih q false _ (by simp)]; simp only [e1, e2, e3, List.append_assoc, List.singleton_append]
      · split
        · rename_i hq; rw [ih q true _ (by simp only [Bool.and_eq_true] at hq; exact fun _ => hq.1)]; simp only [e1, e2, e3, List.append_assoc, List.singleton_append]
        · split
          · rw [ih (!q) false _ (by simp)]; simp only [e1, e2, e3, List.append_assoc, List.singleton_append]
          · rw [ih q false _ (by simp)]; simp only [e1, e2, e3, List.append_assoc, List.singleton_append]
/-- the items of a value, trimmed, those that are not empty -/
def itemsV (l : List UInt8) : List (List UInt8) := ((scan false false [] l).map trim).filter (!·.isEmpty)
def itemsAll (vs : List (List UInt8)) : List (List UInt8) := vs.flatMap itemsV
/-- the items from a place on -/
def remI (l : List UInt8) (b : Nat) : List (List UInt8) := if b ≤ l.length then itemsV (l.drop b) else []
theorem remI_zero (l : List UInt8) : remI l 0 = itemsV l := by simp [remI]
theorem remI_past (l : List UInt8) (b : Nat) (h : ¬ b ≤ l.length) : remI l b = [] := by simp [remI, h]
theorem remI_step (l : List UInt8) (b : Nat) (h : b ≤ l.length) : remI l b = (if (trim ((l.drop b).take (iendAt l b - b))).isEmpty then [] else [trim ((l.drop b).take (iendAt l b - b))]) ++ remI l (iendAt l b + 1) := by
  have e : iendAt l b - b = iend false false (l.drop b) := by unfold iendAt; omega
  rw [e]
  unfold remI itemsV
  rw [if_pos h, scan_iend _ _ _ _ (by simp)]
  have hl : (l.drop b).length = l.length - b := List.length_drop
  have hle := iend_le (l.drop b) false false
  have hat : iendAt l b = b + iend false false (l.drop b) := rfl
  by_cases hc : iend false false (l.drop b) < (l.drop b).length
  · have h2 : iendAt l b + 1 ≤ l.length := by omega
    rw [if_pos hc, if_pos h2, hat, List.drop_drop, show b + (iend false false (l.drop b) + 1) = b + iend false false (l.drop b) + 1 from by omega]
    simp only [List.nil_append, List.map_cons, List.filter_cons]
    cases (trim ((l.drop b).take (iend false false (l.drop b)))).isEmpty <;> rfl
  · have h2 : ¬ iendAt l b + 1 ≤ l.length := by omega
    rw [if_neg hc, if_neg h2]
    simp only [List.nil_append, List.map_cons, List.map_nil, List.filter_cons, List.filter_nil]
    cases (trim ((l.drop b).take (iend false false (l.drop b)))).isEmpty <;> rfl
/-- what is told as long as it is asked for -/
def tell (go : List (List UInt8) → List UInt8 → Bool) : List (List UInt8) → List (List UInt8) → List (List UInt8)
  | done, [] => done
  | done, x :: r => if go done x then tell go (done ++ [x]) r else done ++ [x]
theorem tell_all (done l : List (List UInt8)) (N : Nat) (h : done.length + l.length < N) : tell (fun d _ => decide (d.length + 1 < N)) done l = done ++ l := by
  induction l generalizing done with
  | nil => simp [tell]
  | cons x r ih =>
    simp only [List.length_cons] at h
    unfold tell
    rw [if_pos (by simp; omega), ih _ (by simp; omega)]
    simp
theorem tell_some (done l : List (List UInt8)) (N : Nat) (h0 : done.length < N) (h : N ≤ done.length + l.length) : (tell (fun d _ => decide (d.length + 1 < N)) done l).length = N := by
  induction l generalizing done with
  | nil => simp at h; omega
  | cons x r ih =>
    simp only [List.length_cons] at h
    unfold tell
    by_cases hc : done.length + 1 < N
    · rw [if_pos (by simp; omega)]; exact ih _ (by simp; omega) (by simp; omega)
    · rw [if_neg (by simp; omega)]; simp; omega
theorem scan_len (l : List UInt8) (q n : Bool) (item : List UInt8) : (scan q n item l).length ≤ l.length + 1 := by
  induction l generalizing q n item with
  | nil => simp [scan]
  | cons c t ih =>
    rw [scan_cons]
    have h1 := ih q n []
    have h2 := ih q false (item ++ [c])
    have h3 := ih q true (item ++ [c])
    have h4 := ih (!q) false (item ++ [c])
    simp only [List.length_cons]
    split
    · simp only [List.length_cons]; omega
    · split
      · omega
      · split
        · omega
        · split <;> omega
theorem itemsV_len (l : List UInt8) : (itemsV l).length ≤ l.length + 1 := by
  unfold itemsV
  exact Nat.le_trans (List.length_filter_le _ _) (by rw [List.length_map]; exact scan_len l _ _ _)
theorem itemsAll_len (vs : List (List UInt8)) : (itemsAll vs).length ≤ bulk1 vs + vs.length := by
  unfold itemsAll bulk1
  induction vs with
  | nil => simp
  | cons v vs ih =>
    have := itemsV_len v
    simp only [List.flatMap_cons, List.length_append, List.map_cons, List.sum_cons, List.length_cons]; omega
theorem itemsAll_succ (vs : List (List UInt8)) (k : Nat) (h : k < vs.length) : itemsAll (vs.take (k + 1)) = itemsAll (vs.take k) ++ itemsV vs[k] := by
  unfold itemsAll; rw [take_snoc vs k h, List.flatMap_append]; simp
theorem itemsAll_drop (vs : List (List UInt8)) (k : Nat) (h : k < vs.length) : itemsAll (vs.drop k) = itemsV vs[k] ++ itemsAll (vs.drop (k + 1)) := by
  unfold itemsAll; rw [List.drop_eq_getElem_cons h]; rfl
theorem scan_at (q n : Bool) (item : List UInt8) (l : List UInt8) (k : Nat) (h : k < l.length) : scan q n item (l.drop k) = if l[k] == 44 && !q then item :: scan q n [] (l.drop (k + 1))
    else if n then scan q false (item ++ [l[k]]) (l.drop (k + 1)) else if q && l[k] == 92 then scan q true (item ++ [l[k]]) (l.drop (k + 1)) else if l[k] == 34 then scan (!q) false (item ++ [l[k]]) (l.drop (k + 1)) else scan q false (item ++ [l[k]]) (l.drop (k + 1)) := by
  rw [List.drop_eq_getElem_cons h]; rfl
theorem scan_past (q n : Bool) (item : List UInt8) (l : List UInt8) (k : Nat) (h : ¬ k < l.length) : scan q n item (l.drop k) = [item] := by
  rw [List.drop_of_length_le (by omega)]; rfl
end Go.Proofs.YtnmfmcmokdoieaaGreatDoor
/- XFieldLaw5 -/
namespace Go.Proofs.YtnmfmcmokdoieaaGreatDoor
theorem lowN_lowN (c : UInt8) : lowN (lowN c) = lowN c := by
  unfold lowN
  by_cases h : 65 ≤ c ∧ c ≤ 90
  · rw [if_pos h, if_neg]
    obtain ⟨h1, h2⟩ := h
    rw [UInt8.le_iff_toNat_le] at h1 h2
    intro ⟨_, h4⟩
    rw [UInt8.le_iff_toNat_le, UInt8.toNat_add] at h4
    have e1 : (32 : UInt8).toNat = 32 := rfl
    have e2 : (65 : UInt8).toNat = 65 := rfl
    have e3 : (90 : UInt8).toNat = 90 := rfl
    omega
  · rw [if_neg h, if_neg h]
theorem low_low (l : List UInt8) : low (low l) = low l := by
  unfold low; rw [List.map_map]; apply List.map_congr_left; intro c _; exact lowN_lowN c
theorem alike_low (a n : List UInt8) : alike a (low n) = alike a n := by unfold alike; rw [low_low]
theorem alike_self (n : List UInt8) : alike n n = true := by unfold alike; exact BEq.refl _
theorem low_alike (n : List UInt8) : alike (low n) n = true := by unfold alike; rw [low_low]; exact BEq.refl _
theorem ofN_low (l : List Fld) (n : List UInt8) : ofN l (low n) = ofN l n := by
  unfold ofN; congr 2; funext f; exact alike_low _ _
theorem getN_low (l : List Fld) (n : List UInt8) : getN l (low n) = getN l n := by unfold getN; rw [ofN_low]
theorem without_low (l : List Fld) (n : List UInt8) : without l (low n) = without l n := by
  unfold without; congr 1; funext f; rw [alike_low]
theorem ofN_without (l : List Fld) (n : List UInt8) : ofN (without l n) n = [] := by
  unfold ofN without
  rw [List.filter_filter, List.map_eq_nil_iff, List.filter_eq_nil_iff]
  intro f _; simp
theorem ofN_setGo (l : List Fld) (n v : List UInt8) : ofN (setGo n v l).1 n = if (setGo n v l).2 then [v] else [] := by
  induction l with
  | nil => rfl
  | cons f l ih =>
    unfold setGo
    cases h : alike f.1 n with
    | true =>
      simp only [if_true]
      have := ofN_without l n
      unfold ofN at *
      rw [List.filter_cons, alike_self, if_pos rfl, List.map_cons, this]
    | false =>
      simp only [Bool.false_eq_true, if_false]
      rw [← ih]
      unfold ofN
      rw [List.filter_cons, h, if_neg (by simp)]
theorem ofN_setN (l : List Fld) (n v : List UInt8) : ofN (setN l n v) n = [v] := by
  unfold setN
  have h := ofN_setGo l n v
  split
  · rename_i h1; rw [h, if_pos h1]
  · rename_i h1
    rw [if_neg h1] at h
    unfold ofN at *
    rw [List.filter_append, List.map_append, h]
    simp [alike_self]
theorem without_setGo (l : List Fld) (n v : List UInt8) : without (setGo n v l).1 n = without l n := by
  induction l with
  | nil => rfl
  | cons f l ih =>
    unfold setGo
    cases h : alike f.1 n with
    | true =>
      simp only [if_true]
      unfold without
      rw [List.filter_cons, List.filter_cons, alike_self, h, List.filter_filter]
      simp
    | false =>
      simp only [Bool.false_eq_true, if_false]
      unfold without at *
      rw [List.filter_cons, List.filter_cons, h, ih]
theorem without_setN (l : List Fld) (n v : List UInt8) : without (setN l n v) n = without l n := by
  unfold setN
  have h := without_setGo l n v
  split
  · exact h
  · unfold without at *
    rw [List.filter_append, h]
    simp [alike_self]
theorem setGo_mem (l : List Fld) (n v : List UInt8) (f : Fld) (h : f ∈ (setGo n v l).1) : f ∈ l ∨ f = (n, v) := by
  induction l with
  | nil => cases h
  | cons g l ih =>
    unfold setGo at h
    split at h
    · rcases List.mem_cons.1 h with rfl | h
      · exact .inr rfl
      · exact .inl (List.mem_cons_of_mem _ (List.mem_filter.1 h).1)
    · rcases List.mem_cons.1 h with rfl | h
      · exact .inl (List.mem_cons_self ..)
      · rcases ih h with h | h
        · exact .inl (List.mem_cons_of_mem _ h)
        · exact .inr h
theorem setN_mem (l : List Fld) (n v : List UInt8) (f : Fld) (h : f ∈ setN l n v) : f ∈ l ∨ f = (n, v) := by
  unfold setN at h
  split at h
  · exact setGo_mem l n v f h
  · rcases List.mem_append.1 h with h | h
    · exact setGo_mem l n v f h
    · simp at h; exact .inr h
theorem setN_len (l : List Fld) (n v : List UInt8) : (setN l n v).length ≤ l.length + 1 := by
  unfold setN
  have := setGo_len n v l
  split
  · omega
  · simp; omega
theorem getN_of {l : List Fld} {n v : List UInt8} (h : ofN l n = [v]) : getN l n = (v, true) := by unfold getN; rw [h]
end Go.Proofs.YtnmfmcmokdoieaaGreatDoor
/- XFieldLaw6 -/
namespace Go.Proofs.YtnmfmcmokdoieaaGreatDoor
def putL (f : Fld) : List UInt8 := f.1 ++ [58, 32] ++ f.2 ++ [13, 10]
def lines (l : List Fld) : List UInt8 := l.flatMap putL
def block (l : List Fld) : List UInt8 := lines l ++ [13, 10]
def put (l : List Fld) : List UInt8 × Nat := if l.all right then (if 100 < l.length ∨ 65536 < (block l).length then ([], 4) else (block l, 0)) else ([], 2)
theorem putL_len (f : Fld) : (putL f).length = f.1.length + f.2.length + 4 := by simp [putL]; omega
theorem lines_succ (l : List Fld) (k : Nat) (h : k < l.length) : lines (l.take (k + 1)) = lines (l.take k) ++ l[k].1 ++ [58, 32] ++ l[k].2 ++ [13, 10] := by
  unfold lines; rw [take_snoc l k h, List.flatMap_append]; simp [putL]
theorem lines_len (l : List Fld) : (lines l).length = bulk2 l + 4 * l.length := by
  unfold lines bulk2
  induction l with
  | nil => rfl
  | cons f l ih =>
    simp only [List.flatMap_cons, List.length_append, putL_len, ih, List.map_cons, List.sum_cons, List.length_cons]; omega
theorem bulk2_take_le (l : List Fld) (k : Nat) : bulk2 (l.take k) ≤ bulk2 l := by
  have e : bulk2 l = bulk2 (l.take k) + bulk2 (l.drop k) := by
    unfold bulk2; rw [← List.sum_append, ← List.map_append, List.take_append_drop]
  omega
theorem lines_take_len (l : List Fld) (k : Nat) (h : k ≤ l.length) : (lines (l.take k)).length ≤ bulk2 l + 4 * l.length := by
  rw [lines_len, List.length_take]
  have := bulk2_take_le l k
  omega
theorem put_bad (l : List Fld) (k : Nat) (h : k < l.length) (hr : right l[k] = false) : put l = ([], 2) := by
  unfold put; rw [all_no right l k h hr]; rfl
theorem put_all (l : List Fld) (k : Nat) (h : ¬ k < l.length) (hr : (l.take k).all right = true) : put l = if 100 < l.length ∨ 65536 < (block l).length then ([], 4) else (block l, 0) := by
  unfold put; rw [all_end right l k h hr]; rfl
theorem block_len (l : List Fld) : (block l).length = (lines l).length + 2 := by simp [block]
end Go.Proofs.YtnmfmcmokdoieaaGreatDoor
/- XFieldLaw7 -/
namespace Go.Proofs.YtnmfmcmokdoieaaGreatDoor
theorem crlf_hit (a t : List UInt8) (h : ∀ c ∈ a, c ≠ 13) : crlf (a ++ 13 :: 10 :: t) = some a.length := by
  induction a with
  | nil => rfl
  | cons c a ih =>
    rw [List.cons_append]; unfold crlf
    have h1 : (c == 13) = false := by rw [beq_eq_false_iff_ne]; exact h c (by simp)
    rw [h1, Bool.false_and, ih (fun d hd => h d (by simp [hd]))]; rfl
theorem crlf_no (a : List UInt8) (h : ∀ c ∈ a, c ≠ 13) : crlf a = none := by
  induction a with
  | nil => rfl
  | cons c a ih =>
    unfold crlf
    have h1 : (c == 13) = false := by rw [beq_eq_false_iff_ne]; exact h c (by simp)
    rw [h1, Bool.false_and, ih (fun d hd => h d (by simp [hd]))]; rfl
theorem crlf_no1 (a : List UInt8) (h : ∀ c ∈ a, c ≠ 13) : crlf (a ++ [13]) = none := by
  induction a with
  | nil => rfl
  | cons c a ih =>
    rw [List.cons_append]; unfold crlf
    have h1 : (c == 13) = false := by rw [beq_eq_false_iff_ne]; exact h c (by simp)
    rw [h1, Bool.false_and, ih (fun d hd => h d (by simp [hd]))]; rfl
theorem crlf_cut (a t : List UInt8) (k : Nat) (h : ∀ c ∈ a, c ≠ 13) (hk : k < a.length + 2) : crlf ((a ++ 13 :: 10 :: t).take k) = none := by
  by_cases h1 : k ≤ a.length
  · rw [List.take_append_of_le_length h1]; exact crlf_no _ fun c hc => h c (List.mem_of_mem_take hc)
  · obtain rfl : k = a.length + 1 := by omega
    rw [List.take_length_add_append]; exact crlf_no1 a h
def lineB (f : Fld) : List UInt8 := f.1 ++ 58 :: 32 :: f.2
theorem putL_eq (f : Fld) : putL f = lineB f ++ [13, 10] := by simp [putL, lineB]
theorem right_tok {f : Fld} (h : right f = true) : ∀ c ∈ f.1, tokC c = true := by
  unfold right token at h
  simp only [Bool.and_eq_true, List.all_eq_true] at h
  exact h.1.1.1.1.2
theorem right_vis {f : Fld} (h : right f = true) : ∀ c ∈ f.2, visC c = true := by
  unfold right at h
  simp only [Bool.and_eq_true, List.all_eq_true] at h
  exact h.2
theorem right_trim {f : Fld} (h : right f = true) : trim f.2 = f.2 := by
  unfold right at h
  simp only [Bool.and_eq_true, beq_iff_eq] at h
  exact h.1.2
theorem lineB_no {f : Fld} (h : right f = true) : ∀ c ∈ lineB f, c ≠ 13 := by
  intro c hc
  unfold lineB at hc
  simp only [List.mem_append, List.mem_cons] at hc
  rcases hc with hc | rfl | rfl | hc
  · rintro rfl; have := right_tok h _ hc; revert this; decide
  · decide
  · decide
  · rintro rfl; have := right_vis h _ hc; revert this; decide
theorem cutC_app (a t : List UInt8) (h : ∀ c ∈ a, c ≠ 58) : cutC (a ++ 58 :: t) = some (a, t) := by
  induction a with
  | nil => rfl
  | cons c a ih =>
    rw [List.cons_append]; unfold cutC
    have h1 : (c == 58) = false := by rw [beq_eq_false_iff_ne]; exact h c (by simp)
    rw [h1, ih (fun d hd => h d (by simp [hd]))]; rfl
theorem trim_blank (v : List UInt8) : trim (32 :: v) = trim v := by
  rw [← trim_comm, ← trim_comm, trimL_yes (by rfl)]
theorem fieldR_line {f : Fld} (h : right f = true) : fieldR (lineB f) = (f, true) := by
  unfold fieldR lineB
  rw [cutC_app _ _ (fun c hc => by rintro rfl; have := right_tok h _ hc; revert this; decide)]
  simp only [trim_blank, right_trim h]
  rw [show ((f.1, f.2) : Fld) = f from rfl, h]
theorem lineB_pos (f : Fld) : 0 < (lineB f).length := by simp [lineB]; omega
theorem block_cons (f : Fld) (l : List Fld) : block (f :: l) = lineB f ++ 13 :: 10 :: block l := by
  unfold block lines; rw [List.flatMap_cons, putL_eq]; simp
theorem parseGo_back (l : List Fld) (done : List Fld) (p more : List UInt8) (fuel : Nat) (hr : l.all right = true) (hf : l.length < fuel) (hn : done.length + l.length ≤ 100) (hb : p.length + (block l).length ≤ 65536) :
    parseGo (p ++ (block l ++ more)) fuel p.length done = (done ++ l, p.length + (block l).length, 0) := by
  induction l generalizing done p fuel with
  | nil =>
    cases fuel with
    | zero => simp at hf
    | succ fuel =>
      unfold parseGo
      rw [List.drop_left]
      have : crlf (block [] ++ more) = some 0 := rfl
      have hb' : (block ([] : List Fld)).length = 2 := rfl
      rw [this]
      simp only [Nat.add_zero]
      rw [if_neg (by omega), if_pos trivial, hb', List.append_nil]
  | cons f l ih =>
    cases fuel with
    | zero => simp at hf
    | succ fuel =>
      simp only [List.all_cons, Bool.and_eq_true] at hr
      simp only [List.length_cons] at hf hn
      have hbl : (block (f :: l)).length = (lineB f).length + 2 + (block l).length := by rw [block_cons]; simp; omega
      unfold parseGo
      have e1 : block (f :: l) ++ more = lineB f ++ 13 :: 10 :: (block l ++ more) := by rw [block_cons]; simp
      rw [List.drop_left, e1, crlf_hit _ _ (lineB_no hr.1)]
      have hp := lineB_pos f
      simp only [List.take_left, fieldR_line hr.1, if_true]
      rw [if_neg (by omega), if_neg (by omega), if_neg (by omega)]
      have e2 : p ++ (lineB f ++ 13 :: 10 :: (block l ++ more)) = (p ++ lineB f ++ [13, 10]) ++ (block l ++ more) := by simp
      have e3 : p.length + (lineB f).length + 2 = (p ++ lineB f ++ [13, 10]).length := by simp; omega
      rw [e2, e3, ih (done ++ [f]) _ fuel hr.2 (by omega) (by simp; omega) (by rw [← e3]; omega)]
      rw [← e3, hbl]
      simp; omega
theorem parseGo_cut (l : List Fld) (done : List Fld) (p : List UInt8) (fuel k : Nat) (hr : l.all right = true) (hf : k < fuel) (hn : done.length + l.length ≤ 100) (hb : p.length + (block l).length ≤ 65536) (hk : k < (block l).length) :
    parseGo (p ++ (block l).take k) fuel p.length done = ([], 0, 3) := by
  induction l generalizing done p fuel k with
  | nil =>
    cases fuel with
    | zero => simp at hf
    | succ fuel =>
      have hb' : (block ([] : List Fld)).length = 2 := rfl
      unfold parseGo
      have := crlf_cut [] [] k (by simp) (by simpa [hb'] using hk)
      rw [List.drop_left, show block ([] : List Fld) = [] ++ [13, 10] from rfl, this]
      simp only
      rw [if_neg]
      rw [List.length_append, List.length_take]; omega
  | cons f l ih =>
    cases fuel with
    | zero => simp at hf
    | succ fuel =>
      simp only [List.all_cons, Bool.and_eq_true] at hr
      simp only [List.length_cons] at hn
      have hbl : (block (f :: l)).length = (lineB f).length + 2 + (block l).length := by rw [block_cons]; simp; omega
      have hlen : (p ++ (block (f :: l)).take k).length ≤ 65536 := by rw [List.length_append, List.length_take]; omega
      by_cases hc : k < (lineB f).length + 2
      · unfold parseGo
        rw [if_neg (by omega)]
        rw [List.drop_left, block_cons, crlf_cut _ _ k (lineB_no hr.1) hc]
      · obtain ⟨j, rfl⟩ : ∃ j, k = (lineB f).length + 2 + j := ⟨k - ((lineB f).length + 2), by omega⟩
        have e1 : (block (f :: l)).take ((lineB f).length + 2 + j) = lineB f ++ 13 :: 10 :: (block l).take j := by
          rw [block_cons, show (lineB f).length + 2 + j = (lineB f).length + (j + 2) by omega, List.take_length_add_append]; rfl
        rw [e1]
        unfold parseGo
        rw [List.drop_left, crlf_hit _ _ (lineB_no hr.1)]
        have hp := lineB_pos f
        simp only [List.take_left, fieldR_line hr.1, if_true]
        rw [if_neg (by omega), if_neg (by omega), if_neg (by omega)]
        have e2 : p ++ (lineB f ++ 13 :: 10 :: (block l).take j) = (p ++ lineB f ++ [13, 10]) ++ (block l).take j := by simp
        have e3 : p.length + (lineB f).length + 2 = (p ++ lineB f ++ [13, 10]).length := by simp; omega
        rw [e2, e3, ih (done ++ [f]) _ fuel j hr.2 (by omega) (by simp; omega) (by rw [← e3]; omega) (by omega)]
theorem lines_len_ge (l : List Fld) : l.length ≤ (block l).length := by rw [block_len, lines_len]; omega
theorem parse_back (l : List Fld) (more : List UInt8) (hr : l.all right = true) (hn : l.length ≤ 100) (hb : (block l).length ≤ 65536) : parse (block l ++ more) = (l, (block l).length, 0) := by
  unfold parse
  have h := parseGo_back l [] [] more ((block l ++ more).length + 1) hr (by have := lines_len_ge l; simp; omega) (by simpa using hn) (by simpa using hb)
  simpa using h
theorem parse_cut (l : List Fld) (k : Nat) (hr : l.all right = true) (hn : l.length ≤ 100) (hb : (block l).length ≤ 65536) (hk : k < (block l).length) : parse ((block l).take k) = ([], 0, 3) := by
  have h := parseGo_cut l [] [] (k + 1) k hr (by omega) (by simpa using hn) (by simpa using hb) hk
  have e : ((block l).take k).length = k := by rw [List.length_take]; omega
  unfold parse; rw [e]; simpa using h
end Go.Proofs.YtnmfmcmokdoieaaGreatDoor
