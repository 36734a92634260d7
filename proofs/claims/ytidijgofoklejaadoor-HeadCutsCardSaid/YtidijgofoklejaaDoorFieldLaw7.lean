/- Plain mathematics of layer 7: what is put is parsed as it was, and what is cut off needs more. No conditions. -/
import Derived.Test.YtidijgofoklejaaDoorFieldLaw6
namespace Go.Proofs.YtidijgofoklejaaDoor
theorem crlf_hit (a t : List UInt8) (h : ∀ c ∈ a, c ≠ 13) : crlf (a ++ 13 :: 10 :: t) = some a.length := by
  induction a with
  | nil => rfl
  | cons c a ih =>
    rw [List.cons_append]; unfold crlf
    have h1 : (c == 13) = false := by rw [beq_eq_false_iff_ne]; exact h c (by simp)
    rw [h1, Bool.false_and, ih (fun d hd => h d (by simp [hd]))]; rfl
theorem crlf_no (a : List UInt8) (h : ∀ c ∈ a, c ≠ 13) : crlf a = none := by
  induction a with
  | nil => rfl
  | cons c a ih =>
    unfold crlf
    have h1 : (c == 13) = false := by rw [beq_eq_false_iff_ne]; exact h c (by simp)
    rw [h1, Bool.false_and, ih (fun d hd => h d (by simp [hd]))]; rfl
theorem crlf_no1 (a : List UInt8) (h : ∀ c ∈ a, c ≠ 13) : crlf (a ++ [13]) = none := by
  induction a with
  | nil => rfl
  | cons c a ih =>
    rw [List.cons_append]; unfold crlf
    have h1 : (c == 13) = false := by rw [beq_eq_false_iff_ne]; exact h c (by simp)
    rw [h1, Bool.false_and, ih (fun d hd => h d (by simp [hd]))]; rfl
theorem crlf_cut (a t : List UInt8) (k : Nat) (h : ∀ c ∈ a, c ≠ 13) (hk : k < a.length + 2) : crlf ((a ++ 13 :: 10 :: t).take k) = none := by
  by_cases h1 : k ≤ a.length
  · rw [List.take_append_of_le_length h1]; exact crlf_no _ fun c hc => h c (List.mem_of_mem_take hc)
  · obtain rfl : k = a.length + 1 := by omega
    rw [List.take_length_add_append]; exact crlf_no1 a h
def lineB (f : Fld) : List UInt8 := f.1 ++ 58 :: 32 :: f.2
theorem putL_eq (f : Fld) : putL f = lineB f ++ [13, 10] := by simp [putL, lineB]
theorem right_tok {f : Fld} (h : right f = true) : ∀ c ∈ f.1, tokC c = true := by
  unfold right token at h
  simp only [Bool.and_eq_true, List.all_eq_true] at h
  exact h.1.1.1.1.2
theorem right_vis {f : Fld} (h : right f = true) : ∀ c ∈ f.2, visC c = true := by
  unfold right at h
  simp only [Bool.and_eq_true, List.all_eq_true] at h
  exact h.2
theorem right_trim {f : Fld} (h : right f = true) : trim f.2 = f.2 := by
  unfold right at h
  simp only [Bool.and_eq_true, beq_iff_eq] at h
  exact h.1.2
theorem lineB_no {f : Fld} (h : right f = true) : ∀ c ∈ lineB f, c ≠ 13 := by
  intro c hc
  unfold lineB at hc
  simp only [List.mem_append, List.mem_cons] at hc
  rcases hc with hc | rfl | rfl | hc
  · rintro rfl; have := right_tok h _ hc; revert this; decide
  · decide
  · decide
  · rintro rfl; have := right_vis h _ hc; revert this; decide
theorem cutC_app (a t : List UInt8) (h : ∀ c ∈ a, c ≠ 58) : cutC (a ++ 58 :: t) = some (a, t) := by
  induction a with
  | nil => rfl
  | cons c a ih =>
    rw [List.cons_append]; unfold cutC
    have h1 : (c == 58) = false := by rw [beq_eq_false_iff_ne]; exact h c (by simp)
    rw [h1, ih (fun d hd => h d (by simp [hd]))]; rfl
theorem trim_blank (v : List UInt8) : trim (32 :: v) = trim v := by
  rw [← trim_comm, ← trim_comm, trimL_yes (by rfl)]
theorem fieldR_line {f : Fld} (h : right f = true) : fieldR (lineB f) = (f, true) := by
  unfold fieldR lineB
  rw [cutC_app _ _ (fun c hc => by rintro rfl; have := right_tok h _ hc; revert this; decide)]
  simp only [trim_blank, right_trim h]
  rw [show ((f.1, f.2) : Fld) = f from rfl, h]
theorem lineB_pos (f : Fld) : 0 < (lineB f).length := by simp [lineB]; omega
theorem block_cons (f : Fld) (l : List Fld) : block (f :: l) = lineB f ++ 13 :: 10 :: block l := by
  unfold block lines; rw [List.flatMap_cons, putL_eq]; simp
theorem parseGo_back (l : List Fld) (done : List Fld) (p more : List UInt8) (fuel : Nat) (hr : l.all right = true) (hf : l.length < fuel) (hn : done.length + l.length ≤ 100) (hb : p.length + (block l).length ≤ 65536) :
    parseGo (p ++ (block l ++ more)) fuel p.length done = (done ++ l, p.length + (block l).length, 0) := by
  induction l generalizing done p fuel with
  | nil =>
    cases fuel with
    | zero => simp at hf
    | succ fuel =>
      unfold parseGo
      rw [List.drop_left]
      have : crlf (block [] ++ more) = some 0 := rfl
      have hb' : (block ([] : List Fld)).length = 2 := rfl
      rw [this]
      simp only [Nat.add_zero]
      rw [if_neg (by omega), if_pos trivial, hb', List.append_nil]
  | cons f l ih =>
    cases fuel with
    | zero => simp at hf
    | succ fuel =>
      simp only [List.all_cons, Bool.and_eq_true] at hr
      simp only [List.length_cons] at hf hn
      have hbl : (block (f :: l)).length = (lineB f).length + 2 + (block l).length := by rw [block_cons]; simp; omega
      unfold parseGo
      have e1 : block (f :: l) ++ more = lineB f ++ 13 :: 10 :: (block l ++ more) := by rw [block_cons]; simp
      rw [List.drop_left, e1, crlf_hit _ _ (lineB_no hr.1)]
      have hp := lineB_pos f
      simp only [List.take_left, fieldR_line hr.1, if_true]
      rw [if_neg (by omega), if_neg (by omega), if_neg (by omega)]
      have e2 : p ++ (lineB f ++ 13 :: 10 :: (block l ++ more)) = (p ++ lineB f ++ [13, 10]) ++ (block l ++ more) := by simp
      have e3 : p.length + (lineB f).length + 2 = (p ++ lineB f ++ [13, 10]).length := by simp; omega
      rw [e2, e3, ih (done ++ [f]) _ fuel hr.2 (by omega) (by simp; omega) (by rw [← e3]; omega)]
      rw [← e3, hbl]
      simp; omega
theorem parseGo_cut (l : List Fld) (done : List Fld) (p : List UInt8) (fuel k : Nat) (hr : l.all right = true) (hf : k < fuel) (hn : done.length + l.length ≤ 100) (hb : p.length + (block l).length ≤ 65536) (hk : k < (block l).length) :
    parseGo (p ++ (block l).take k) fuel p.length done = ([], 0, 3) := by
  induction l generalizing done p fuel k with
  | nil =>
    cases fuel with
    | zero => simp at hf
    | succ fuel =>
      have hb' : (block ([] : List Fld)).length = 2 := rfl
      unfold parseGo
      have := crlf_cut [] [] k (by simp) (by simpa [hb'] using hk)
      rw [List.drop_left, show block ([] : List Fld) = [] ++ [13, 10] from rfl, this]
      simp only
      rw [if_neg]
      rw [List.length_append, List.length_take]; omega
  | cons f l ih =>
    cases fuel with
    | zero => simp at hf
    | succ fuel =>
      simp only [List.all_cons, Bool.and_eq_true] at hr
      simp only [List.length_cons] at hn
      have hbl : (block (f :: l)).length = (lineB f).length + 2 + (block l).length := by rw [block_cons]; simp; omega
      have hlen : (p ++ (block (f :: l)).take k).length ≤ 65536 := by rw [List.length_append, List.length_take]; omega
      by_cases hc : k < (lineB f).length + 2
      · unfold parseGo
        rw [if_neg (by omega)]
        rw [List.drop_left, block_cons, crlf_cut _ _ k (lineB_no hr.1) hc]
      · obtain ⟨j, rfl⟩ : ∃ j, k = (lineB f).length + 2 + j := ⟨k - ((lineB f).length + 2), by omega⟩
        have e1 : (block (f :: l)).take ((lineB f).length + 2 + j) = lineB f ++ 13 :: 10 :: (block l).take j := by
          rw [block_cons, show (lineB f).length + 2 + j = (lineB f).length + (j + 2) by omega, List.take_length_add_append]; rfl
        rw [e1]
        unfold parseGo
        rw [List.drop_left, crlf_hit _ _ (lineB_no hr.1)]
        have hp := lineB_pos f
        simp only [List.take_left, fieldR_line hr.1, if_true]
        rw [if_neg (by omega), if_neg (by omega), if_neg (by omega)]
        have e2 : p ++ (lineB f ++ 13 :: 10 :: (block l).take j) = (p ++ lineB f ++ [13, 10]) ++ (block l).take j := by simp
        have e3 : p.length + (lineB f).length + 2 = (p ++ lineB f ++ [13, 10]).length := by simp; omega
        rw [e2, e3, ih (done ++ [f]) _ fuel j hr.2 (by omega) (by simp; omega) (by rw [← e3]; omega) (by omega)]
theorem lines_len_ge (l : List Fld) : l.length ≤ (block l).length := by rw [block_len, lines_len]; omega
theorem parse_back (l : List Fld) (more : List UInt8) (hr : l.all right = true) (hn : l.length ≤ 100) (hb : (block l).length ≤ 65536) : parse (block l ++ more) = (l, (block l).length, 0) := by
  unfold parse
  have h := parseGo_back l [] [] more ((block l ++ more).length + 1) hr (by have := lines_len_ge l; simp; omega) (by simpa using hn) (by simpa using hb)
  simpa using h
theorem parse_cut (l : List Fld) (k : Nat) (hr : l.all right = true) (hn : l.length ≤ 100) (hb : (block l).length ≤ 65536) (hk : k < (block l).length) : parse ((block l).take k) = ([], 0, 3) := by
  have h := parseGo_cut l [] [] (k + 1) k hr (by omega) (by simpa using hn) (by simpa using hb) hk
  have e : ((block l).take k).length = k := by rw [List.length_take]; omega
  unfold parse; rw [e]; simpa using h
end Go.Proofs.YtidijgofoklejaaDoor
