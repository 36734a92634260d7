/- Plain mathematics of layer 11: bodies of several ranges, read line by line; what is told is read as it was, cut off it is too short, with something behind it it is none's. No conditions. -/
import Derived.Test.YtnmfmcmokdoieaaGreatDoorMultiLaw3
import Derived.Test.YtnmfmcmokdoieaaGreatDoorJLawA
set_option linter.unusedVariables false
set_option linter.unusedSimpArgs false
namespace Go.Proofs.YtnmfmcmokdoieaaGreatDoor
/-- may a text be a boundary? -/
def boundB (s : List UInt8) : Bool := s.all letterC && (decide (1 ≤ s.length) && decide (s.length ≤ 70))
/-- may it be a kind? -/
def kindB (s : List UInt8) : Bool := decide (1 ≤ s.length) && (decide (s.length ≤ 100) && right ([97], s))
def typeN : List UInt8 := [67, 111, 110, 116, 101, 110, 116, 45, 84, 121, 112, 101, 58, 32]
def rangeN : List UInt8 := [67, 111, 110, 116, 101, 110, 116, 45, 82, 97, 110, 103, 101, 58, 32]
/-- the first line, and what stands behind its end -/
def lnL (s : List UInt8) : Option (List UInt8 × List UInt8) := (crlf s).map fun i => (s.take i, s.drop (i + 2))
def stripL (p s : List UInt8) : Option (List UInt8) := if p.isPrefixOf s then some (s.drop p.length) else none
/-- a span, the total, the bytes -/
abbrev PieceT := (Int × Int × Int) × List UInt8
def kindLn (t : List UInt8) : Bool := match stripL typeN t with
  | none => false
  | some k => kindB k
def rangeLn (first : Bool) (tot : Int) (t : List UInt8) : Option (Int × Int × Int) := match stripL rangeN t with
  | none => none
  | some v => match rangeR v with
    | none => none
    | some x => if first || (x.2.2 == tot) then some x else none
def dataL (x : Int × Int × Int) (s : List UInt8) : Nat ⊕ (PieceT × List UInt8) :=
  if s.length < (x.2.1 - x.1).toNat then .inl 13 else .inr ((x, s.take (x.2.1 - x.1).toNat), s.drop (x.2.1 - x.1).toNat)
/-- a range behind its first line, and what stands behind it -/
def pieceL (first : Bool) (tot : Int) (s : List UInt8) : Nat ⊕ (PieceT × List UInt8) := match lnL s with
  | none => .inl 13
  | some (t1, s1) => if kindLn t1 = false then .inl 2 else match lnL s1 with
    | none => .inl 13
    | some (t2, s2) => match rangeLn first tot t2 with
      | none => .inl 2
      | some x => match lnL s2 with
        | none => .inl 13
        | some (t3, s3) => if t3 ≠ [] then .inl 2 else dataL x s3
/-- the line end ahead of a boundary, but the first -/
def aheadR (n : Nat) (s : List UInt8) : Nat ⊕ List UInt8 := if n = 0 then .inr s else if s.length < 2 then .inl 13 else if s.take 2 = [13, 10] then .inr (s.drop 2) else .inl 2
def totOf (out : List PieceT) : Int := match out with
  | [] => 0
  | p :: _ => p.1.2.2
/-- one round: the end, or the ranges and what is left -/
def stepR (bnd : List UInt8) (out : List PieceT) (s : List UInt8) : (Nat ⊕ List PieceT) ⊕ (List PieceT × List UInt8) := match aheadR out.length s with
  | .inl e => .inl (.inl e)
  | .inr s => match lnL s with
    | none => .inl (.inl 13)
    | some (t, r) => if out ≠ [] ∧ t = [45, 45] ++ bnd ++ [45, 45] then (if r = [] then .inl (.inr out) else .inl (.inl 2))
      else if t = [45, 45] ++ bnd then (match pieceL out.isEmpty (totOf out) r with
        | .inl e => .inl (.inl e)
        | .inr (p, r) => .inr (out ++ [p], r))
      else .inl (.inl 2)
def readF (bnd : List UInt8) : Nat → List PieceT → List UInt8 → Nat ⊕ List PieceT
  | 0, _, _ => .inl 99
  | n + 1, out, s => match stepR bnd out s with
    | .inl r => r
    | .inr (out, s) => readF bnd n out s
/-- the ranges of a body -/
def multiL (bnd s : List UInt8) : Nat ⊕ List PieceT := if boundB bnd then readF bnd (s.length + 1) [] s else .inl 2
theorem lnL_some {s t r : List UInt8} (h : lnL s = some (t, r)) : ∃ i, crlf s = some i ∧ t = s.take i ∧ r = s.drop (i + 2) ∧ r.length + 2 ≤ s.length ∧ t.length = i := by
  unfold lnL at h
  cases hc : crlf s with
  | none => rw [hc] at h; cases h
  | some i =>
    rw [hc] at h
    simp only [Option.map_some, Option.some.injEq, Prod.mk.injEq] at h
    have := crlf_lt hc
    exact ⟨i, rfl, h.1.symm, h.2.symm, by rw [← h.2, List.length_drop]; omega, by rw [← h.1, List.length_take]; omega⟩
theorem lnL_none {s : List UInt8} (h : crlf s = none) : lnL s = none := by unfold lnL; rw [h]; rfl
theorem lnL_of {s : List UInt8} {i : Nat} (h : crlf s = some i) : lnL s = some (s.take i, s.drop (i + 2)) := by unfold lnL; rw [h]; rfl
theorem dataL_less {x : Int × Int × Int} {s r : List UInt8} {p : PieceT} (h : dataL x s = .inr (p, r)) : r.length ≤ s.length := by
  unfold dataL at h
  split at h
  · cases h
  · simp only [Sum.inr.injEq, Prod.mk.injEq] at h
    rw [← h.2, List.length_drop]; omega
theorem pieceL_less {first : Bool} {tot : Int} {s r : List UInt8} {p : PieceT} (h : pieceL first tot s = .inr (p, r)) : r.length ≤ s.length := by
  unfold pieceL at h
  split at h
  · cases h
  · rename_i t1 s1 h1
    obtain ⟨_, _, _, _, l1, _⟩ := lnL_some h1
    split at h
    · cases h
    · split at h
      · cases h
      · rename_i t2 s2 h2
        obtain ⟨_, _, _, _, l2, _⟩ := lnL_some h2
        split at h
        · cases h
        · split at h
          · cases h
          · rename_i t3 s3 h3
            obtain ⟨_, _, _, _, l3, _⟩ := lnL_some h3
            split at h
            · cases h
            · have := dataL_less h; omega
theorem aheadR_less {n : Nat} {s r : List UInt8} (h : aheadR n s = .inr r) : r.length ≤ s.length := by
  unfold aheadR at h
  split at h
  · cases h; exact Nat.le_refl _
  · split at h
    · cases h
    · split at h
      · cases h; rw [List.length_drop]; omega
      · cases h
theorem stepR_less {bnd : List UInt8} {out out' : List PieceT} {s r : List UInt8} (h : stepR bnd out s = .inr (out', r)) : r.length < s.length ∧ out'.length = out.length + 1 := by
  unfold stepR at h
  split at h
  · cases h
  · rename_i s1 ha
    have l0 := aheadR_less ha
    split at h
    · cases h
    · rename_i t1 r1 h1
      obtain ⟨_, _, _, _, l1, _⟩ := lnL_some h1
      split at h
      · split at h <;> cases h
      · split at h
        · split at h
          · cases h
          · rename_i p r2 hp
            have := pieceL_less hp
            simp only [Sum.inr.injEq, Prod.mk.injEq] at h
            obtain ⟨rfl, rfl⟩ := h
            exact ⟨by omega, by simp⟩
        · cases h
/-- how often is asked makes no difference, if it is often enough -/
theorem readF_fuel (bnd : List UInt8) : ∀ (n m : Nat) (out : List PieceT) (s : List UInt8), s.length < n → s.length < m → readF bnd n out s = readF bnd m out s
  | 0, _, _, _, h, _ => by omega
  | _, 0, _, _, _, h => by omega
  | n + 1, m + 1, out, s, hn, hm => by
    unfold readF
    cases hs : stepR bnd out s with
    | inl r => rfl
    | inr x =>
      obtain ⟨o, r⟩ := x
      have := (stepR_less hs).1
      exact readF_fuel bnd n m o r (by omega) (by omega)
/-- what the reading comes to from here on -/
def readG (bnd : List UInt8) (out : List PieceT) (s : List UInt8) : Nat ⊕ List PieceT := readF bnd (s.length + 1) out s
theorem readG_end {bnd : List UInt8} {out : List PieceT} {s : List UInt8} {r : Nat ⊕ List PieceT} (h : stepR bnd out s = .inl r) : readG bnd out s = r := by
  unfold readG readF; rw [h]
theorem readG_step {bnd : List UInt8} {out o : List PieceT} {s r : List UInt8} (h : stepR bnd out s = .inr (o, r)) : readG bnd out s = readG bnd o r := by
  have := (stepR_less h).1
  unfold readG
  conv => lhs; unfold readF
  rw [h]
  exact readF_fuel bnd _ _ o r (by omega) (by omega)
theorem multiL_eq {bnd s : List UInt8} (h : boundB bnd = true) : multiL bnd s = readG bnd [] s := by unfold multiL readG; rw [if_pos h]
theorem multiL_no {bnd s : List UInt8} (h : boundB bnd = false) : multiL bnd s = .inl 2 := by unfold multiL; rw [h]; rfl
/-! ### what is told -/
theorem bound_no {s : List UInt8} (h : boundB s = true) : ∀ c ∈ s, c ≠ 13 := by
  unfold boundB at h
  simp only [Bool.and_eq_true, List.all_eq_true] at h
  intro c hc
  have := h.1 c hc
  rintro rfl
  exact absurd this (by decide)
theorem dec_no13 (m : Nat) : ∀ c ∈ Lib.decDigits m, c ≠ 13 := by
  intro c hc
  have := List.all_eq_true.1 (dec_all m).1 c hc
  rintro rfl; exact absurd this (by decide)
theorem itoa_no13 {x : Int} (h : 0 ≤ x) : ∀ c ∈ Lib.itoa x, c ≠ 13 := by
  obtain ⟨m, rfl⟩ : ∃ m : Nat, x = m := ⟨x.toNat, by omega⟩
  rw [itoa_nat]; exact dec_no13 m
theorem content_no13 (f t n : Int) : ∀ c ∈ contentL f t n, c ≠ 13 := by
  intro c hc
  unfold contentL at hc
  split at hc
  · rename_i h
    obtain ⟨h0, h1, h2, h3, h4, h5⟩ := cont_parts h
    unfold headC at hc
    simp only [List.mem_append] at hc
    rcases hc with ((((hc | hc) | hc) | hc) | hc) | hc
    · rintro rfl; revert hc; decide
    · exact itoa_no13 h0 c hc
    · rintro rfl; revert hc; decide
    · exact itoa_no13 (by omega) c hc
    · rintro rfl; revert hc; decide
    · split at hc
      · rintro rfl; revert hc; decide
      · exact itoa_no13 (by omega) c hc
  · cases hc
def objL (obj : List UInt8) (s : Int × Int) : List UInt8 := (obj.drop s.1.toNat).take (s.2 - s.1).toNat
section
variable (tot : Int) (kind bnd : List UInt8)
/-- a range's head, without its last line end -/
def segH (s : Int × Int) (rest : List UInt8) : List UInt8 := ([45, 45] ++ bnd) ++ 13 :: 10 :: ((typeN ++ kind) ++ 13 :: 10 :: ((rangeN ++ contentL s.1 s.2 tot) ++ 13 :: 10 :: ([] ++ 13 :: 10 :: rest)))
def endT : List UInt8 := [13, 10] ++ (([45, 45] ++ bnd ++ [45, 45]) ++ 13 :: 10 :: [])
/-- the bytes of a body -/
def bodyL (obj : List UInt8) : List (Int × Int) → List UInt8 → List UInt8
  | [], _ => endT bnd
  | s :: l, ah => ah ++ segH tot kind bnd s (objL obj s ++ bodyL obj l [13, 10])
end
theorem bodyL_cons (tot : Int) (kind bnd obj : List UInt8) (s : Int × Int) (l : List (Int × Int)) (ah : List UInt8) : bodyL tot kind bnd obj (s :: l) ah = ah ++ segH tot kind bnd s (objL obj s ++ bodyL tot kind bnd obj l [13, 10]) := rfl
theorem bodyL_nil (tot : Int) (kind bnd obj : List UInt8) (ah : List UInt8) : bodyL tot kind bnd obj [] ah = endT bnd := rfl
/-- what is asked of spans, a kind, a boundary -/
structure BodyOk (tot : Int) (kind bnd obj : List UInt8) (l : List (Int × Int)) : Prop where
  span : ∀ s ∈ l, contB s.1 s.2 tot = true ∧ s.2 ≤ obj.length
  hk : kindB kind = true
  hk13 : ∀ c ∈ kind, c ≠ 13
  hb : boundB bnd = true
theorem BodyOk.tail {tot : Int} {kind bnd obj : List UInt8} {s : Int × Int} {l : List (Int × Int)} (h : BodyOk tot kind bnd obj (s :: l)) : BodyOk tot kind bnd obj l := ⟨fun x hx => h.span x (List.mem_cons_of_mem _ hx), h.hk, h.hk13, h.hb⟩
theorem lnL_hit (a t : List UInt8) (h : ∀ c ∈ a, c ≠ 13) : lnL (a ++ 13 :: 10 :: t) = some (a, t) := by
  rw [lnL_of (crlf_hit a t h)]
  simp only [List.take_left, Option.some.injEq, Prod.mk.injEq, true_and]
  rw [show a ++ 13 :: 10 :: t = (a ++ [13, 10]) ++ t from by simp, show a.length + 2 = (a ++ [13, 10]).length from by simp, List.drop_left]
theorem lnL_cut (a t : List UInt8) (k : Nat) (h : ∀ c ∈ a, c ≠ 13) (hk : k < a.length + 2) : lnL ((a ++ 13 :: 10 :: t).take k) = none := lnL_none (crlf_cut a t k h hk)
theorem take_line (a t : List UInt8) (k : Nat) (hk : ¬ k < a.length + 2) : (a ++ 13 :: 10 :: t).take k = a ++ 13 :: 10 :: t.take (k - (a.length + 2)) := by
  rw [show a ++ 13 :: 10 :: t = (a ++ [13, 10]) ++ t from by simp, List.take_append, List.take_of_length_le (by simp; omega)]
  simp
theorem no13_app {a b : List UInt8} (ha : ∀ c ∈ a, c ≠ 13) (hb : ∀ c ∈ b, c ≠ 13) : ∀ c ∈ a ++ b, c ≠ 13 := fun c hc => by
  rcases List.mem_append.1 hc with h | h
  · exact ha c h
  · exact hb c h
theorem typeN_no : ∀ c ∈ typeN, c ≠ 13 := by decide
theorem rangeN_no : ∀ c ∈ rangeN, c ≠ 13 := by decide
theorem dash_no {b : List UInt8} (h : ∀ c ∈ b, c ≠ 13) : ∀ c ∈ [45, 45] ++ b, c ≠ 13 := no13_app (by decide) h
theorem pre_app (p s : List UInt8) : p.isPrefixOf (p ++ s) = true := by
  induction p with
  | nil => simp
  | cons c p ih => simp only [List.cons_append, List.isPrefixOf, BEq.rfl, Bool.true_and, ih]
theorem strip_app (p s : List UInt8) : stripL p (p ++ s) = some s := by unfold stripL; rw [if_pos (pre_app p s), List.drop_left]
theorem kindLn_app {k : List UInt8} (h : kindB k = true) : kindLn (typeN ++ k) = true := by unfold kindLn; rw [strip_app]; exact h
theorem rangeLn_app {first : Bool} {tot : Int} {f t : Int} {n : Int} (h : contB f t n = true) (ht : (first || (n == tot)) = true) : rangeLn first tot (rangeN ++ contentL f t n) = some (f, t, n) := by
  unfold rangeLn; rw [strip_app]; simp only; rw [rangeR_content h]; simp only; rw [ht]; rfl
/-- a range that was told, read from its second line on -/
theorem pieceL_told {tot : Int} {kind : List UInt8} {f t : Int} {first : Bool} {tot' : Int} (hc : contB f t tot = true) (hk : kindB kind = true) (hk13 : ∀ c ∈ kind, c ≠ 13) (ht : (first || (tot == tot')) = true) (r : List UInt8) :
    pieceL first tot' ((typeN ++ kind) ++ 13 :: 10 :: ((rangeN ++ contentL f t tot) ++ 13 :: 10 :: ([] ++ 13 :: 10 :: r))) = dataL (f, t, tot) r := by
  unfold pieceL
  rw [lnL_hit _ _ (no13_app typeN_no hk13)]
  simp only
  rw [kindLn_app hk, if_neg (by simp), lnL_hit _ _ (no13_app rangeN_no (content_no13 f t tot))]
  simp only
  rw [rangeLn_app hc ht]
  simp only
  rw [lnL_hit [] r (by simp)]
  simp
theorem pieceL_cut {tot : Int} {kind : List UInt8} {f t : Int} {first : Bool} {tot' : Int} (hc : contB f t tot = true) (hk : kindB kind = true) (hk13 : ∀ c ∈ kind, c ≠ 13) (ht : (first || (tot == tot')) = true) (r : List UInt8) (k : Nat) :
    pieceL first tot' (((typeN ++ kind) ++ 13 :: 10 :: ((rangeN ++ contentL f t tot) ++ 13 :: 10 :: ([] ++ 13 :: 10 :: r))).take k) = .inl 13 ∨
    ∃ j, k = (typeN ++ kind).length + 2 + ((rangeN ++ contentL f t tot).length + 2 + (0 + 2 + j)) ∧ pieceL first tot' (((typeN ++ kind) ++ 13 :: 10 :: ((rangeN ++ contentL f t tot) ++ 13 :: 10 :: ([] ++ 13 :: 10 :: r))).take k) = dataL (f, t, tot) (r.take j) := by
  by_cases h1 : k < (typeN ++ kind).length + 2
  · left; unfold pieceL; rw [lnL_cut _ _ _ (no13_app typeN_no hk13) h1]
  · rw [take_line _ _ _ h1]
    by_cases h2 : k - ((typeN ++ kind).length + 2) < (rangeN ++ contentL f t tot).length + 2
    · left; unfold pieceL
      rw [lnL_hit _ _ (no13_app typeN_no hk13)]
      simp only
      rw [kindLn_app hk, if_neg (by simp), lnL_cut _ _ _ (no13_app rangeN_no (content_no13 f t tot)) h2]
    · rw [take_line _ _ _ h2]
      by_cases h3 : k - ((typeN ++ kind).length + 2) - ((rangeN ++ contentL f t tot).length + 2) < ([] : List UInt8).length + 2
      · left; unfold pieceL
        rw [lnL_hit _ _ (no13_app typeN_no hk13)]
        simp only
        rw [kindLn_app hk, if_neg (by simp), lnL_hit _ _ (no13_app rangeN_no (content_no13 f t tot))]
        simp only
        rw [rangeLn_app hc ht]
        simp only
        rw [lnL_cut [] r _ (by simp) h3]
      · rw [take_line [] _ _ h3]
        right
        refine ⟨_, ?_, pieceL_told hc hk hk13 ht _⟩
        simp only [List.length_nil] at h3 ⊢
        omega
theorem objL_len {obj : List UInt8} {s : Int × Int} {tot : Int} (hc : contB s.1 s.2 tot = true) (ho : s.2 ≤ obj.length) : (objL obj s).length = (s.2 - s.1).toNat := by
  obtain ⟨h0, h1, _⟩ := cont_parts hc
  unfold objL; rw [List.length_take, List.length_drop]; omega
theorem dataL_told {f t n : Int} (o r : List UInt8) (h : o.length = (t - f).toNat) : dataL (f, t, n) (o ++ r) = .inr (((f, t, n), o), r) := by
  unfold dataL
  simp only
  rw [if_neg (by rw [List.length_append]; omega), ← h, List.take_left, List.drop_left]
def piecesL (tot : Int) (obj : List UInt8) (l : List (Int × Int)) : List PieceT := l.map fun s => ((s.1, s.2, tot), objL obj s)
def aheadOf (out : List PieceT) : List UInt8 := if out = [] then [] else [13, 10]
theorem aheadR_told (out : List PieceT) (r : List UInt8) : aheadR out.length (aheadOf out ++ r) = .inr r := by
  unfold aheadR aheadOf
  cases out with
  | nil => simp
  | cons p o => simp
theorem totOf_told {tot : Int} {out : List PieceT} (h : ∀ p ∈ out, p.1.2.2 = tot) : (out.isEmpty || (tot == totOf out)) = true := by
  cases out with
  | nil => rfl
  | cons p o => simp [totOf, h p (by simp)]
theorem ne_dash (b : List UInt8) : [45, 45] ++ b ≠ [45, 45] ++ b ++ [45, 45] := fun h => by
  have := congrArg List.length h; simp at this
theorem stepR_told {tot : Int} {kind bnd obj : List UInt8} {s : Int × Int} {l : List (Int × Int)} {out : List PieceT} (h : BodyOk tot kind bnd obj (s :: l)) (ho : ∀ p ∈ out, p.1.2.2 = tot) (r : List UInt8) :
    stepR bnd out (aheadOf out ++ segH tot kind bnd s (objL obj s ++ r)) = .inr (out ++ [((s.1, s.2, tot), objL obj s)], r) := by
  obtain ⟨hc, hl⟩ := h.span s (by simp)
  unfold stepR
  rw [aheadR_told]
  simp only
  unfold segH
  rw [lnL_hit _ _ (dash_no (bound_no h.hb))]
  simp only
  rw [if_neg (fun hh => ne_dash bnd hh.2), if_pos trivial, pieceL_told hc h.hk h.hk13 (totOf_told ho), dataL_told _ _ (objL_len hc hl)]
/-- the whole body, and whatever stands behind -/
theorem readG_told {tot : Int} {kind bnd obj : List UInt8} (more : List UInt8) : ∀ (l : List (Int × Int)) (out : List PieceT), BodyOk tot kind bnd obj l → (∀ p ∈ out, p.1.2.2 = tot) → (out ≠ [] ∨ l ≠ []) →
    readG bnd out (bodyL tot kind bnd obj l (aheadOf out) ++ more) = if more = [] then .inr (out ++ piecesL tot obj l) else .inl 2
  | [], out, h, ho, hne => by
    have hne : out ≠ [] := by rcases hne with h | h; exact h; exact absurd rfl h
    apply readG_end
    rw [bodyL_nil]
    unfold stepR endT
    have : aheadR out.length ([13, 10] ++ (([45, 45] ++ bnd ++ [45, 45]) ++ 13 :: 10 :: []) ++ more) = .inr (([45, 45] ++ bnd ++ [45, 45]) ++ 13 :: 10 :: more) := by
      have := aheadR_told out (([45, 45] ++ bnd ++ [45, 45]) ++ 13 :: 10 :: more)
      unfold aheadOf at this; rw [if_neg hne] at this
      simpa using this
    rw [this]
    simp only
    rw [lnL_hit _ _ (no13_app (dash_no (bound_no h.hb)) (by decide))]
    simp only
    rw [if_pos ⟨hne, trivial⟩]
    by_cases hm : more = []
    · rw [if_pos hm, if_pos hm]; simp [piecesL]
    · rw [if_neg hm, if_neg hm]
  | s :: l, out, h, ho, _ => by
    have hs := stepR_told h ho (bodyL tot kind bnd obj l [13, 10] ++ more)
    have e : bodyL tot kind bnd obj (s :: l) (aheadOf out) ++ more = aheadOf out ++ segH tot kind bnd s (objL obj s ++ (bodyL tot kind bnd obj l [13, 10] ++ more)) := by
      rw [bodyL_cons]; unfold segH; simp only [List.append_assoc, List.cons_append, List.nil_append]
    rw [e, readG_step hs]
    have hout : (out ++ [((s.1, s.2, tot), objL obj s)]) ≠ [] := by simp
    have ih := readG_told (tot := tot) (kind := kind) (bnd := bnd) (obj := obj) more l (out ++ [((s.1, s.2, tot), objL obj s)]) h.tail (fun p hp => by
      rcases List.mem_append.1 hp with hp | hp
      · exact ho p hp
      · simp only [List.mem_singleton] at hp; rw [hp]) (.inl hout)
    rw [show aheadOf (out ++ [((s.1, s.2, tot), objL obj s)]) = [13, 10] from if_neg hout] at ih
    rw [ih]
    simp [piecesL]
/-- cut off -/
theorem readG_cut {tot : Int} {kind bnd obj : List UInt8} : ∀ (l : List (Int × Int)) (out : List PieceT) (k : Nat), BodyOk tot kind bnd obj l → (∀ p ∈ out, p.1.2.2 = tot) → (out ≠ [] ∨ l ≠ []) → k < (bodyL tot kind bnd obj l (aheadOf out)).length →
    readG bnd out ((bodyL tot kind bnd obj l (aheadOf out)).take k) = .inl 13
  | [], out, k, h, ho, hne, hk => by
    have hne : out ≠ [] := by rcases hne with h | h; exact h; exact absurd rfl h
    have hlen : out.length ≠ 0 := fun h => hne (List.length_eq_zero_iff.1 h)
    apply readG_end
    rw [bodyL_nil] at hk ⊢
    unfold stepR
    unfold endT at hk ⊢
    by_cases h2 : k < 2
    · have : aheadR out.length (([13, 10] ++ (([45, 45] ++ bnd ++ [45, 45]) ++ 13 :: 10 :: [])).take k) = .inl 13 := by
        unfold aheadR; rw [if_neg hlen, if_pos (by rw [List.length_take]; omega)]
      rw [this]
    · have : aheadR out.length (([13, 10] ++ (([45, 45] ++ bnd ++ [45, 45]) ++ 13 :: 10 :: [])).take k) = .inr ((([45, 45] ++ bnd ++ [45, 45]) ++ 13 :: 10 :: []).take (k - 2)) := by
        have e : ([13, 10] ++ (([45, 45] ++ bnd ++ [45, 45]) ++ 13 :: 10 :: [])).take k = [13, 10] ++ (([45, 45] ++ bnd ++ [45, 45]) ++ 13 :: 10 :: []).take (k - 2) := by
          rw [List.take_append, List.take_of_length_le (by simp; omega)]; rfl
        rw [e]
        have := aheadR_told out ((([45, 45] ++ bnd ++ [45, 45]) ++ 13 :: 10 :: []).take (k - 2))
        unfold aheadOf at this; rw [if_neg hne] at this; exact this
      rw [this]
      simp only
      rw [lnL_cut _ [] _ (no13_app (dash_no (bound_no h.hb)) (by decide)) (by simp at hk ⊢; omega)]
  | s :: l, out, k, h, ho, _, hk => by
    obtain ⟨hc, hl⟩ := h.span s (by simp)
    have hol := objL_len hc hl
    rw [bodyL_cons] at hk ⊢
    by_cases h0 : k < (aheadOf out).length
    · apply readG_end
      unfold stepR
      have hne : out ≠ [] := by
        rintro rfl; simp [aheadOf] at h0
      have hlen : out.length ≠ 0 := fun h => hne (List.length_eq_zero_iff.1 h)
      have h2 : (aheadOf out).length = 2 := by unfold aheadOf; rw [if_neg hne]; rfl
      have : aheadR out.length ((aheadOf out ++ segH tot kind bnd s (objL obj s ++ bodyL tot kind bnd obj l [13, 10])).take k) = .inl 13 := by
        unfold aheadR; rw [if_neg hlen, if_pos (by rw [List.length_take]; omega)]
      rw [this]
    · rw [List.take_append, List.take_of_length_le (by omega)]
      obtain ⟨k1, hk1⟩ : ∃ k1, k - (aheadOf out).length = k1 := ⟨_, rfl⟩
      rw [hk1]
      rw [List.length_append] at hk
      have hk2 : k1 < (segH tot kind bnd s (objL obj s ++ bodyL tot kind bnd obj l [13, 10])).length := by omega
      clear hk hk1 h0
      have hA := aheadR_told out ((segH tot kind bnd s (objL obj s ++ bodyL tot kind bnd obj l [13, 10])).take k1)
      have hD := dash_no (bound_no h.hb)
      by_cases h1 : k1 < ([45, 45] ++ bnd).length + 2
      · apply readG_end
        unfold stepR
        rw [hA]
        simp only
        unfold segH
        rw [lnL_cut _ _ _ hD h1]
      · have hP := pieceL_cut hc h.hk h.hk13 (totOf_told ho) (objL obj s ++ bodyL tot kind bnd obj l [13, 10]) (k1 - (([45, 45] ++ bnd).length + 2))
        have hS : stepR bnd out (aheadOf out ++ (segH tot kind bnd s (objL obj s ++ bodyL tot kind bnd obj l [13, 10])).take k1) = match pieceL out.isEmpty (totOf out) (((typeN ++ kind) ++ 13 :: 10 :: ((rangeN ++ contentL s.1 s.2 tot) ++ 13 :: 10 :: ([] ++ 13 :: 10 :: (objL obj s ++ bodyL tot kind bnd obj l [13, 10])))).take (k1 - (([45, 45] ++ bnd).length + 2))) with
            | .inl e => .inl (.inl e)
            | .inr (p, r) => .inr (out ++ [p], r) := by
          unfold stepR
          rw [hA]
          simp only
          unfold segH
          rw [take_line _ _ _ h1, lnL_hit _ _ hD]
          simp only
          rw [if_neg (fun hh => ne_dash bnd hh.2), if_pos trivial]
        rcases hP with hP | ⟨j, hj, hP⟩
        · rw [hP] at hS
          exact readG_end hS
        · rw [hP] at hS
          by_cases hjo : j < (objL obj s).length
          · have hd : dataL (s.1, s.2, tot) ((objL obj s ++ bodyL tot kind bnd obj l [13, 10]).take j) = .inl 13 := by
              unfold dataL; rw [if_pos (by rw [List.length_take]; simp only; omega)]
            rw [hd] at hS
            exact readG_end hS
          · have ej : (objL obj s ++ bodyL tot kind bnd obj l [13, 10]).take j = objL obj s ++ (bodyL tot kind bnd obj l [13, 10]).take (j - (objL obj s).length) := by
              rw [List.take_append, List.take_of_length_le (by omega)]
            rw [ej, dataL_told _ _ hol] at hS
            rw [readG_step hS]
            have hout : (out ++ [((s.1, s.2, tot), objL obj s)]) ≠ [] := by simp
            have ih := readG_cut (tot := tot) (kind := kind) (bnd := bnd) (obj := obj) l (out ++ [((s.1, s.2, tot), objL obj s)]) (j - (objL obj s).length) h.tail (fun p hp => by
              rcases List.mem_append.1 hp with hp | hp
              · exact ho p hp
              · simp only [List.mem_singleton] at hp; rw [hp]) (.inl hout)
            rw [show aheadOf (out ++ [((s.1, s.2, tot), objL obj s)]) = [13, 10] from if_neg hout] at ih
            refine ih ?_
            unfold segH at hk2
            simp only [List.length_append, List.length_cons, List.length_nil] at hk2 hj h1 hjo ⊢
            omega
theorem multiL_body {tot : Int} {kind bnd obj : List UInt8} {l : List (Int × Int)} (more : List UInt8) (h : BodyOk tot kind bnd obj l) (hl : l ≠ []) : multiL bnd (bodyL tot kind bnd obj l [] ++ more) = if more = [] then .inr (piecesL tot obj l) else .inl 2 := by
  rw [multiL_eq h.hb]
  exact readG_told more l [] h (by simp) (.inr hl)
theorem multiL_cut {tot : Int} {kind bnd obj : List UInt8} {l : List (Int × Int)} {k : Nat} (h : BodyOk tot kind bnd obj l) (hl : l ≠ []) (hk : k < (bodyL tot kind bnd obj l []).length) : multiL bnd ((bodyL tot kind bnd obj l []).take k) = .inl 13 := by
  rw [multiL_eq h.hb]
  exact readG_cut l [] k h (by simp) (.inr hl) hk
end Go.Proofs.YtnmfmcmokdoieaaGreatDoor
