/- Plain mathematics of layer 16: the document's example. No conditions. -/
import Derived.Test.YtdmhjabnjbpliaaGreatDoorJClientL
set_option linter.unusedVariables false
set_option linter.unusedSimpArgs false
namespace Go.Proofs.YtdmhjabnjbpliaaGreatDoor
def awkH : List UInt8 := [72, 84, 84, 80, 47, 49, 46, 49, 32, 50, 48, 54, 32, 80, 97, 114, 116, 105, 97, 108, 32, 67, 111, 110, 116, 101, 110, 116, 13, 10, 67, 111, 110, 116, 101, 110, 116, 45, 82, 97, 110, 103, 101, 58, 32, 98, 121, 116, 101, 115, 32, 51, 45, 53, 47, 57, 13, 10, 67, 111, 110, 116, 101, 110, 116, 45, 76, 101, 110, 103, 116, 104, 58, 32, 51, 13, 10, 13, 10]
def awkB : List UInt8 := [72, 84, 84, 80, 47, 49, 46, 49, 32, 50, 48, 54, 32, 80, 97, 114, 116, 105, 97, 108, 32, 67, 111, 110, 116, 101, 110, 116, 13, 10, 67, 111, 110, 116, 101, 110, 116, 45, 82, 97, 110, 103, 101, 58, 32, 98, 121, 116, 101, 115, 32, 51, 45, 53, 47, 57, 13, 10, 67, 111, 110, 116, 101, 110, 116, 45, 76, 101, 110, 103, 116, 104, 58, 32, 51, 13, 10, 13, 10, 97, 98]
/-- the first line of an answer of one span -/
def l206 : List UInt8 := [72, 84, 84, 80, 47, 49, 46, 49, 32, 50, 48, 54, 32, 80, 97, 114, 116, 105, 97, 108, 32, 67, 111, 110, 116, 101, 110, 116]
theorem line206 (fs : List Fld) : lineP ([], [], 206, fs) = l206 := by
  unfold lineP
  rw [if_pos (show tellsB [] [] 206 = true by decide)]
  show httpB ++ [32] ++ Lib.itoa 206 ++ [32] ++ reason 206 = l206
  rw [itoa3 206 (by omega) (by omega)]
  decide
/-- the head of an answer of one span -/
theorem put_text {f t n sz : Int} (h : contB f t n = true) (hs : -1 ≤ sz) (hs2 : sz ≤ 1099511627776) : (putH ([], [], 206, headF 206 (oneF f t n) sz)).1 = l206 ++ [13, 10] ++ (crN ++ [58, 32] ++ (headC f t ++ (if n = -1 then [42] else Lib.itoa n)) ++ [13, 10] ++ (sizeF sz).1 ++ [58, 32] ++ (sizeF sz).2 ++ [13, 10, 13, 10]) := by
  have hput := put_oneF (sz := sz) h hs hs2
  have e1 : (put (headF 206 (oneF f t n) sz)).1 = block (headF 206 (oneF f t n) sz) := by
    unfold put at hput ⊢
    by_cases h1 : (headF 206 (oneF f t n) sz).all right = true
    · rw [if_pos h1] at hput ⊢
      by_cases h2 : 100 < (headF 206 (oneF f t n) sz).length ∨ 65536 < (block (headF 206 (oneF f t n) sz)).length
      · rw [if_pos h2] at hput; cases hput
      · rw [if_neg h2]
    · rw [if_neg h1] at hput; cases hput
  rw [putH_good (T := ([], [], 206, headF 206 (oneF f t n) sz)) (show (tellsB [] [] 206 || asksB [] [] 206) = true by decide) hput]
  simp only
  rw [line206, e1]
  unfold block lines headF oneF
  rw [if_pos (show bodB 206 = true by decide)]
  have e2 : contentL f t n = headC f t ++ (if n = -1 then [42] else Lib.itoa n) := by unfold contentL; rw [if_pos h]
  rw [e2]
  simp [putL]
theorem dec1 {n : Nat} (h : n < 10) : Lib.itoa n = [UInt8.ofNat (48 + n)] := by
  unfold Lib.itoa
  rw [if_neg (by omega)]
  show Lib.decDigits n = _
  rw [Lib.decDigits, dif_pos (by omega)]
theorem awk_eq : (putH ([], [], 206, headF 206 (oneF 3 6 9) 3)).1 = awkH := by
  rw [put_text (by decide) (by omega) (by omega)]
  unfold headC sizeF
  rw [if_neg (show ¬ ((9 : Int) = -1) by decide), if_neg (show ¬ ((3 : Int) = -1) by decide)]
  rw [show Lib.itoa 3 = [51] from dec1 (n := 3) (by omega), show Lib.itoa (6 - 1) = [53] from dec1 (n := 5) (by omega), show Lib.itoa 9 = [57] from dec1 (n := 9) (by omega)]
  decide
theorem awk_now : nowL getB awkB = .body ⟨206, headF 206 (oneF 3 6 9) 3, 1, 3, 2, 3, 6, []⟩ ⟨1, 1, CkT.start, false, false⟩ [97, 98] := by
  have hc : contB 3 6 9 = true := by decide
  have hput := put_oneF (sz := 3) hc (by omega) (by omega)
  have hT : tellB 206 (oneF 3 6 9) 3 = true := by
    rw [tellB_iff]
    refine ⟨by decide, by decide, by omega, by omega, ?_, ?_⟩
    · unfold oneF; rw [ofN_one]; rfl
    · unfold oneF; rw [ofN_one]; rfl
  have hH : (putH ([], [], 206, headF 206 (oneF 3 6 9) 3)).2 = 0 := by
    rw [putH_good (T := ([], [], 206, headF 206 (oneF 3 6 9) 3)) (show (tellsB [] [] 206 || asksB [] [] 206) = true by decide) hput]
  have hk := back_eq ([], [], 206, headF 206 (oneF 3 6 9) 3) [] hH
  have hcu := fun k hk => cut_eq ([], [], 206, headF 206 (oneF 3 6 9) 3) k hH hk
  have h0 : ¬ ((206 : Int) = 0) := by decide
  simp only [if_neg h0, List.append_nil] at hk hcu
  have hpos := putH_pos hH
  have hfr := frame_head hT
  rw [if_pos (show bodB 206 = true by decide), if_neg (show ¬ ((3 : Int) = -1) by decide)] at hfr
  have h1 := now_head getB (B := (putH ([], [], 206, headF 206 (oneF 3 6 9) 3)).1) (fun k hk => by rw [hcu k hk]) (by rw [hk]) (by intro e; rw [e] at hpos; simp at hpos)
  rw [hk] at h1
  have hh : heedR getB 206 (headF 206 (oneF 3 6 9) 3) = .body ⟨206, headF 206 (oneF 3 6 9) 3, 1, 3, 2, 3, 6, []⟩ (FrT.new 1 3) [] := by
    unfold heedR
    rw [hfr]
    simp only [ne_eq, not_true_eq_false, if_false]
    rw [if_neg (by decide), if_pos trivial]
    unfold rangedR
    rw [oneF_get, rangeR_content hc]
    simp only
    rw [if_neg]
    · rfl
    · rintro ⟨_, h4⟩
      exact h4 (by decide)
  have h2 : nowL getB (putH ([], [], 206, headF 206 (oneF 3 6 9) 3)).1 = .body ⟨206, headF 206 (oneF 3 6 9) 3, 1, 3, 2, 3, 6, []⟩ (FrT.new 1 3) [] := h1.trans hh
  have i1 := inv_now getB (putH ([], [], 206, headF 206 (oneF 3 6 9) 3)).1
  rw [h2] at i1
  have e : awkB = (putH ([], [], 206, headF 206 (oneF 3 6 9) 3)).1 ++ [97, 98] := by rw [awk_eq]; rfl
  rw [e, now_app, h2, fold_fixed getB [97, 98] [] i1 rfl (by decide)]
  rfl
end Go.Proofs.YtdmhjabnjbpliaaGreatDoor
