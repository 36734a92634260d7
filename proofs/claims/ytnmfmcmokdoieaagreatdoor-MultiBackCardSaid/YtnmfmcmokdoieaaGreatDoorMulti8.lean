/- Layer 11: the ranges of a body: multi.Read. A contract; conditions: the library's own variables hold what their types allow; a body of at most a thousand million bytes. -/
import Derived.Test.YtnmfmcmokdoieaaGreatDoorMulti7
import Derived.Deep.LoopGhost
set_option linter.unusedVariables false
set_option linter.unusedSimpArgs false
namespace Go.Proofs.YtnmfmcmokdoieaaGreatDoor
open Go.RowKit
/-- ranges and where their bytes lie, as cells -/
def flatQ (L : List (PieceT × Value)) : List Value := L.flatMap fun x => [.int .i64 x.1.1.1, .int .i64 x.1.1.2.1, .int .i64 x.1.1.2.2, x.2]
theorem flatQ_snoc (L : List (PieceT × Value)) (x : PieceT × Value) : flatQ (L ++ [x]) = flatQ L ++ [.int .i64 x.1.1.1, .int .i64 x.1.1.2.1, .int .i64 x.1.1.2.2, x.2] := by
  unfold flatQ; rw [List.flatMap_append]; simp
theorem flatQ_len (L : List (PieceT × Value)) : (flatQ L).length = L.length * 4 := by
  induction L with
  | nil => rfl
  | cons x L ih => simp only [flatQ, List.flatMap_cons, List.length_append, List.length_cons, List.length_nil] at *; omega
/-- a list of ranges that were read -/
def Pieces (w : World) (v : Value) (ps : List PieceT) : Prop := ∃ L : List (PieceT × Value), L.map (·.1) = ps ∧ Sl w v L.length (flatQ L) ∧ ∀ x ∈ L, Byts w x.2 x.1.2
/-- how a body's ranges come back -/
def ReadEnd (w : World) (r : Nat ⊕ List PieceT) (e : Ending) (w' : World) : Prop := Gr w w' ∧ match r with
  | .inl n => e = .returned (.tuple #[.slice none 0 0, .int .i64 (n : Int)])
  | .inr ps => ∃ v, e = .returned (.tuple #[v, .int .i64 0]) ∧ Pieces w' v ps
theorem own_base {W0 W1 w : World} {e : TypeId} {size n : Nat} {v : Value} {xs : List Value} (h : Own W1 w e size v n xs) (hb : W0.heap.size ≤ W1.heap.size) : Own W0 w e size v n xs := by
  refine ⟨h.1, ?_⟩
  rcases h.2 with hn | ⟨b, cap, cur, hv, hbb, r⟩
  · exact .inl hn
  · exact .inr ⟨b, cap, cur, hv, Nat.le_trans hb hbb, r⟩
theorem own_byts {W0 w : World} {v : Value} {l : List UInt8} (h : Own W0 w 5 1 v l.length (l.map byt)) : Byts w v l := h.sl (by decide)
theorem Scan.byo {w w' : World} {g : Nat} {l : List UInt8} {e : Nat} {r : Option Nat} (h : Scan w g l e) (hr : ∀ b, r = some b → g < b) (hb : w.grownBy w' r) : Scan w' g l e := by
  cases r with
  | none => exact h.gr (gr_none hb)
  | some b => exact h.byk (hr b rfl) hb
/-! ### a round, as the program walks it -/
def aheadP (out : List PieceT) (s : List UInt8) : List UInt8 × Nat := if out = [] then (s, 0) else (s.drop 2, mustS (s.take 2 == [13, 10]) 0)
theorem pieceE_ne {first : Bool} {tot : Int} {l : List UInt8} {e n : Nat} (h : pieceE first tot l e = .inl n) : n ≠ 0 := by
  unfold pieceE at h
  split at h
  · rename_i he; injection h with h; subst h; exact he
  · unfold pieceL dataL at h
    repeat (first | split at h | (simp only [Sum.inl.injEq] at h; subst h; decide) | cases h)
theorem round_short {bnd : List UInt8} {out : List PieceT} {s : List UInt8} (h : out ≠ []) (hs : s.length < 2) : stepR bnd out s = .inl (.inl 13) := by
  have hl : out.length ≠ 0 := fun e => h (List.length_eq_zero_iff.1 e)
  unfold stepR aheadR; rw [if_neg hl, if_pos hs]
theorem round_last {bnd : List UInt8} {out : List PieceT} {s t s2 : List UInt8} (h : out ≠ []) (hs : ¬ s.length < 2) (hl : lineS (aheadP out s).1 (aheadP out s).2 = (t, s2, 0)) (ht : t = [45, 45] ++ bnd ++ [45, 45]) : stepR bnd out s = .inl (if s2 = [] then .inr out else .inl 2) := by
  have hn : out.length ≠ 0 := fun e => h (List.length_eq_zero_iff.1 e)
  unfold aheadP at hl
  rw [if_neg h] at hl
  simp only at hl
  unfold stepR aheadR
  rw [if_neg hn, if_neg hs]
  by_cases hc : s.take 2 = [13, 10]
  · rw [if_pos hc]
    have hb : (s.take 2 == [13, 10]) = true := by simpa using hc
    rw [hb, mustS_yes] at hl
    simp only
    cases h1 : lnL (s.drop 2) with
    | none => rw [lineS_none h1] at hl; cases hl
    | some x =>
      rw [lineS_some h1] at hl
      simp only [Prod.mk.injEq] at hl
      obtain ⟨rfl, rfl, _⟩ := hl
      simp only
      rw [if_pos ⟨h, ht⟩]
      split <;> rfl
  · have hb : (s.take 2 == [13, 10]) = false := by simpa using hc
    rw [hb, mustS_no, lineS_2] at hl
    cases hl
theorem round_next {bnd : List UInt8} {out : List PieceT} {s t s2 : List UInt8} {e2 : Nat} (hs : out ≠ [] → ¬ s.length < 2) (hl : lineS (aheadP out s).1 (aheadP out s).2 = (t, s2, e2)) (ht : ¬ (e2 = 0 ∧ out ≠ [] ∧ t = [45, 45] ++ bnd ++ [45, 45])) :
    stepR bnd out s = match pieceE out.isEmpty (totOf out) s2 (mustS (t == [45, 45] ++ bnd) e2) with
      | .inl n => .inl (.inl n)
      | .inr (p, r) => .inr (out ++ [p], r) := by
  have core : ∀ s1, lineS s1 0 = (t, s2, e2) → (match lnL s1 with
    | none => .inl (.inl 13)
    | some (t, r) => if out ≠ [] ∧ t = [45, 45] ++ bnd ++ [45, 45] then (if r = [] then .inl (.inr out) else .inl (.inl 2))
      else if t = [45, 45] ++ bnd then (match pieceL out.isEmpty (totOf out) r with
        | .inl e => .inl (.inl e)
        | .inr (p, r) => .inr (out ++ [p], r))
      else .inl (.inl 2) : (Nat ⊕ List PieceT) ⊕ (List PieceT × List UInt8)) = match pieceE out.isEmpty (totOf out) s2 (mustS (t == [45, 45] ++ bnd) e2) with
      | .inl n => .inl (.inl n)
      | .inr (p, r) => .inr (out ++ [p], r) := by
    intro s1 hl
    cases h1 : lnL s1 with
    | none =>
      rw [lineS_none h1] at hl
      simp only [Prod.mk.injEq] at hl
      obtain ⟨rfl, rfl, rfl⟩ := hl
      rw [mustS_13]; rfl
    | some x =>
      obtain ⟨t', r'⟩ := x
      rw [lineS_some h1] at hl
      simp only [Prod.mk.injEq] at hl
      obtain ⟨rfl, rfl, rfl⟩ := hl
      simp only
      rw [if_neg (fun hh => ht ⟨rfl, hh.1, hh.2⟩)]
      by_cases hd : t' = [45, 45] ++ bnd
      · have hb : (t' == [45, 45] ++ bnd) = true := by simpa using hd
        rw [if_pos hd, hb, mustS_yes]; rfl
      · have hb : (t' == [45, 45] ++ bnd) = false := by simpa using hd
        rw [if_neg hd, hb, mustS_no]; rfl
  unfold aheadP at hl
  by_cases ho : out = []
  · rw [if_pos ho] at hl
    simp only at hl
    unfold stepR aheadR
    rw [if_pos (by rw [ho]; rfl)]
    simp only
    exact core s hl
  · have hn : out.length ≠ 0 := fun e => ho (List.length_eq_zero_iff.1 e)
    rw [if_neg ho] at hl
    simp only at hl
    unfold stepR aheadR
    rw [if_neg hn, if_neg (hs ho)]
    by_cases hc : s.take 2 = [13, 10]
    · have hb : (s.take 2 == [13, 10]) = true := by simpa using hc
      rw [hb, mustS_yes] at hl
      rw [if_pos hc]
      simp only
      exact core _ hl
    · have hb : (s.take 2 == [13, 10]) = false := by simpa using hc
      rw [hb, mustS_no, lineS_2] at hl
      simp only [Prod.mk.injEq] at hl
      obtain ⟨rfl, rfl, rfl⟩ := hl
      rw [if_neg hc, mustS_2]; rfl
theorem elemPiece : ElemOk Tryz.prog 35 40 (.agg #[.int .i64 0, .int .i64 0, .int .i64 0, .slice none 0 0]) 4 48 := ⟨Tryz.underlying35, by kernel_rfl, rfl, by omega⟩
theorem ne_byte_piece : 5 ≠ 40 := by decide
theorem one_piece (a b c : Int) (A : Option Addr) (n k : Nat) : ∀ u ∈ [Value.int .i64 a, .int .i64 b, .int .i64 c, .slice A n k], u.oneCell' = true := by
  intro u hu
  simp only [List.mem_cons, List.not_mem_nil, or_false] at hu
  rcases hu with rfl | rfl | rfl | rfl <;> rfl
theorem rd_at {W0 w : World} {e : TypeId} {size m c : Nat} {A : Option Addr} {xs : List Value} (h : Own W0 w e size (.slice A m c) m xs) (hm : 0 < m) : ∃ ba, A = some ⟨ba, 0, none⟩ ∧ m ≤ c := by
  rcases h.2 with ⟨hv, hn⟩ | ⟨b, cap, cur, hv, _, _, hc, _⟩
  · omega
  · cases hv; exact ⟨b, rfl, hc⟩
theorem rd_get {W0 w : World} {e : TypeId} {size n ba c j : Nat} {u : Value} {xs : List Value} (h : Own W0 w e size (.slice (some ⟨ba, 0, none⟩) n c) n xs) (hj : xs[j]? = some u) : w.cell? ⟨ba, j, none⟩ = some u := by
  rcases h.2 with ⟨hv, hn⟩ | ⟨b, cap, cur, hv, _, hh, hc, _, hz, ht⟩
  · cases hv
  · cases hv
    have hb : Bk w ba e cur (0, 0) := hh
    rw [← ht, List.getElem?_take] at hj
    split at hj
    · rw [hb.cell j, ← Array.getElem?_toList]; exact hj
    · cases hj
theorem flatQ_tot {L : List (PieceT × Value)} (h : 0 < L.length) : (flatQ L)[2]? = some (.int .i64 (totOf (L.map (·.1)))) := by
  cases L with
  | nil => simp at h
  | cons x L => rfl
/-- where the reading stands at a round's head -/
structure RdI (w W0 : World) (g : Nat) (bnd s0 : List UInt8) (L : List (PieceT × Value)) (s : List UInt8) (e : Nat) (v : Value) (wr : World) : Prop where
  row : Own W0 wr 40 4 v L.length (flatQ L)
  byts : ∀ x ∈ L, Own W0 wr 5 1 x.2 x.1.2.length (x.1.2.map byt)
  scan : Scan wr g s e
  gr : Gr w wr
  szr : W0.heap.size ≤ wr.heap.size
  all : (e = 0 → L.length + s.length ≤ s0.length ∧ readG bnd (L.map (·.1)) s = readG bnd [] s0) ∧ (e ≠ 0 → readG bnd [] s0 = .inl e)
theorem RdI.by {w W0 : World} {g : Nat} {bnd s0 : List UInt8} {L : List (PieceT × Value)} {s s' : List UInt8} {e e' : Nat} {v : Value} {wr wx : World} (h : RdI w W0 g bnd s0 L s e v wr) (k : wr.grownBy wx (some g)) (hg : g < W0.heap.size) (hw : w.heap.size ≤ g) (hs : Scan wx g s' e') :
    Own W0 wx 40 4 v L.length (flatQ L) ∧ (∀ x ∈ L, Own W0 wx 5 1 x.2 x.1.2.length (x.1.2.map byt)) ∧ Scan wx g s' e' ∧ Gr w wx :=
  ⟨own_kr h.row k (.inr (own_ne h.row hg)), fun x hx => own_kr (h.byts x hx) k (.inr (own_ne (h.byts x hx) hg)), hs, gr_by h.gr k hw⟩
/-- one range more -/
theorem RdI.app {w W0 : World} {g : Nat} {bnd s0 : List UInt8} {L : List (PieceT × Value)} {s : List UInt8} {e : Nat} {v v' : Value} {wx w' : World} {x : PieceT × Value}
    (hr : Own W0 wx 40 4 v L.length (flatQ L)) (hb : ∀ x ∈ L, Own W0 wx 5 1 x.2 x.1.2.length (x.1.2.map byt)) (hs : Scan wx g s e) (hg : Gr w wx) (hgl : g < W0.heap.size) (hz : W0.heap.size ≤ wx.heap.size)
    (ha : App v v' wx w') (ho : Own W0 w' 40 4 v' (L.length + 1) (flatQ L ++ [.int .i64 x.1.1.1, .int .i64 x.1.1.2.1, .int .i64 x.1.1.2.2, x.2])) (hx : Own W0 wx 5 1 x.2 x.1.2.length (x.1.2.map byt))
    (hw : w.heap.size ≤ W0.heap.size)
    (hall : (e = 0 → (L ++ [x]).length + s.length ≤ s0.length ∧ readG bnd ((L ++ [x]).map (·.1)) s = readG bnd [] s0) ∧ (e ≠ 0 → readG bnd [] s0 = .inl e)) : RdI w W0 g bnd s0 (L ++ [x]) s e v' w' := by
  have keep : ∀ y : PieceT × Value, Own W0 wx 5 1 y.2 y.1.2.length (y.1.2.map byt) → Own W0 w' 5 1 y.2 y.1.2.length (y.1.2.map byt) := fun y hy => own_kr hy ha.grown (own_own hy hr ne_byte_piece)
  refine ⟨?_, ?_, ?_, ?_, Nat.le_trans hz ha.grown.size, hall⟩
  · rw [flatQ_snoc, List.length_append]; exact ho
  · intro y hy
    rcases List.mem_append.1 hy with h | h
    · exact keep y (hb y h)
    · simp only [List.mem_singleton] at h; subst h; exact keep y hx
  · exact hs.byo (fun b hb => Nat.lt_of_lt_of_le hgl (World.ownsRow.lt hr b hb).1) ha.grown
  · exact Below.grown hg ha.grown hg.size (fun b hb => Nat.le_trans hw (World.ownsRow.lt hr b hb).1)
end Go.Proofs.YtnmfmcmokdoieaaGreatDoor
