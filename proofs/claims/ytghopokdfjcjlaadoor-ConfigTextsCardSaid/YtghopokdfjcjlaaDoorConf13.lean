/- Layer 39: the text of configurations, by the program. The conditions: the tables lie where they were laid; at most 40 configurations. -/
import Derived.Test.YtghopokdfjcjlaaDoorConf7
import Derived.Test.YtghopokdfjcjlaaDoorConfR
import Derived.Test.YtghopokdfjcjlaaDoorConf6
import Derived.Test.YtghopokdfjcjlaaDoorBuilder
namespace Go.Proofs.YtghopokdfjcjlaaDoor
open Go.RowKit
/-- the lines of the first j numbers -/
def linesJ (c : Cfg) (j : Nat) : List UInt8 := ((List.range j).flatMap fun i => numLine i (namesL.getD i []) (c.nums.getD i 0) (Cfg.dflt.nums.getD i 0)).flatMap (· ++ [10])
theorem linesJ_succ (c : Cfg) (j : Nat) : linesJ c (j + 1) = linesJ c j ++ (numLine j (namesL.getD j []) (c.nums.getD j 0) (Cfg.dflt.nums.getD j 0)).flatMap (· ++ [10]) := by
  unfold linesJ; rw [List.range_succ, List.flatMap_append, List.flatMap_append]; simp
theorem linesJ_same {c : Cfg} {j : Nat} (h : c.nums.getD j 0 = Cfg.dflt.nums.getD j 0) : linesJ c (j + 1) = linesJ c j := by
  rw [linesJ_succ]; unfold numLine; rw [if_pos h]; simp
theorem linesJ_other {c : Cfg} {j : Nat} (h : ¬ c.nums.getD j 0 = Cfg.dflt.nums.getD j 0) : linesJ c (j + 1) = linesJ c j ++ (namesL.getD j [] ++ [32] ++ valL j (c.nums.getD j 0) ++ [10]) := by
  rw [linesJ_succ]; unfold numLine; rw [if_neg h]; simp
theorem textL_snoc (l : List Cfg) (c : Cfg) : textL (l ++ [c]) = textL l ++ ([110, 111, 100, 101, 10] ++ linesJ c 10) := by
  unfold textL linesOf
  rw [List.flatMap_append, List.flatMap_append]
  congr 1
  simp only [List.flatMap_cons, List.flatMap_nil, List.append_nil]
  rfl
theorem textL_succ {l : List Cfg} {k : Nat} (h : k < l.length) : textL (l.take (k + 1)) = textL (l.take k) ++ ([110, 111, 100, 101, 10] ++ linesJ l[k] 10) := by
  rw [List.take_succ_eq_append_getElem h, textL_snoc]
/-- the text, or why there is none -/
def textR (l : List Cfg) : List UInt8 × Nat := if l.all Cfg.right = true then (if 16 < l.length then ([], 4) else (textL l, 0)) else ([], 1)
def textV (l : List Cfg) : Value := .tuple #[str (textR l).1, .int .i64 (textR l).2]
theorem flatC_at {l : List Cfg} {k j : Nat} (hk : k < l.length) (hj : j < 10) : (flatC l)[k * 10 + j]? = (l[k].nums.map (Value.int .i64))[j]? := by
  induction l generalizing k with
  | nil => simp at hk
  | cons c l ih =>
    cases k with
    | zero =>
      simp only [flatC, List.flatMap_cons, Nat.zero_mul, Nat.zero_add]
      rw [List.getElem?_append_left (by rw [List.length_map]; show j < 10; exact hj)]; rfl
    | succ k =>
      have := ih (k := k) (by simpa using hk)
      simp only [flatC, List.flatMap_cons] at this ⊢
      have hl : (c.nums.map (Value.int .i64)).length = 10 := rfl
      rw [List.getElem?_append_right (by rw [hl]; omega), hl, show (k + 1) * 10 + j - 10 = k * 10 + j from by omega, this]
      rfl
theorem valL_len {i : Nat} {n : Int} (h0 : 0 ≤ n) (h1 : n ≤ 1125899906842624) : (valL i n).length ≤ 20 := by
  unfold valL
  split
  · exact sized_len n (by omega)
  · obtain ⟨m, rfl⟩ : ∃ m : Nat, n = m := ⟨n.toNat, by omega⟩
    have := itoa_len (m := m) (by omega); omega
theorem name_len (i : Nat) (h : i < 10) : (namesL.getD i []).length ≤ 8 := by
  have : ∀ j : Fin 10, (namesL.getD j.val []).length ≤ 8 := by decide
  exact this ⟨i, h⟩
theorem linesJ_len {c : Cfg} (h0 : ∀ k, k < 10 → 0 ≤ c.nums.getD k 0) (h1 : ∀ k, k < 10 → c.nums.getD k 0 ≤ 1125899906842624) (j : Nat) (hj : j ≤ 10) : (linesJ c j).length ≤ j * 30 := by
  induction j with
  | zero => simp [linesJ]
  | succ j ih =>
    by_cases h : c.nums.getD j 0 = Cfg.dflt.nums.getD j 0
    · rw [linesJ_same h]; have := ih (by omega); omega
    · have a := ih (by omega)
      have b := valL_len (i := j) (h0 j (by omega)) (h1 j (by omega))
      have d := name_len j (by omega)
      rw [linesJ_other h]; simp only [List.length_append, List.length_cons, List.length_nil]; omega
theorem textL_cons (c : Cfg) (l : List Cfg) : textL (c :: l) = ([110, 111, 100, 101, 10] ++ linesJ c 10) ++ textL l := by
  have h : textL [c] = [110, 111, 100, 101, 10] ++ linesJ c 10 := by have := textL_snoc [] c; simpa [textL, linesOf] using this
  have : textL (c :: l) = textL [c] ++ textL l := by
    show textL ([c] ++ l) = _
    unfold textL linesOf
    rw [List.flatMap_append, List.flatMap_append]
  rw [this, h]
theorem textL_len : ∀ {l : List Cfg}, l.all Cfg.right = true → (textL l).length ≤ l.length * 305
  | [], _ => by simp [textL, linesOf]
  | c :: l, h => by
    rw [List.all_cons, Bool.and_eq_true] at h
    have a := textL_len (l := l) h.2
    have b := linesJ_len (right_nonneg h.1) (right_most h.1) 10 (by omega)
    rw [textL_cons]; simp only [List.length_append, List.length_cons, List.length_nil]; omega
theorem ixT0 (x0 x1 x2 x3 x4 x5 x6 x7 x8 x9 : Value) (w : World) : (Instr.index 49 (.agg #[x0, x1, x2, x3, x4, x5, x6, x7, x8, x9]) (.int .i64 0)).run Tryd.prog w = .ok x0 w := by kernel_rfl
theorem ixT1 (x0 x1 x2 x3 x4 x5 x6 x7 x8 x9 : Value) (w : World) : (Instr.index 49 (.agg #[x0, x1, x2, x3, x4, x5, x6, x7, x8, x9]) (.int .i64 1)).run Tryd.prog w = .ok x1 w := by kernel_rfl
theorem ixT2 (x0 x1 x2 x3 x4 x5 x6 x7 x8 x9 : Value) (w : World) : (Instr.index 49 (.agg #[x0, x1, x2, x3, x4, x5, x6, x7, x8, x9]) (.int .i64 2)).run Tryd.prog w = .ok x2 w := by kernel_rfl
theorem ixT3 (x0 x1 x2 x3 x4 x5 x6 x7 x8 x9 : Value) (w : World) : (Instr.index 49 (.agg #[x0, x1, x2, x3, x4, x5, x6, x7, x8, x9]) (.int .i64 3)).run Tryd.prog w = .ok x3 w := by kernel_rfl
theorem ixT4 (x0 x1 x2 x3 x4 x5 x6 x7 x8 x9 : Value) (w : World) : (Instr.index 49 (.agg #[x0, x1, x2, x3, x4, x5, x6, x7, x8, x9]) (.int .i64 4)).run Tryd.prog w = .ok x4 w := by kernel_rfl
theorem ixT5 (x0 x1 x2 x3 x4 x5 x6 x7 x8 x9 : Value) (w : World) : (Instr.index 49 (.agg #[x0, x1, x2, x3, x4, x5, x6, x7, x8, x9]) (.int .i64 5)).run Tryd.prog w = .ok x5 w := by kernel_rfl
theorem ixT6 (x0 x1 x2 x3 x4 x5 x6 x7 x8 x9 : Value) (w : World) : (Instr.index 49 (.agg #[x0, x1, x2, x3, x4, x5, x6, x7, x8, x9]) (.int .i64 6)).run Tryd.prog w = .ok x6 w := by kernel_rfl
theorem ixT7 (x0 x1 x2 x3 x4 x5 x6 x7 x8 x9 : Value) (w : World) : (Instr.index 49 (.agg #[x0, x1, x2, x3, x4, x5, x6, x7, x8, x9]) (.int .i64 7)).run Tryd.prog w = .ok x7 w := by kernel_rfl
theorem ixT8 (x0 x1 x2 x3 x4 x5 x6 x7 x8 x9 : Value) (w : World) : (Instr.index 49 (.agg #[x0, x1, x2, x3, x4, x5, x6, x7, x8, x9]) (.int .i64 8)).run Tryd.prog w = .ok x8 w := by kernel_rfl
theorem ixT9 (x0 x1 x2 x3 x4 x5 x6 x7 x8 x9 : Value) (w : World) : (Instr.index 49 (.agg #[x0, x1, x2, x3, x4, x5, x6, x7, x8, x9]) (.int .i64 9)).run Tryd.prog w = .ok x9 w := by kernel_rfl
attribute [go_sem] ixT0 ixT1 ixT2 ixT3 ixT4 ixT5 ixT6 ixT7 ixT8 ixT9
theorem tenNe : (49 : Nat) ≠ 5 ∧ (23 : Nat) ≠ 5 := by decide
theorem text_bad {l : List Cfg} {k : Nat} (hk : k < l.length) (h : l[k].right = false) : textR l = ([], 1) := by
  unfold textR
  rw [if_neg]
  intro ha
  rw [List.all_eq_true.1 ha l[k] (List.getElem_mem hk)] at h; cases h
theorem text_many {l : List Cfg} (h : l.all Cfg.right = true) (h2 : 16 < l.length) : textR l = ([], 4) := by unfold textR; rw [if_pos h, if_pos h2]
theorem text_good {l : List Cfg} (h : l.all Cfg.right = true) (h2 : ¬ 16 < l.length) : textR l = (textL l, 0) := by unfold textR; rw [if_pos h, if_neg h2]
theorem all_of {l : List Cfg} (h : ∀ j (hj : j < l.length), l[j].right = true) : l.all Cfg.right = true := by
  rw [List.all_eq_true]; intro c hc
  obtain ⟨j, hj, rfl⟩ := List.getElem_of_mem hc
  exact h j hj
theorem c_numbers_lit (x0 x1 x2 x3 x4 x5 x6 x7 x8 x9 : Int) (w : World) : Calls Tryd.prog 28 #[.agg #[.int .i64 x0, .int .i64 x1, .int .i64 x2, .int .i64 x3, .int .i64 x4, .int .i64 x5, .int .i64 x6, .int .i64 x7, .int .i64 x8, .int .i64 x9]] w fun e w' => e = .returned (.agg #[.int .i64 x0, .int .i64 x1, .int .i64 x2, .int .i64 x3, .int .i64 x4, .int .i64 x5, .int .i64 x6, .int .i64 x7, .int .i64 x8, .int .i64 x9]) ∧ Gr w w' := c_numbers_any ⟨x0, x1, x2, x3, x4, x5, x6, x7, x8, x9⟩ w
set_option maxHeartbeats 16000000 in
set_option maxRecDepth 100000 in
theorem c_text_any (l : List Cfg) (v : Value) (w : World) (hp : Pw w) (hn : Nm w) (hv : Sl w v l.length (flatC l)) (hl : l.length ≤ 40) : Calls Tryd.prog 17 #[v] w fun e w' => e = .returned (textV l) ∧ Gr w w' := by
  obtain ⟨A, ca, rfl, hc, hm, ho⟩ := hv.open
  have HO := Lib.hid ho
  have HP := Lib.hid hp
  have HNm := Lib.hid hn
  clear hv ho hp hn
  go_enter Tryd.func17, Tryd.ntmps17
  go_wp2_with fail
  go_loopw [15] (fun i wr => ∃ k : Nat, k ≤ l.length ∧ i = .int .i64 k ∧ Gr w wr ∧ ∀ j (hj : j < l.length), j < k → l[j].right = true) (fun i _ => l.length - (intOf i).toNat)
  case atStart => exact ⟨0, Nat.zero_le _, rfl, Gr.refl _, fun j hj h => by omega⟩
  case round =>
    obtain ⟨k, hk, rfl, hG, hall⟩ := hrel
    have HALL := Lib.hid hall
    clear hall
    by_cases hlt : k < l.length
    · obtain ⟨b, ob, rfl, hb, hcell⟩ := HO.out _ _ (flatC_at (j := 0) hlt (by omega))
      have HC := Lib.hid (fun (j : Nat) (u : Value) (hj : j < 10) (h : (l[k].nums.map (Value.int .i64))[j]? = some u) => hcell (k * 10 + j) u ((flatC_at hlt hj).trans h))
      clear hcell hb
      have HNEXT := Lib.hid (fun (h : l[k].right = true) (j : Nat) (hj : j < l.length) (hjk : j < k + 1) => show l[j].right = true from by
        rcases Nat.lt_or_ge j k with h' | h'
        · exact HALL.out j hj h'
        · obtain rfl : j = k := by omega
          exact h)
      have HBAD := Lib.hid (fun (h : l[k].right = false) => text_bad hlt h)
      have HR := Lib.hid (fun (w : World) => c_right_any l[k] w)
      generalize l[k] = c at *
      unfold cfgV at HR
      have c0 : wr.cell? ⟨b, ob + k * 10, none⟩ = some (.int .i64 c.u) := by have := hG.cell (HC.out 0 _ (by omega) rfl); rw [← Nat.add_assoc] at this; exact this
      have c1 : wr.cell? ⟨b, ob + k * 10 + 1, none⟩ = some (.int .i64 c.wa) := by have := hG.cell (HC.out 1 _ (by omega) rfl); rw [← Nat.add_assoc] at this; exact this
      have c2 : wr.cell? ⟨b, ob + k * 10 + 2, none⟩ = some (.int .i64 c.mo) := by have := hG.cell (HC.out 2 _ (by omega) rfl); rw [← Nat.add_assoc] at this; exact this
      have c3 : wr.cell? ⟨b, ob + k * 10 + 3, none⟩ = some (.int .i64 c.sp) := by have := hG.cell (HC.out 3 _ (by omega) rfl); rw [← Nat.add_assoc] at this; exact this
      have c4 : wr.cell? ⟨b, ob + k * 10 + 4, none⟩ = some (.int .i64 c.re) := by have := hG.cell (HC.out 4 _ (by omega) rfl); rw [← Nat.add_assoc] at this; exact this
      have c5 : wr.cell? ⟨b, ob + k * 10 + 5, none⟩ = some (.int .i64 c.rt) := by have := hG.cell (HC.out 5 _ (by omega) rfl); rw [← Nat.add_assoc] at this; exact this
      have c6 : wr.cell? ⟨b, ob + k * 10 + 6, none⟩ = some (.int .i64 c.li) := by have := hG.cell (HC.out 6 _ (by omega) rfl); rw [← Nat.add_assoc] at this; exact this
      have c7 : wr.cell? ⟨b, ob + k * 10 + 7, none⟩ = some (.int .i64 c.bu) := by have := hG.cell (HC.out 7 _ (by omega) rfl); rw [← Nat.add_assoc] at this; exact this
      have c8 : wr.cell? ⟨b, ob + k * 10 + 8, none⟩ = some (.int .i64 c.sh) := by have := hG.cell (HC.out 8 _ (by omega) rfl); rw [← Nat.add_assoc] at this; exact this
      have c9 : wr.cell? ⟨b, ob + k * 10 + 9, none⟩ = some (.int .i64 c.ch) := by have := hG.cell (HC.out 9 _ (by omega) rfl); rw [← Nat.add_assoc] at this; exact this
      cases hr : c.right with
      | false =>
        rw [hr] at HR
        have HB := Lib.hid (HBAD.out hr)
        go_wp2_with (go_at_call 9; refine (HR.out _).mono ?_; rintro e w1 ⟨rfl, hG1⟩)
        go_ret2
        exact ⟨by unfold textV; rw [HB.out]; rfl, Gr.tr (Gr.al hG _) hG1⟩
      | true =>
        rw [hr] at HR
        have HN := Lib.hid (HNEXT.out hr)
        go_wp2_with (go_at_call 9; refine (HR.out _).mono ?_; rintro e w1 ⟨rfl, hG1⟩)
        exact ⟨⟨k + 1, by omega, by go_num, Gr.tr (Gr.al hG _) hG1, HN.out⟩, by simp [intOf]; omega⟩
    · obtain rfl : k = l.length := by omega
      have hall := all_of (fun j hj => HALL.out j hj hj)
      have HA := Lib.hid hall
      clear HALL
      by_cases h16 : 16 < l.length
      · have k1 : decide (16 < (l.length : Int)) = true := decide_eq_true (by omega)
        have HT := Lib.hid (text_many hall h16)
        clear hall
        go_wp2_with fail
        go_ret2
        exact ⟨by unfold textV; rw [HT.out]; rfl, hG⟩
      · have k1 : decide (16 < (l.length : Int)) = false := decide_eq_false (by omega)
        have HT := Lib.hid (text_good hall h16)
        clear hall
        go_upto_region 10 with (first | (go_at_call 11; refine (c_default_any _).mono ?_; rintro e w1 ⟨rfl, hG1⟩) | (go_at_call 28; refine (c_numbers_dflt _).mono ?_; rintro e w2 ⟨rfl, hG2⟩))
        have hGw := Gr.tr hG (Gr.tr hG1 hG2)
        have hbu := Bk.new w2 49 #[.int .i64 65536, .int .i64 131072, .int .i64 8388608, .int .i64 16, .int .i64 2, .int .i64 2, .int .i64 262144, .int .i64 1073741824, .int .i64 536870912, .int .i64 32768] (0, 0)
        have hGu := Gr.al hGw (Obj.cells #[.int .i64 65536, .int .i64 131072, .int .i64 8388608, .int .i64 16, .int .i64 2, .int .i64 2, .int .i64 262144, .int .i64 1073741824, .int .i64 536870912, .int .i64 32768] 49)
        generalize w2.alloc (Obj.cells #[.int .i64 65536, .int .i64 131072, .int .i64 8388608, .int .i64 16, .int .i64 2, .int .i64 2, .int .i64 262144, .int .i64 1073741824, .int .i64 536870912, .int .i64 32768] 49) = w3 at *
        generalize w2.heap.size = gu at *
        clear hG hG1 hG2 hGw
        go_upto_region 11 with fail
        have hB0 := bld_new w w3 hGu
        have hbu3 := hbu.al (.cells #[.pointer none, .slice none 0 0] 54)
        have hgub : gu ≠ w3.heap.size := by have := hbu.lt; omega
        generalize w3.alloc (.cells #[.pointer none, .slice none 0 0] 54) = w4 at *
        generalize w3.heap.size = bb at *
        have HB0 := Lib.hid hB0
        have HU0 := Lib.hid hbu3
        clear hbu hGu hB0 hbu3
        go_wp2_with fail
        go_loopw [30] (fun i wr => ∃ k : Nat, k ≤ l.length ∧ i = .int .i64 k ∧ Bld w wr bb (textL (l.take k)) ∧ Bk wr gu 49 #[.int .i64 65536, .int .i64 131072, .int .i64 8388608, .int .i64 16, .int .i64 2, .int .i64 2, .int .i64 262144, .int .i64 1073741824, .int .i64 536870912, .int .i64 32768] (0, 0)) (fun i _ => l.length - (intOf i).toNat)
        case atStart => exact ⟨0, Nat.zero_le _, rfl, HB0.out, HU0.out⟩
        case round =>
          obtain ⟨k, hk, rfl, hB, hU⟩ := hrel
          have HB := Lib.hid hB
          have HU := Lib.hid hU
          clear hB hU HB0 HU0
          by_cases hlt : k < l.length
          · obtain ⟨b, ob, rfl, hb, hcell⟩ := HO.out _ _ (flatC_at (j := 0) hlt (by omega))
            have HC := Lib.hid (fun (j : Nat) (u : Value) (hj : j < 10) (h : (l[k].nums.map (Value.int .i64))[j]? = some u) => hcell (k * 10 + j) u ((flatC_at hlt hj).trans h))
            have hG := HB.out.2.1
            have htl : (textL (l.take k)).length ≤ 5000 := by
              have := textL_len (l := l.take k) (by rw [List.all_eq_true]; exact fun c hc => List.all_eq_true.1 HA.out c (List.mem_of_mem_take hc))
              rw [List.length_take] at this; omega
            have hcr := List.all_eq_true.1 HA.out l[k] (List.getElem_mem hlt)
            have HNN := Lib.hid (right_nonneg hcr)
            have HMM := Lib.hid (right_most hcr)
            have HSU := Lib.hid (textL_succ hlt)
            have HJL := Lib.hid (linesJ_len (right_nonneg hcr) (right_most hcr))
            have HJS := Lib.hid (fun j => linesJ_same (c := l[k]) (j := j))
            have HJO := Lib.hid (fun j => linesJ_other (c := l[k]) (j := j))
            clear hcell hb hcr
            generalize textL (l.take k) = T at *
            generalize l[k] = c at *
            have c0 : wr.cell? ⟨b, ob + k * 10, none⟩ = some (.int .i64 c.u) := by have := hG.cell (HC.out 0 _ (by omega) rfl); rw [← Nat.add_assoc] at this; exact this
            have c1 : wr.cell? ⟨b, ob + k * 10 + 1, none⟩ = some (.int .i64 c.wa) := by have := hG.cell (HC.out 1 _ (by omega) rfl); rw [← Nat.add_assoc] at this; exact this
            have c2 : wr.cell? ⟨b, ob + k * 10 + 2, none⟩ = some (.int .i64 c.mo) := by have := hG.cell (HC.out 2 _ (by omega) rfl); rw [← Nat.add_assoc] at this; exact this
            have c3 : wr.cell? ⟨b, ob + k * 10 + 3, none⟩ = some (.int .i64 c.sp) := by have := hG.cell (HC.out 3 _ (by omega) rfl); rw [← Nat.add_assoc] at this; exact this
            have c4 : wr.cell? ⟨b, ob + k * 10 + 4, none⟩ = some (.int .i64 c.re) := by have := hG.cell (HC.out 4 _ (by omega) rfl); rw [← Nat.add_assoc] at this; exact this
            have c5 : wr.cell? ⟨b, ob + k * 10 + 5, none⟩ = some (.int .i64 c.rt) := by have := hG.cell (HC.out 5 _ (by omega) rfl); rw [← Nat.add_assoc] at this; exact this
            have c6 : wr.cell? ⟨b, ob + k * 10 + 6, none⟩ = some (.int .i64 c.li) := by have := hG.cell (HC.out 6 _ (by omega) rfl); rw [← Nat.add_assoc] at this; exact this
            have c7 : wr.cell? ⟨b, ob + k * 10 + 7, none⟩ = some (.int .i64 c.bu) := by have := hG.cell (HC.out 7 _ (by omega) rfl); rw [← Nat.add_assoc] at this; exact this
            have c8 : wr.cell? ⟨b, ob + k * 10 + 8, none⟩ = some (.int .i64 c.sh) := by have := hG.cell (HC.out 8 _ (by omega) rfl); rw [← Nat.add_assoc] at this; exact this
            have c9 : wr.cell? ⟨b, ob + k * 10 + 9, none⟩ = some (.int .i64 c.ch) := by have := hG.cell (HC.out 9 _ (by omega) rfl); rw [← Nat.add_assoc] at this; exact this
            have hgb : bb ≠ wr.heap.size := by
              obtain ⟨_, _, _, _, _, hb, _⟩ := HB.out
              have := hb.lt; omega
            have hgu2 : gu ≠ wr.heap.size := by have := HU.out.lt; omega
            go_upto_region 14 with fail
            have hbf := Bk.new wr 23 #[.int .i64 c.u, .int .i64 c.wa, .int .i64 c.mo, .int .i64 c.sp, .int .i64 c.re, .int .i64 c.rt, .int .i64 c.li, .int .i64 c.bu, .int .i64 c.sh, .int .i64 c.ch] (0, 0)
            have HB1 := Lib.hid (HB.out.gr (Gr.al (Gr.refl wr) (.cells #[.int .i64 c.u, .int .i64 c.wa, .int .i64 c.mo, .int .i64 c.sp, .int .i64 c.re, .int .i64 c.rt, .int .i64 c.li, .int .i64 c.bu, .int .i64 c.sh, .int .i64 c.ch] 23)))
            have HU1 := Lib.hid (HU.out.al (.cells #[.int .i64 c.u, .int .i64 c.wa, .int .i64 c.mo, .int .i64 c.sp, .int .i64 c.re, .int .i64 c.rt, .int .i64 c.li, .int .i64 c.bu, .int .i64 c.sh, .int .i64 c.ch] 23))
            generalize wr.alloc (Obj.cells #[.int .i64 c.u, .int .i64 c.wa, .int .i64 c.mo, .int .i64 c.sp, .int .i64 c.re, .int .i64 c.rt, .int .i64 c.li, .int .i64 c.bu, .int .i64 c.sh, .int .i64 c.ch] 23) = wf at *
            generalize wr.heap.size = gf at *
            clear hG HB HU c0 c1 c2 c3 c4 c5 c6 c7 c8 c9
            go_wp2_with fail
            refine (writeString_any w _ bb _ [110, 111, 100, 101, 10] HB1.out (by simp; omega)).mono ?_
            rintro e w5 ⟨rfl, hB5, hO5⟩
            have hbf5 := hO5 gf _ _ _ (Ne.symm hgb) tenNe.2 hbf
            have hbu5 := hO5 gu _ _ _ hgub tenNe.1 HU1.out
            have d0 : w5.cell? ⟨gf, 0, none⟩ = some (.int .i64 c.u) := hbf5.cell 0
            have d1 : w5.cell? ⟨gf, 1, none⟩ = some (.int .i64 c.wa) := hbf5.cell 1
            have d2 : w5.cell? ⟨gf, 2, none⟩ = some (.int .i64 c.mo) := hbf5.cell 2
            have d3 : w5.cell? ⟨gf, 3, none⟩ = some (.int .i64 c.sp) := hbf5.cell 3
            have d4 : w5.cell? ⟨gf, 4, none⟩ = some (.int .i64 c.re) := hbf5.cell 4
            have d5 : w5.cell? ⟨gf, 5, none⟩ = some (.int .i64 c.rt) := hbf5.cell 5
            have d6 : w5.cell? ⟨gf, 6, none⟩ = some (.int .i64 c.li) := hbf5.cell 6
            have d7 : w5.cell? ⟨gf, 7, none⟩ = some (.int .i64 c.bu) := hbf5.cell 7
            have d8 : w5.cell? ⟨gf, 8, none⟩ = some (.int .i64 c.sh) := hbf5.cell 8
            have d9 : w5.cell? ⟨gf, 9, none⟩ = some (.int .i64 c.ch) := hbf5.cell 9
            have HB5 := Lib.hid hB5
            have HU5 := Lib.hid hbu5
            clear hB5 hO5 hbf hbf5 hbu5 HB1 HU1
            go_wp2_with (go_at_call 28; refine (c_numbers_lit c.u c.wa c.mo c.sp c.re c.rt c.li c.bu c.sh c.ch _).mono ?_; rintro e w6 ⟨rfl, hG6⟩)
            have HB6 := Lib.hid (HB5.out.gr hG6)
            have HU6 := Lib.hid (HU5.out.gr hG6)
            clear hG6 HB5 HU5 d0 d1 d2 d3 d4 d5 d6 d7 d8 d9
            go_loopw [37] (fun i wr => ∃ j : Nat, j ≤ 10 ∧ i = .int .i64 j ∧ Bld w wr bb ((T ++ [110, 111, 100, 101, 10]) ++ linesJ c j) ∧ Bk wr gu 49 #[.int .i64 65536, .int .i64 131072, .int .i64 8388608, .int .i64 16, .int .i64 2, .int .i64 2, .int .i64 262144, .int .i64 1073741824, .int .i64 536870912, .int .i64 32768] (0, 0)) (fun i _ => 10 - (intOf i).toNat)
            case atStart => exact ⟨0, by omega, rfl, by simpa [linesJ] using HB6.out, HU6.out⟩
            case round =>
              clear HB6 HU6
              obtain ⟨j, hj, rfl, hB, hU⟩ := hrel
              have HB := Lib.hid hB
              have HU := Lib.hid hU
              have hG := HB.out.2.1
              have HPr := Lib.hid (HP.out.gr hG)
              have HNr := Lib.hid (HNm.out.gr hG)
              have hjl := HJL.out j hj
              clear hB hG
              by_cases hlt2 : j < 10
              · obtain rfl | rfl | rfl | rfl | rfl | rfl | rfl | rfl | rfl | rfl : j = 0 ∨ j = 1 ∨ j = 2 ∨ j = 3 ∨ j = 4 ∨ j = 5 ∨ j = 6 ∨ j = 7 ∨ j = 8 ∨ j = 9 := by omega
                · have u0 : wr.cell? ⟨gu, 0, none⟩ = some (.int .i64 65536) := hU.cell 0
                  have HJK := Lib.hid (HJS.out 0)
                  have HJM := Lib.hid (HJO.out 0)
                  clear HJS HJO hU
                  by_cases hx : c.u = 65536
                  · have e1 : (c.u == 65536) = true := by simpa using hx
                    have HE := Lib.hid (HJK.out hx)
                    clear hx
                    go_wp2_with fail
                    exact ⟨⟨1, by omega, rfl, by rw [HE.out]; exact HB.out, HU.out⟩, by simp [intOf]⟩
                  · have e1 : (c.u == 65536) = false := by simpa using hx
                    have HE := Lib.hid (show linesJ c 1 = linesJ c 0 ++ ([117, 110, 105, 116] ++ [32] ++ sizedL c.u ++ [10]) from HJM.out hx)
                    have n0 : 0 ≤ c.u := HNN.out 0 (by omega)
                    have n1 : c.u ≤ 1125899906842624 := HMM.out 0 (by omega)
                    have hvl : (Lib.itoa c.u).length ≤ 20 := valL_len (i := 3) n0 n1
                    have hsl := sized_len c.u (by omega)
                    have nm : wr.cell? ⟨0, 0, none⟩ = some (str [117, 110, 105, 116]) := HNr.out 0 _ rfl
                    have kz : sizedI 0 = true := rfl
                    clear hx
                    go_wp2_with (first | (go_at_call 24; refine (fmtInt_any _ _ HPr.out (by omega) (by omega)).mono ?_; rintro e w7 ⟨rfl, hG7⟩; have nm7 := hG7.cell nm) | (go_at_call 30; refine (c_sized_any 0 _).mono ?_; rintro e w8 ⟨rfl, hw8⟩; subst hw8) | (go_at_call 13; refine (c_written_any _ _ (HPr.out.gr hG7) (by omega) (by omega)).mono ?_; rintro e w9 ⟨rfl, hG9⟩; have nm9 := hG9.cell nm7))
                    have HB7 := Lib.hid (HB.out.gr (Gr.tr hG7 hG9))
                    have HU7 := Lib.hid (HU.out.gr (Gr.tr hG7 hG9))
                    refine (writeString_any w _ bb _ _ HB7.out (by simp; omega)).mono ?_
                    rintro e wz ⟨rfl, hBz, hOz⟩
                    have hUz := hOz gu _ _ _ hgub tenNe.1 HU7.out
                    have HBZ := Lib.hid hBz
                    have HUZ := Lib.hid hUz
                    clear hBz hUz hOz
                    go_wp2_with fail
                    exact ⟨⟨1, by omega, rfl, by rw [HE.out, ← List.append_assoc]; exact HBZ.out, HUZ.out⟩, by simp [intOf]⟩
                · have u0 : wr.cell? ⟨gu, 1, none⟩ = some (.int .i64 131072) := hU.cell 1
                  have HJK := Lib.hid (HJS.out 1)
                  have HJM := Lib.hid (HJO.out 1)
                  clear HJS HJO hU
                  by_cases hx : c.wa = 131072
                  · have e1 : (c.wa == 131072) = true := by simpa using hx
                    have HE := Lib.hid (HJK.out hx)
                    clear hx
                    go_wp2_with fail
                    exact ⟨⟨2, by omega, rfl, by rw [HE.out]; exact HB.out, HU.out⟩, by simp [intOf]⟩
                  · have e1 : (c.wa == 131072) = false := by simpa using hx
                    have HE := Lib.hid (show linesJ c 2 = linesJ c 1 ++ ([119, 97, 115, 116, 101] ++ [32] ++ sizedL c.wa ++ [10]) from HJM.out hx)
                    have n0 : 0 ≤ c.wa := HNN.out 1 (by omega)
                    have n1 : c.wa ≤ 1125899906842624 := HMM.out 1 (by omega)
                    have hvl : (Lib.itoa c.wa).length ≤ 20 := valL_len (i := 3) n0 n1
                    have hsl := sized_len c.wa (by omega)
                    have nm : wr.cell? ⟨0, 1, none⟩ = some (str [119, 97, 115, 116, 101]) := HNr.out 1 _ rfl
                    have kz : sizedI 1 = true := rfl
                    clear hx
                    go_wp2_with (first | (go_at_call 24; refine (fmtInt_any _ _ HPr.out (by omega) (by omega)).mono ?_; rintro e w7 ⟨rfl, hG7⟩; have nm7 := hG7.cell nm) | (go_at_call 30; refine (c_sized_any 1 _).mono ?_; rintro e w8 ⟨rfl, hw8⟩; subst hw8) | (go_at_call 13; refine (c_written_any _ _ (HPr.out.gr hG7) (by omega) (by omega)).mono ?_; rintro e w9 ⟨rfl, hG9⟩; have nm9 := hG9.cell nm7))
                    have HB7 := Lib.hid (HB.out.gr (Gr.tr hG7 hG9))
                    have HU7 := Lib.hid (HU.out.gr (Gr.tr hG7 hG9))
                    refine (writeString_any w _ bb _ _ HB7.out (by simp; omega)).mono ?_
                    rintro e wz ⟨rfl, hBz, hOz⟩
                    have hUz := hOz gu _ _ _ hgub tenNe.1 HU7.out
                    have HBZ := Lib.hid hBz
                    have HUZ := Lib.hid hUz
                    clear hBz hUz hOz
                    go_wp2_with fail
                    exact ⟨⟨2, by omega, rfl, by rw [HE.out, ← List.append_assoc]; exact HBZ.out, HUZ.out⟩, by simp [intOf]⟩
                · have u0 : wr.cell? ⟨gu, 2, none⟩ = some (.int .i64 8388608) := hU.cell 2
                  have HJK := Lib.hid (HJS.out 2)
                  have HJM := Lib.hid (HJO.out 2)
                  clear HJS HJO hU
                  by_cases hx : c.mo = 8388608
                  · have e1 : (c.mo == 8388608) = true := by simpa using hx
                    have HE := Lib.hid (HJK.out hx)
                    clear hx
                    go_wp2_with fail
                    exact ⟨⟨3, by omega, rfl, by rw [HE.out]; exact HB.out, HU.out⟩, by simp [intOf]⟩
                  · have e1 : (c.mo == 8388608) = false := by simpa using hx
                    have HE := Lib.hid (show linesJ c 3 = linesJ c 2 ++ ([109, 111, 115, 116] ++ [32] ++ sizedL c.mo ++ [10]) from HJM.out hx)
                    have n0 : 0 ≤ c.mo := HNN.out 2 (by omega)
                    have n1 : c.mo ≤ 1125899906842624 := HMM.out 2 (by omega)
                    have hvl : (Lib.itoa c.mo).length ≤ 20 := valL_len (i := 3) n0 n1
                    have hsl := sized_len c.mo (by omega)
                    have nm : wr.cell? ⟨0, 2, none⟩ = some (str [109, 111, 115, 116]) := HNr.out 2 _ rfl
                    have kz : sizedI 2 = true := rfl
                    clear hx
                    go_wp2_with (first | (go_at_call 24; refine (fmtInt_any _ _ HPr.out (by omega) (by omega)).mono ?_; rintro e w7 ⟨rfl, hG7⟩; have nm7 := hG7.cell nm) | (go_at_call 30; refine (c_sized_any 2 _).mono ?_; rintro e w8 ⟨rfl, hw8⟩; subst hw8) | (go_at_call 13; refine (c_written_any _ _ (HPr.out.gr hG7) (by omega) (by omega)).mono ?_; rintro e w9 ⟨rfl, hG9⟩; have nm9 := hG9.cell nm7))
                    have HB7 := Lib.hid (HB.out.gr (Gr.tr hG7 hG9))
                    have HU7 := Lib.hid (HU.out.gr (Gr.tr hG7 hG9))
                    refine (writeString_any w _ bb _ _ HB7.out (by simp; omega)).mono ?_
                    rintro e wz ⟨rfl, hBz, hOz⟩
                    have hUz := hOz gu _ _ _ hgub tenNe.1 HU7.out
                    have HBZ := Lib.hid hBz
                    have HUZ := Lib.hid hUz
                    clear hBz hUz hOz
                    go_wp2_with fail
                    exact ⟨⟨3, by omega, rfl, by rw [HE.out, ← List.append_assoc]; exact HBZ.out, HUZ.out⟩, by simp [intOf]⟩
                · have u0 : wr.cell? ⟨gu, 3, none⟩ = some (.int .i64 16) := hU.cell 3
                  have HJK := Lib.hid (HJS.out 3)
                  have HJM := Lib.hid (HJO.out 3)
                  clear HJS HJO hU
                  by_cases hx : c.sp = 16
                  · have e1 : (c.sp == 16) = true := by simpa using hx
                    have HE := Lib.hid (HJK.out hx)
                    clear hx
                    go_wp2_with fail
                    exact ⟨⟨4, by omega, rfl, by rw [HE.out]; exact HB.out, HU.out⟩, by simp [intOf]⟩
                  · have e1 : (c.sp == 16) = false := by simpa using hx
                    have HE := Lib.hid (show linesJ c 4 = linesJ c 3 ++ ([115, 112, 101, 99, 115] ++ [32] ++ Lib.itoa c.sp ++ [10]) from HJM.out hx)
                    have n0 : 0 ≤ c.sp := HNN.out 3 (by omega)
                    have n1 : c.sp ≤ 1125899906842624 := HMM.out 3 (by omega)
                    have hvl : (Lib.itoa c.sp).length ≤ 20 := valL_len (i := 3) n0 n1
                    have hsl := sized_len c.sp (by omega)
                    have nm : wr.cell? ⟨0, 3, none⟩ = some (str [115, 112, 101, 99, 115]) := HNr.out 3 _ rfl
                    have kz : sizedI 3 = false := rfl
                    clear hx
                    go_wp2_with (first | (go_at_call 24; refine (fmtInt_any _ _ HPr.out (by omega) (by omega)).mono ?_; rintro e w7 ⟨rfl, hG7⟩; have nm7 := hG7.cell nm) | (go_at_call 30; refine (c_sized_any 3 _).mono ?_; rintro e w8 ⟨rfl, hw8⟩; subst hw8) | (go_at_call 13; refine (c_written_any _ _ (HPr.out.gr hG7) (by omega) (by omega)).mono ?_; rintro e w9 ⟨rfl, hG9⟩; have nm9 := hG9.cell nm7))
                    have HB7 := Lib.hid (HB.out.gr hG7)
                    have HU7 := Lib.hid (HU.out.gr hG7)
                    refine (writeString_any w _ bb _ _ HB7.out (by simp; omega)).mono ?_
                    rintro e wz ⟨rfl, hBz, hOz⟩
                    have hUz := hOz gu _ _ _ hgub tenNe.1 HU7.out
                    have HBZ := Lib.hid hBz
                    have HUZ := Lib.hid hUz
                    clear hBz hUz hOz
                    go_wp2_with fail
                    exact ⟨⟨4, by omega, rfl, by rw [HE.out, ← List.append_assoc]; exact HBZ.out, HUZ.out⟩, by simp [intOf]⟩
                · have u0 : wr.cell? ⟨gu, 4, none⟩ = some (.int .i64 2) := hU.cell 4
                  have HJK := Lib.hid (HJS.out 4)
                  have HJM := Lib.hid (HJO.out 4)
                  clear HJS HJO hU
                  by_cases hx : c.re = 2
                  · have e1 : (c.re == 2) = true := by simpa using hx
                    have HE := Lib.hid (HJK.out hx)
                    clear hx
                    go_wp2_with fail
                    exact ⟨⟨5, by omega, rfl, by rw [HE.out]; exact HB.out, HU.out⟩, by simp [intOf]⟩
                  · have e1 : (c.re == 2) = false := by simpa using hx
                    have HE := Lib.hid (show linesJ c 5 = linesJ c 4 ++ ([114, 101, 115, 116, 97, 114, 116, 115] ++ [32] ++ Lib.itoa c.re ++ [10]) from HJM.out hx)
                    have n0 : 0 ≤ c.re := HNN.out 4 (by omega)
                    have n1 : c.re ≤ 1125899906842624 := HMM.out 4 (by omega)
                    have hvl : (Lib.itoa c.re).length ≤ 20 := valL_len (i := 3) n0 n1
                    have hsl := sized_len c.re (by omega)
                    have nm : wr.cell? ⟨0, 4, none⟩ = some (str [114, 101, 115, 116, 97, 114, 116, 115]) := HNr.out 4 _ rfl
                    have kz : sizedI 4 = false := rfl
                    clear hx
                    go_wp2_with (first | (go_at_call 24; refine (fmtInt_any _ _ HPr.out (by omega) (by omega)).mono ?_; rintro e w7 ⟨rfl, hG7⟩; have nm7 := hG7.cell nm) | (go_at_call 30; refine (c_sized_any 4 _).mono ?_; rintro e w8 ⟨rfl, hw8⟩; subst hw8) | (go_at_call 13; refine (c_written_any _ _ (HPr.out.gr hG7) (by omega) (by omega)).mono ?_; rintro e w9 ⟨rfl, hG9⟩; have nm9 := hG9.cell nm7))
                    have HB7 := Lib.hid (HB.out.gr hG7)
                    have HU7 := Lib.hid (HU.out.gr hG7)
                    refine (writeString_any w _ bb _ _ HB7.out (by simp; omega)).mono ?_
                    rintro e wz ⟨rfl, hBz, hOz⟩
                    have hUz := hOz gu _ _ _ hgub tenNe.1 HU7.out
                    have HBZ := Lib.hid hBz
                    have HUZ := Lib.hid hUz
                    clear hBz hUz hOz
                    go_wp2_with fail
                    exact ⟨⟨5, by omega, rfl, by rw [HE.out, ← List.append_assoc]; exact HBZ.out, HUZ.out⟩, by simp [intOf]⟩
                · have u0 : wr.cell? ⟨gu, 5, none⟩ = some (.int .i64 2) := hU.cell 5
                  have HJK := Lib.hid (HJS.out 5)
                  have HJM := Lib.hid (HJO.out 5)
                  clear HJS HJO hU
                  by_cases hx : c.rt = 2
                  · have e1 : (c.rt == 2) = true := by simpa using hx
                    have HE := Lib.hid (HJK.out hx)
                    clear hx
                    go_wp2_with fail
                    exact ⟨⟨6, by omega, rfl, by rw [HE.out]; exact HB.out, HU.out⟩, by simp [intOf]⟩
                  · have e1 : (c.rt == 2) = false := by simpa using hx
                    have HE := Lib.hid (show linesJ c 6 = linesJ c 5 ++ ([114, 101, 116, 114, 105, 101, 115] ++ [32] ++ Lib.itoa c.rt ++ [10]) from HJM.out hx)
                    have n0 : 0 ≤ c.rt := HNN.out 5 (by omega)
                    have n1 : c.rt ≤ 1125899906842624 := HMM.out 5 (by omega)
                    have hvl : (Lib.itoa c.rt).length ≤ 20 := valL_len (i := 3) n0 n1
                    have hsl := sized_len c.rt (by omega)
                    have nm : wr.cell? ⟨0, 5, none⟩ = some (str [114, 101, 116, 114, 105, 101, 115]) := HNr.out 5 _ rfl
                    have kz : sizedI 5 = false := rfl
                    clear hx
                    go_wp2_with (first | (go_at_call 24; refine (fmtInt_any _ _ HPr.out (by omega) (by omega)).mono ?_; rintro e w7 ⟨rfl, hG7⟩; have nm7 := hG7.cell nm) | (go_at_call 30; refine (c_sized_any 5 _).mono ?_; rintro e w8 ⟨rfl, hw8⟩; subst hw8) | (go_at_call 13; refine (c_written_any _ _ (HPr.out.gr hG7) (by omega) (by omega)).mono ?_; rintro e w9 ⟨rfl, hG9⟩; have nm9 := hG9.cell nm7))
                    have HB7 := Lib.hid (HB.out.gr hG7)
                    have HU7 := Lib.hid (HU.out.gr hG7)
                    refine (writeString_any w _ bb _ _ HB7.out (by simp; omega)).mono ?_
                    rintro e wz ⟨rfl, hBz, hOz⟩
                    have hUz := hOz gu _ _ _ hgub tenNe.1 HU7.out
                    have HBZ := Lib.hid hBz
                    have HUZ := Lib.hid hUz
                    clear hBz hUz hOz
                    go_wp2_with fail
                    exact ⟨⟨6, by omega, rfl, by rw [HE.out, ← List.append_assoc]; exact HBZ.out, HUZ.out⟩, by simp [intOf]⟩
                · have u0 : wr.cell? ⟨gu, 6, none⟩ = some (.int .i64 262144) := hU.cell 6
                  have HJK := Lib.hid (HJS.out 6)
                  have HJM := Lib.hid (HJO.out 6)
                  clear HJS HJO hU
                  by_cases hx : c.li = 262144
                  · have e1 : (c.li == 262144) = true := by simpa using hx
                    have HE := Lib.hid (HJK.out hx)
                    clear hx
                    go_wp2_with fail
                    exact ⟨⟨7, by omega, rfl, by rw [HE.out]; exact HB.out, HU.out⟩, by simp [intOf]⟩
                  · have e1 : (c.li == 262144) = false := by simpa using hx
                    have HE := Lib.hid (show linesJ c 7 = linesJ c 6 ++ ([108, 105, 110, 103, 101, 114] ++ [32] ++ sizedL c.li ++ [10]) from HJM.out hx)
                    have n0 : 0 ≤ c.li := HNN.out 6 (by omega)
                    have n1 : c.li ≤ 1125899906842624 := HMM.out 6 (by omega)
                    have hvl : (Lib.itoa c.li).length ≤ 20 := valL_len (i := 3) n0 n1
                    have hsl := sized_len c.li (by omega)
                    have nm : wr.cell? ⟨0, 6, none⟩ = some (str [108, 105, 110, 103, 101, 114]) := HNr.out 6 _ rfl
                    have kz : sizedI 6 = true := rfl
                    clear hx
                    go_wp2_with (first | (go_at_call 24; refine (fmtInt_any _ _ HPr.out (by omega) (by omega)).mono ?_; rintro e w7 ⟨rfl, hG7⟩; have nm7 := hG7.cell nm) | (go_at_call 30; refine (c_sized_any 6 _).mono ?_; rintro e w8 ⟨rfl, hw8⟩; subst hw8) | (go_at_call 13; refine (c_written_any _ _ (HPr.out.gr hG7) (by omega) (by omega)).mono ?_; rintro e w9 ⟨rfl, hG9⟩; have nm9 := hG9.cell nm7))
                    have HB7 := Lib.hid (HB.out.gr (Gr.tr hG7 hG9))
                    have HU7 := Lib.hid (HU.out.gr (Gr.tr hG7 hG9))
                    refine (writeString_any w _ bb _ _ HB7.out (by simp; omega)).mono ?_
                    rintro e wz ⟨rfl, hBz, hOz⟩
                    have hUz := hOz gu _ _ _ hgub tenNe.1 HU7.out
                    have HBZ := Lib.hid hBz
                    have HUZ := Lib.hid hUz
                    clear hBz hUz hOz
                    go_wp2_with fail
                    exact ⟨⟨7, by omega, rfl, by rw [HE.out, ← List.append_assoc]; exact HBZ.out, HUZ.out⟩, by simp [intOf]⟩
                · have u0 : wr.cell? ⟨gu, 7, none⟩ = some (.int .i64 1073741824) := hU.cell 7
                  have HJK := Lib.hid (HJS.out 7)
                  have HJM := Lib.hid (HJO.out 7)
                  clear HJS HJO hU
                  by_cases hx : c.bu = 1073741824
                  · have e1 : (c.bu == 1073741824) = true := by simpa using hx
                    have HE := Lib.hid (HJK.out hx)
                    clear hx
                    go_wp2_with fail
                    exact ⟨⟨8, by omega, rfl, by rw [HE.out]; exact HB.out, HU.out⟩, by simp [intOf]⟩
                  · have e1 : (c.bu == 1073741824) = false := by simpa using hx
                    have HE := Lib.hid (show linesJ c 8 = linesJ c 7 ++ ([98, 117, 100, 103, 101, 116] ++ [32] ++ sizedL c.bu ++ [10]) from HJM.out hx)
                    have n0 : 0 ≤ c.bu := HNN.out 7 (by omega)
                    have n1 : c.bu ≤ 1125899906842624 := HMM.out 7 (by omega)
                    have hvl : (Lib.itoa c.bu).length ≤ 20 := valL_len (i := 3) n0 n1
                    have hsl := sized_len c.bu (by omega)
                    have nm : wr.cell? ⟨0, 7, none⟩ = some (str [98, 117, 100, 103, 101, 116]) := HNr.out 7 _ rfl
                    have kz : sizedI 7 = true := rfl
                    clear hx
                    go_wp2_with (first | (go_at_call 24; refine (fmtInt_any _ _ HPr.out (by omega) (by omega)).mono ?_; rintro e w7 ⟨rfl, hG7⟩; have nm7 := hG7.cell nm) | (go_at_call 30; refine (c_sized_any 7 _).mono ?_; rintro e w8 ⟨rfl, hw8⟩; subst hw8) | (go_at_call 13; refine (c_written_any _ _ (HPr.out.gr hG7) (by omega) (by omega)).mono ?_; rintro e w9 ⟨rfl, hG9⟩; have nm9 := hG9.cell nm7))
                    have HB7 := Lib.hid (HB.out.gr (Gr.tr hG7 hG9))
                    have HU7 := Lib.hid (HU.out.gr (Gr.tr hG7 hG9))
                    refine (writeString_any w _ bb _ _ HB7.out (by simp; omega)).mono ?_
                    rintro e wz ⟨rfl, hBz, hOz⟩
                    have hUz := hOz gu _ _ _ hgub tenNe.1 HU7.out
                    have HBZ := Lib.hid hBz
                    have HUZ := Lib.hid hUz
                    clear hBz hUz hOz
                    go_wp2_with fail
                    exact ⟨⟨8, by omega, rfl, by rw [HE.out, ← List.append_assoc]; exact HBZ.out, HUZ.out⟩, by simp [intOf]⟩
                · have u0 : wr.cell? ⟨gu, 8, none⟩ = some (.int .i64 536870912) := hU.cell 8
                  have HJK := Lib.hid (HJS.out 8)
                  have HJM := Lib.hid (HJO.out 8)
                  clear HJS HJO hU
                  by_cases hx : c.sh = 536870912
                  · have e1 : (c.sh == 536870912) = true := by simpa using hx
                    have HE := Lib.hid (HJK.out hx)
                    clear hx
                    go_wp2_with fail
                    exact ⟨⟨9, by omega, rfl, by rw [HE.out]; exact HB.out, HU.out⟩, by simp [intOf]⟩
                  · have e1 : (c.sh == 536870912) = false := by simpa using hx
                    have HE := Lib.hid (show linesJ c 9 = linesJ c 8 ++ ([115, 104, 97, 114, 101] ++ [32] ++ sizedL c.sh ++ [10]) from HJM.out hx)
                    have n0 : 0 ≤ c.sh := HNN.out 8 (by omega)
                    have n1 : c.sh ≤ 1125899906842624 := HMM.out 8 (by omega)
                    have hvl : (Lib.itoa c.sh).length ≤ 20 := valL_len (i := 3) n0 n1
                    have hsl := sized_len c.sh (by omega)
                    have nm : wr.cell? ⟨0, 8, none⟩ = some (str [115, 104, 97, 114, 101]) := HNr.out 8 _ rfl
                    have kz : sizedI 8 = true := rfl
                    clear hx
                    go_wp2_with (first | (go_at_call 24; refine (fmtInt_any _ _ HPr.out (by omega) (by omega)).mono ?_; rintro e w7 ⟨rfl, hG7⟩; have nm7 := hG7.cell nm) | (go_at_call 30; refine (c_sized_any 8 _).mono ?_; rintro e w8 ⟨rfl, hw8⟩; subst hw8) | (go_at_call 13; refine (c_written_any _ _ (HPr.out.gr hG7) (by omega) (by omega)).mono ?_; rintro e w9 ⟨rfl, hG9⟩; have nm9 := hG9.cell nm7))
                    have HB7 := Lib.hid (HB.out.gr (Gr.tr hG7 hG9))
                    have HU7 := Lib.hid (HU.out.gr (Gr.tr hG7 hG9))
                    refine (writeString_any w _ bb _ _ HB7.out (by simp; omega)).mono ?_
                    rintro e wz ⟨rfl, hBz, hOz⟩
                    have hUz := hOz gu _ _ _ hgub tenNe.1 HU7.out
                    have HBZ := Lib.hid hBz
                    have HUZ := Lib.hid hUz
                    clear hBz hUz hOz
                    go_wp2_with fail
                    exact ⟨⟨9, by omega, rfl, by rw [HE.out, ← List.append_assoc]; exact HBZ.out, HUZ.out⟩, by simp [intOf]⟩
                · have u0 : wr.cell? ⟨gu, 9, none⟩ = some (.int .i64 32768) := hU.cell 9
                  have HJK := Lib.hid (HJS.out 9)
                  have HJM := Lib.hid (HJO.out 9)
                  clear HJS HJO hU
                  by_cases hx : c.ch = 32768
                  · have e1 : (c.ch == 32768) = true := by simpa using hx
                    have HE := Lib.hid (HJK.out hx)
                    clear hx
                    go_wp2_with fail
                    exact ⟨⟨10, by omega, rfl, by rw [HE.out]; exact HB.out, HU.out⟩, by simp [intOf]⟩
                  · have e1 : (c.ch == 32768) = false := by simpa using hx
                    have HE := Lib.hid (show linesJ c 10 = linesJ c 9 ++ ([99, 104, 117, 110, 107] ++ [32] ++ sizedL c.ch ++ [10]) from HJM.out hx)
                    have n0 : 0 ≤ c.ch := HNN.out 9 (by omega)
                    have n1 : c.ch ≤ 1125899906842624 := HMM.out 9 (by omega)
                    have hvl : (Lib.itoa c.ch).length ≤ 20 := valL_len (i := 3) n0 n1
                    have hsl := sized_len c.ch (by omega)
                    have nm : wr.cell? ⟨0, 9, none⟩ = some (str [99, 104, 117, 110, 107]) := HNr.out 9 _ rfl
                    have kz : sizedI 9 = true := rfl
                    clear hx
                    go_wp2_with (first | (go_at_call 24; refine (fmtInt_any _ _ HPr.out (by omega) (by omega)).mono ?_; rintro e w7 ⟨rfl, hG7⟩; have nm7 := hG7.cell nm) | (go_at_call 30; refine (c_sized_any 9 _).mono ?_; rintro e w8 ⟨rfl, hw8⟩; subst hw8) | (go_at_call 13; refine (c_written_any _ _ (HPr.out.gr hG7) (by omega) (by omega)).mono ?_; rintro e w9 ⟨rfl, hG9⟩; have nm9 := hG9.cell nm7))
                    have HB7 := Lib.hid (HB.out.gr (Gr.tr hG7 hG9))
                    have HU7 := Lib.hid (HU.out.gr (Gr.tr hG7 hG9))
                    refine (writeString_any w _ bb _ _ HB7.out (by simp; omega)).mono ?_
                    rintro e wz ⟨rfl, hBz, hOz⟩
                    have hUz := hOz gu _ _ _ hgub tenNe.1 HU7.out
                    have HBZ := Lib.hid hBz
                    have HUZ := Lib.hid hUz
                    clear hBz hUz hOz
                    go_wp2_with fail
                    exact ⟨⟨10, by omega, rfl, by rw [HE.out, ← List.append_assoc]; exact HBZ.out, HUZ.out⟩, by simp [intOf]⟩
              · obtain rfl : j = 10 := by omega
                clear hU
                go_wp2_with fail
                exact ⟨⟨k + 1, by omega, by go_num, by rw [HSU.out, ← List.append_assoc]; exact HB.out, HU.out⟩, by simp [intOf]; omega⟩
          · obtain rfl : k = l.length := by omega
            rw [List.take_length] at HB
            go_wp2_with (go_at_call 31; refine (string_any w _ bb _ HB.out).mono ?_; rintro e w9 ⟨rfl, hG9⟩)
            go_ret2
            exact ⟨by unfold textV; rw [HT.out]; rfl, hG9⟩
end Go.Proofs.YtghopokdfjcjlaaDoor
