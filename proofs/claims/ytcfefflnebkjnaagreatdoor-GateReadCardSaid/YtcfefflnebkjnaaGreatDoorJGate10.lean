/- Several texts in one (their own heads say what each is). No conditions but those that each theorem names. -/
import Derived.Test.YtcfefflnebkjnaaGreatDoorJGate8
import Derived.Test.YtcfefflnebkjnaaGreatDoorJGate3
import Derived.Test.YtcfefflnebkjnaaGreatDoorJFrame2
import Derived.Test.YtcfefflnebkjnaaGreatDoorJWords
set_option linter.unusedVariables false
set_option linter.unusedSimpArgs false
/- XGate10 -/
namespace Go.Proofs.YtcfefflnebkjnaaGreatDoor
theorem greatA_small {fs : List Fld} {ps : List PartT} {obj : List UInt8} (h : greatA fs ps obj = false) : fs.length ≤ 130 ∧ bulk2 fs ≤ 12000 ∧ ps.length ≤ 100 ∧ obj.length ≤ 1000 ∧ PartsLow obj ps := by
  obtain ⟨h1, h2, h3, h4⟩ := greatA_no h
  unfold great2 at h3
  simp only [Bool.or_eq_false_iff, decide_eq_false_iff_not] at h3
  exact ⟨by omega, by omega, by omega, by omega, fun p hp => by have := h4 p hp; omega⟩
end Go.Proofs.YtcfefflnebkjnaaGreatDoor
/- XGate11 -/
namespace Go.Proofs.YtcfefflnebkjnaaGreatDoor
theorem right_sizes {f : Fld} (h : right f = true) : f.1.length ≤ 200 ∧ f.2.length ≤ 8192 := by
  unfold right at h
  simp only [Bool.and_eq_true, decide_eq_true_eq] at h
  exact ⟨h.1.1.1.2, h.1.1.2⟩
theorem bulk1_le45 {vs : List (List UInt8)} {k : Nat} (h : ∀ x ∈ vs, x.length ≤ k) : bulk1 vs ≤ vs.length * k := by
  unfold bulk1
  induction vs with
  | nil => simp
  | cons x r ih =>
    have h1 := h x (List.mem_cons_self ..)
    have h2 := ih (fun y hy => h y (List.mem_cons_of_mem _ hy))
    simp only [List.map_cons, List.sum_cons, List.length_cons, Nat.add_mul, Nat.one_mul]
    omega
theorem scan_len45 (l : List UInt8) (q n : Bool) (item : List UInt8) : (scan q n item l).length ≤ l.length + 1 := by
  induction l generalizing q n item with
  | nil => simp [scan]
  | cons c t ih =>
    rw [scan_cons]
    have h1 := ih q n []
    have h2 := ih q false (item ++ [c])
    have h3 := ih q true (item ++ [c])
    have h4 := ih (!q) false (item ++ [c])
    simp only [List.length_cons]
    split
    · simp only [List.length_cons]; omega
    · split
      · omega
      · split
        · omega
        · split <;> omega
theorem itemsV_len45 (l : List UInt8) : (itemsV l).length ≤ l.length + 1 := by
  unfold itemsV
  exact Nat.le_trans (List.length_filter_le _ _) (by rw [List.length_map]; exact scan_len45 l _ _ _)
theorem itemsAll_len45 (vs : List (List UInt8)) : (itemsAll vs).length ≤ bulk1 vs + vs.length := by
  unfold itemsAll bulk1
  induction vs with
  | nil => simp
  | cons v vs ih =>
    have := itemsV_len45 v
    simp only [List.flatMap_cons, List.length_append, List.map_cons, List.sum_cons, List.length_cons]; omega
/-- fields that are read from a head -/
structure FldsOk (F : List Fld) : Prop where
  short : Short2 F
  val : ∀ f ∈ F, f.2.length ≤ 1000000
  many : F.length ≤ 1000
  items : (itemsAll (ofN F codingN)).length ≤ 1000000000
theorem fldsOk_right {F : List Fld} (h : F.all right = true) (hn : F.length ≤ 100) : FldsOk F := by
  have hr := fun f hf => right_sizes (List.all_eq_true.1 h f hf)
  refine ⟨fun f hf => ⟨Nat.le_trans (hr f hf).1 (by decide), Nat.le_trans (hr f hf).2 (by decide)⟩, fun f hf => Nat.le_trans (hr f hf).2 (by decide), by omega, ?_⟩
  have h1 := itemsAll_len45 (ofN F codingN)
  have h2 : bulk1 (ofN F codingN) ≤ (ofN F codingN).length * 8192 := bulk1_le45 (fun x hx => by
    unfold ofN at hx
    rw [List.mem_map] at hx
    obtain ⟨f, hf, rfl⟩ := hx
    exact (hr f (List.mem_filter.1 hf).1).2)
  have h3 := ofN_len F codingN
  have h4 : (ofN F codingN).length * 8192 ≤ 100 * 8192 := Nat.mul_le_mul_right _ (by omega)
  omega
theorem gBody_le45 (sz : Int) (l : List UInt8) (hl : l.length ≤ 100000) : (gBody sz l ++ gEnd sz true).length ≤ 200000 := by
  have h := (hexT_le l.length (by omega)).2
  unfold gBody gEnd chunkL lastL
  split <;> split <;> (try split) <;> simp only [List.length_append, List.length_cons, List.length_nil] <;> omega
theorem whole_le {st sz : Int} {fs : List Fld} {ps : List PartT} {obj : List UInt8} (h : (wholeR st fs ps sz obj).2 = 0) (hl : (fillL obj ps).length ≤ 100000) : (wholeR st fs ps sz obj).1.length ≤ 300000 := by
  have T := told_of h
  rw [T.eq]
  have h1 := putH_le ([], [], st, headF st fs sz) (by simp) (by simp)
  have h2 := gBody_le45 sz (fillL obj ps) hl
  simp only
  cases bodB st with
  | false => simp only [Bool.false_eq_true, if_false, List.append_nil]; omega
  | true => simp only [if_true]; rw [List.length_append]; omega
theorem whole_flds {st sz : Int} {fs : List Fld} {ps : List PartT} {obj : List UInt8} (h : (wholeR st fs ps sz obj).2 = 0) : FldsOk (headF st fs sz) := by
  have T := told_of h
  obtain ⟨_, _, h1, h2, _⟩ := putH_ok T.head
  exact fldsOk_right h1 h2
theorem cut45_ex {st sz : Int} {fs : List Fld} {ps : List PartT} {obj : List UInt8} (h : (wholeR st fs ps sz obj).2 = 0) (hl : (fillL obj ps).length ≤ 100000) (cut : Nat) (hc : cut < (wholeR st fs ps sz obj).1.length) :
    ∃ n : Nat, tellR (wholeR st fs ps sz obj).1 = (([], [], st, headF st fs sz), n, 0) ∧ (cut < n → tellR ((wholeR st fs ps sz obj).1.take cut) = (noHead, 0, 3)) ∧
      (n ≤ cut → ∃ (k z : Nat), tellR ((wholeR st fs ps sz obj).1.take cut) = (([], [], st, headF st fs sz), n, 0) ∧ frameL st (headF st fs sz) getB = (k, (z : Int), 0) ∧ 1 ≤ k ∧ k ≤ 4 ∧ z ≤ 1099511627776 ∧ (k ≠ 1 → z = 0) ∧
        frDone (frTk (FrT.new k z) (((wholeR st fs ps sz obj).1.take cut).drop n)).2.2.2 = false ∧ frDone (frTk (FrT.new k z) (((wholeR st fs ps sz obj).1.take cut).drop n)).2.2.2.stop = false ∧ (frTk (FrT.new k z) (((wholeR st fs ps sz obj).1.take cut).drop n)).2.2.2.kind = k) := by
  obtain ⟨n, h1, h2, h3⟩ := cut45_of h hl cut hc
  exact ⟨n, h1, h2, h3⟩
theorem headF_app (st : Int) (fs : List Fld) (sz : Int) : (headF st fs sz).take fs.length = fs ∧ fs.length ≤ (headF st fs sz).length := by
  unfold headF
  cases bodB st <;> simp
theorem read45_ex {st sz : Int} {fs : List Fld} {ps : List PartT} {obj : List UInt8} (h : (wholeR st fs ps sz obj).2 = 0) (hl : (fillL obj ps).length ≤ 100000) (more : List UInt8) :
    ∃ (k z n : Nat) (s : FrT), tellR ((wholeR st fs ps sz obj).1 ++ more) = (([], [], st, headF st fs sz), n, 0) ∧ 1 ≤ n ∧ n ≤ (wholeR st fs ps sz obj).1.length ∧ frameL st (headF st fs sz) getB = (k, (z : Int), 0) ∧ 1 ≤ k ∧ k ≤ 4 ∧ z ≤ 1099511627776 ∧ (k ≠ 1 → z = 0) ∧
      frTk (FrT.new k z) (((wholeR st fs ps sz obj).1 ++ more).drop n) = (if bodB st then fillL obj ps else [], (wholeR st fs ps sz obj).1.length - n, 0, s) ∧ frDone s = true ∧ frDone s.stop = true ∧ s.kind = k := by
  obtain ⟨k, z, n, s, hR⟩ := read45_of h hl more
  exact ⟨k, z, n, s, hR.tell, hR.n1, hR.n2, hR.frame, hR.k1, hR.k4, hR.z1, hR.z0, hR.take, hR.done, hR.stop, hR.kind⟩
end Go.Proofs.YtcfefflnebkjnaaGreatDoor
/- XGate12 -/
namespace Go.Proofs.YtcfefflnebkjnaaGreatDoor
open Go.RowKit
theorem sizeFld (w : World) : (sizeOf (Tryz.prog.elem 42)).run Tryz.prog w = .ok 2 w := by
  simp [sizeOf, typeInfo]; kernel_rfl
theorem elemTF : Tryz.prog.underlying 42 = some (.slice (Tryz.prog.elem 42)) := by kernel_rfl
theorem flds_front {w : World} {A : Option Addr} {n c k : Nat} {F : List Fld} (h : Flds w (.slice A n c) F) (hk : k ≤ F.length) : ∃ A2, sliced A 0 k c 2 = .slice A2 k c ∧ Flds w (.slice A2 k c) (F.take k) := by
  obtain ⟨A', c', hv, hc, hm, ho⟩ := h
  injection hv with e1 e2 e3
  subst e1 e2 e3
  refine ⟨_, rfl, _, _, by rw [List.length_take, Nat.min_eq_left hk], by rw [List.length_take]; show _ ≤ c; omega, by rw [List.length_take]; omega, ?_⟩
  rcases Nat.eq_zero_or_pos k with h0 | h0
  · left; rw [h0]; rfl
  · right
    rcases ho with ho | ⟨b, o, rfl, hb, hj⟩
    · exfalso
      have := congrArg List.length ho
      rw [flat2_len] at this
      simp at this; omega
    · rw [if_neg (by omega)]
      refine ⟨b, o, ?_, hb, fun j u hu => ?_⟩
      · simp only [Option.map_some, Option.some.injEq, Nat.zero_mul]
        unfold Addr.add; split <;> simp_all
      · refine hj j u ?_
        have hjl := (List.getElem?_eq_some_iff.1 hu).1
        have e : flat2 F = flat2 (F.take k) ++ flat2 (F.drop k) := by rw [← flat2_append, List.take_append_drop]
        rw [e, List.getElem?_append_left hjl]; exact hu
/-- l[:k] of fields, under whatever guard -/
theorem op_slFlds {o : Oper} {a : Act} {K : Act → World → Prop} {Q : Exit → Act → World → Prop} {w : World} {A : Option Addr} {n c : Nat} {F : List Fld} {k : Nat} (x y : Operand) (ho : o.op = .slice 42 x none (some y) none) (hx : a.eval x = .slice A n c) (hy : a.eval y = .int .i64 (k : Nat))
    (hF : Flds w (.slice A n c) F) (hk : k ≤ F.length) (h : ∀ A2, Flds w (.slice A2 k c) (F.take k) → K (a.put o.dst (.slice A2 k c)) w) : o.wp Tryz.prog a w K Q := by
  obtain ⟨A2, e, h2⟩ := flds_front hF hk
  have hc : F.length ≤ c := by
    obtain ⟨A', c', hv, hc, _⟩ := hF
    injection hv with e1 e2 e3
    subst e1 e2 e3
    exact hc
  unfold Oper.wp execOp
  simp only [ho, hx, hy, Option.map_some, Option.map_none, Sem.run_bind, run_sliceAt_slice w _ _ _ _ _ elemTF, run_slice_h w _ _ _ _ elemTF .i64 (k : Int) (by omega) (show (k : Int) ≤ (c : Int) by omega), sizeFld, Result.andThen_ok, Sem.run_pure, Int.toNat_natCast, e]
  exact h A2 h2
theorem whole_in {st sz : Int} {fs : List Fld} {ps : List PartT} {obj : List UInt8} (h : (wholeR st fs ps sz obj).2 = 0) : gIn obj ps = true := by
  unfold wholeR at h
  cases hw : wholeOk st fs ps sz obj with
  | false => rw [hw] at h; cases h
  | true => exact (wholeOk_iff.1 hw).2.1
end Go.Proofs.YtcfefflnebkjnaaGreatDoor
