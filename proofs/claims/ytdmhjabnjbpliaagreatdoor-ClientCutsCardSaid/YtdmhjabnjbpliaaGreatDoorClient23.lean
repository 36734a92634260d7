/- Layer 16's laws: arguments' bytes, cut; readers handed pieces of them. Laws of the walk; contracts. -/
import Derived.Test.YtdmhjabnjbpliaaGreatDoorClient15
import Derived.Test.YtdmhjabnjbpliaaGreatDoorClient16
set_option linter.unusedVariables false
set_option linter.unusedSimpArgs false
namespace Go.Proofs.YtdmhjabnjbpliaaGreatDoor
open Go.RowKit
/-- b[k:], of bytes that lay in a world before -/
theorem slArgLo {ops : Array Oper} {rest : List Oper} {o : Oper} {a : Act} {Q : Exit → Act → World → Prop} {W w : World} {A : Option Addr} {n c : Nat} {l : List UInt8} {kd : IntKind} {k : Int} (x y : Operand) (hgd : o.guard = none) (ho : o.op = .slice 30 x (some y) none none) (hx : a.eval x = .slice A n c) (hy : a.eval y = .int kd k)
    (hb : Byts W (.slice A n c) l) (hk0 : 0 ≤ k) (hk : k ≤ l.length)
    (h : ∀ A2, Byts W (.slice A2 (l.length - k.toNat) (c - k.toNat)) (l.drop k.toNat) → wpList Tryz.prog ops Q rest (a.put o.dst (.slice A2 (l.length - k.toNat) (c - k.toNat))) w) : wpList Tryz.prog ops Q (o :: rest) a w := by
  obtain ⟨rfl, hc⟩ := hb.len
  obtain ⟨A2, e, h2⟩ := hb.sliced k.toNat l.length c (by omega) (Nat.le_refl _) hc (Nat.le_refl _)
  rw [List.take_of_length_le (by rw [List.length_drop]; omega)] at h2
  refine wpList_run hgd ?_ (h A2 h2)
  unfold execOp
  simp only [ho, hx, hy, Option.map_some, Option.map_none, Sem.run_bind, run_sliceAt_slice w _ _ _ _ _ elemT, run_slice_l w _ _ _ _ elemT kd k hk0 hk, sizeByte, Result.andThen_ok, Sem.run_pure, e]
/-- b[:k] -/
theorem slArgHi {ops : Array Oper} {rest : List Oper} {o : Oper} {a : Act} {Q : Exit → Act → World → Prop} {W w : World} {A : Option Addr} {n c : Nat} {l : List UInt8} {kd : IntKind} {k : Int} (x y : Operand) (hgd : o.guard = none) (ho : o.op = .slice 30 x none (some y) none) (hx : a.eval x = .slice A n c) (hy : a.eval y = .int kd k)
    (hb : Byts W (.slice A n c) l) (hk0 : 0 ≤ k) (hk : k ≤ l.length)
    (h : ∀ A2, Byts W (.slice A2 k.toNat c) (l.take k.toNat) → wpList Tryz.prog ops Q rest (a.put o.dst (.slice A2 k.toNat c)) w) : wpList Tryz.prog ops Q (o :: rest) a w := by
  obtain ⟨rfl, hc⟩ := hb.len
  obtain ⟨A2, e, h2⟩ := hb.sliced 0 k.toNat c (Nat.zero_le _) (by omega) (by omega) (Nat.le_refl _)
  simp only [Nat.sub_zero, List.drop_zero] at h2 e
  refine wpList_run hgd ?_ (h A2 h2)
  unfold execOp
  simp only [ho, hx, hy, Option.map_some, Option.map_none, Sem.run_bind, run_sliceAt_slice w _ _ _ _ _ elemT, run_slice_h w _ _ _ _ elemT kd k hk0 (show k ≤ (c : Int) by omega), sizeByte, Result.andThen_ok, Sem.run_pure, e]
/-- b[j:k] -/
theorem slArgLH {ops : Array Oper} {rest : List Oper} {o : Oper} {a : Act} {Q : Exit → Act → World → Prop} {W w : World} {A : Option Addr} {n c : Nat} {l : List UInt8} {kd ke : IntKind} {j k : Int} (x y z : Operand) (hgd : o.guard = none) (ho : o.op = .slice 30 x (some y) (some z) none) (hx : a.eval x = .slice A n c) (hy : a.eval y = .int kd j) (hz : a.eval z = .int ke k)
    (hb : Byts W (.slice A n c) l) (hj0 : 0 ≤ j) (hjk : j ≤ k) (hk : k ≤ l.length)
    (h : ∀ A2, Byts W (.slice A2 (k.toNat - j.toNat) (c - j.toNat)) ((l.drop j.toNat).take (k.toNat - j.toNat)) → wpList Tryz.prog ops Q rest (a.put o.dst (.slice A2 (k.toNat - j.toNat) (c - j.toNat))) w) : wpList Tryz.prog ops Q (o :: rest) a w := by
  obtain ⟨rfl, hc⟩ := hb.len
  obtain ⟨A2, e, h2⟩ := hb.sliced j.toNat k.toNat c (by omega) (by omega) (by omega) (Nat.le_refl _)
  refine wpList_run hgd ?_ (h A2 h2)
  unfold execOp
  simp only [ho, hx, hy, hz, Option.map_some, Option.map_none, Sem.run_bind, run_sliceAt_slice w _ _ _ _ _ elemT, run_slice_lh w _ _ _ _ elemT kd ke j k hj0 hjk (show k ≤ (c : Int) by omega), sizeByte, Result.andThen_ok, Sem.run_pure, e]
/-- a request that lies in a world: a new reader for it -/
theorem newQ_any (W0 w : World) (hW : Gr W0 w) (q : ReqT) (vs vm vn : Value) (ha : ReqA w q vs vm vn) (hl : ReqLow q) (hf : fewC q = true) (hr : reqC q = true) : Calls Tryz.prog 12 #[reqV q vs vm vn] w (fun e w' => Gr w w' ∧ ∃ g, e = .returned (.tuple #[.pointer (some ⟨g, 0, none⟩), .int .i64 0]) ∧ ClR W0 w' g [g] (if q.1 then headB else getB) false false (.head []) ∧ w.heap.size ≤ g) := by
  have hh : q.2.2.2.mt.length ≤ 1000000 ∧ q.2.2.2.no.length ≤ 1000000 := by
    unfold fewC at hf
    simp only [Bool.and_eq_true] at hf
    have := fewB_iff.1 hf.2
    omega
  refine (kNew_any W0 w hW q vs vm vn ha hl hh.1 hh.2).mono ?_
  intro e w' hn
  unfold NewEnd at hn
  rw [hr] at hn
  exact hn
end Go.Proofs.YtdmhjabnjbpliaaGreatDoor
