/- Byte slices that read as lists of bytes: opened, cut, made into texts. No conditions. -/
import Derived.Test.YtnmfmcmokdoieaaGreatDoorOwn
import Derived.Test.YtnmfmcmokdoieaaGreatDoorField7
import Derived.Lib.SlBytesConst
import Derived.Laws.BytesArg
set_option linter.unusedVariables false
set_option linter.unusedSimpArgs false
namespace Go.Proofs.YtnmfmcmokdoieaaGreatDoor
open Go.RowKit
/-- a byte as a value -/
abbrev byt (c : UInt8) : Value := .int .u8 (c.toNat : Int)
/-- a slice of bytes that reads as l -/
def Byts (w : World) (v : Value) (l : List UInt8) : Prop := Sl w v l.length (l.map byt)
theorem Byts.gr {w w' : World} {v : Value} {l} (h : Byts w v l) (g : Gr w w') : Byts w' v l := Sl.gr h g
theorem Byts.open {w : World} {v : Value} {l : List UInt8} (h : Byts w v l) : ∃ A c, v = .slice A l.length c ∧ l.length ≤ c ∧ l.length ≤ 9223372036854775807 ∧ ∀ (k : Nat) (hk : k < l.length), ∃ b o, A = some ⟨b, o, none⟩ ∧ b < w.heap.size ∧ w.cell? ⟨b, o + k, none⟩ = some (byt l[k]) := by
  obtain ⟨A, c, hv, hc, hm, ho⟩ := Sl.open h
  refine ⟨A, c, hv, hc, hm, fun k hk => ?_⟩
  have he : (l.map byt)[k]? = some (byt l[k]) := by simp [List.getElem?_eq_getElem hk]
  obtain ⟨b, o, hA, hb, hj⟩ := ho k _ he
  exact ⟨b, o, hA, hb, hj k _ he⟩
theorem Byts.nil (w : World) : Byts w (.slice none 0 0) [] := ⟨none, 0, rfl, Nat.le_refl _, by simp, .inl rfl⟩
theorem Byts.cellAt {w : World} {A : Option Addr} {n c : Nat} {l : List UInt8} (h : Byts w (.slice A n c) l) (k : Nat) (hk : k < l.length) : ∃ b o, A = some ⟨b, o, none⟩ ∧ b < w.heap.size ∧ w.cell? ⟨b, o + k, none⟩ = some (byt l[k]) := by
  obtain ⟨A', c', hv, _, _, ho⟩ := Byts.open h
  injection hv with h1
  subst h1
  exact ho k hk
theorem Byts.len {w : World} {A : Option Addr} {n c : Nat} {l : List UInt8} (h : Byts w (.slice A n c) l) : n = l.length ∧ l.length ≤ c := by
  obtain ⟨A', c', hv, hc, _, ho⟩ := Byts.open h
  injection hv with _ h2 h3
  exact ⟨h2, by rw [h3]; exact hc⟩
theorem nums_at (l : List UInt8) (i : Nat) (hi : i < l.length) : (l.map fun c => (c.toNat : Int)).getD i 0 = (l[i].toNat : Int) := by
  rw [List.getD_eq_getElem?_getD]; simp [List.getElem?_eq_getElem hi]
theorem str_nums (l : List UInt8) : Value.string (strOfNums (l.map fun c => (c.toNat : Int))) = str l := by
  have e : (strOfNums (l.map fun c => (c.toNat : Int))) = ⟨l.toArray⟩ := by
    unfold strOfNums
    congr 1
    rw [List.map_map]
    congr 1
    induction l with
    | nil => rfl
    | cons c l ih => rw [List.map_cons, ih]; simp
  rw [e]
theorem bytesOf_nums (l : List UInt8) : Lib.bytesOf (l.map fun c => (c.toNat : Int)) = l := by
  unfold Lib.bytesOf
  rw [List.map_map]
  induction l with
  | nil => rfl
  | cons c l ih => rw [List.map_cons, ih]; simp
/-- string(b) -/
theorem Byts.toStr {w : World} {v : Value} {l : List UInt8} (h : Byts w v l) : (convert 32 9 v).run Tryz.prog w = .ok (str l) w := by
  obtain ⟨A, c, rfl, hc, hm, ho⟩ := h.open
  cases l with
  | nil =>
    rw [List.length_nil]
    have e : str [] = .string ByteArray.empty := rfl
    rw [e]
    cases A with
    | none => exact run_convert_bytes_nil w 32 5 Tryz.underlying32 Tryz.underlying5 0 c 9 Tryz.underlying9
    | some ad =>
      rw [run_convert_bytes_string w 32 9 5 _ 0 c Tryz.underlying32 Tryz.underlying5 Tryz.underlying9, run_bytesToString w _ 0 c [] rfl]
      rfl
  | cons x t =>
    obtain ⟨b, o, rfl, _, _⟩ := ho 0 (by simp)
    have hr := run_convert_bytes_arg (P := Tryz.prog) w 32 5 Tryz.underlying32 Tryz.underlying5 b o (x :: t).length c ((x :: t).map fun c => (c.toNat : Int)) (by simp) (fun i hi => by
      obtain ⟨b', o', hA, _, hcell⟩ := ho i hi
      injection hA with hA
      injection hA with h1 h2
      subst h1 h2
      rw [hcell, nums_at _ _ hi]) 9 Tryz.underlying9
    rw [hr, str_nums]
theorem wpList_run {P : Program} {ops : Array Oper} {rest : List Oper} {o : Oper} {a : Act} {Q : Exit → Act → World → Prop} {w w' : World} {v : Value} (hgd : o.guard = none)
    (hr : (execOp a.eval o).run P w = .ok (.value v) w') (h : wpList P ops Q rest (a.put o.dst v) w') : wpList P ops Q (o :: rest) a w := by
  refine wpList_plain hgd fun K hK => ?_
  unfold Oper.wp
  rw [hr]
  exact hK _ _ h
/-- string(b), as an operation -/
theorem wpList_toStr {ops : Array Oper} {rest : List Oper} {o : Oper} {a : Act} {Q : Exit → Act → World → Prop} {w : World} {v : Value} {l : List UInt8} (x : Operand) (hgd : o.guard = none) (ho : o.op = .convert 32 9 x) (hx : a.eval x = v)
    (hb : Byts w v l) (h : wpList Tryz.prog ops Q rest (a.put o.dst (str l)) w) : wpList Tryz.prog ops Q (o :: rest) a w := by
  refine wpList_run hgd ?_ h
  unfold execOp
  simp only [ho, hx, Sem.run_bind, hb.toStr, Result.andThen_ok, Sem.run_pure]
theorem elemByte : ElemOk Tryz.prog 32 5 (.int .u8 0) 1 1 := ⟨Tryz.underlying32, by kernel_rfl, rfl, by decide⟩
theorem one_byt (l : List UInt8) : ∀ u ∈ l.map byt, u.oneCell' = true := by
  intro u hu; simp only [List.mem_map] at hu; obtain ⟨x, _, rfl⟩ := hu; rfl
/-- what a cut of a slice of bytes is -/
theorem Byts.sliced {w : World} {A : Option Addr} {n c : Nat} {l : List UInt8} (h : Byts w (.slice A n c) l) (lo hi m : Nat) (h1 : lo ≤ hi) (h2 : hi ≤ l.length) (h3 : hi ≤ m) (_h4 : m ≤ c) : ∃ A2, sliced A lo hi m 1 = .slice A2 (hi - lo) (m - lo) ∧ Byts w (.slice A2 (hi - lo) (m - lo)) ((l.drop lo).take (hi - lo)) := by
  obtain ⟨A', c', hv, hc, hm, ho⟩ := h
  injection hv with e1 e2 e3
  subst e1 e2 e3
  refine ⟨_, rfl, _, _, by rw [List.length_take, List.length_drop, Nat.min_eq_left (by omega)], by rw [List.length_take]; omega, by rw [List.length_take]; omega, ?_⟩
  rcases Nat.eq_zero_or_pos (hi - lo) with h0 | h0
  · left; rw [h0]; rfl
  · right
    rcases ho with ho | ⟨b, o, rfl, hb, hj⟩
    · exfalso
      have : l = [] := List.map_eq_nil_iff.1 ho
      subst this
      simp at h2; omega
    · rw [if_neg (by omega)]
      refine ⟨b, o + lo, ?_, hb, fun j u hu => ?_⟩
      · simp only [Option.map_some, Option.some.injEq]
        unfold Addr.add; split <;> simp_all
      · rw [Nat.add_assoc]
        refine hj (lo + j) u ?_
        have hjl := (List.getElem?_eq_some_iff.1 hu).1
        rw [List.length_map, List.length_take] at hjl
        rw [List.getElem?_map, List.getElem?_take, if_pos (by omega), List.getElem?_drop, ← List.getElem?_map] at hu
        exact hu
theorem sizeByte (w : World) : (sizeOf (Tryz.prog.elem 32)).run Tryz.prog w = .ok 1 w := by
  simp [sizeOf, typeInfo]; kernel_rfl
theorem elemT : Tryz.prog.underlying 32 = some (.slice (Tryz.prog.elem 32)) := by kernel_rfl
/-- b[k:] -/
theorem wpList_slLo {ops : Array Oper} {rest : List Oper} {o : Oper} {a : Act} {Q : Exit → Act → World → Prop} {w : World} {A : Option Addr} {n c : Nat} {l : List UInt8} {kd : IntKind} {k : Int} (x y : Operand) (hgd : o.guard = none) (ho : o.op = .slice 32 x (some y) none none) (hx : a.eval x = .slice A n c) (hy : a.eval y = .int kd k)
    (hb : Byts w (.slice A n c) l) (hk0 : 0 ≤ k) (hk : k ≤ l.length)
    (h : ∀ A2, Byts w (.slice A2 (l.length - k.toNat) (c - k.toNat)) (l.drop k.toNat) → wpList Tryz.prog ops Q rest (a.put o.dst (.slice A2 (l.length - k.toNat) (c - k.toNat))) w) : wpList Tryz.prog ops Q (o :: rest) a w := by
  obtain ⟨rfl, hc⟩ := hb.len
  obtain ⟨A2, e, h2⟩ := hb.sliced k.toNat l.length c (by omega) (Nat.le_refl _) hc (Nat.le_refl _)
  rw [List.take_of_length_le (by rw [List.length_drop]; omega)] at h2
  refine wpList_run hgd ?_ (h A2 h2)
  unfold execOp
  simp only [ho, hx, hy, Option.map_some, Option.map_none, Sem.run_bind, run_sliceAt_slice w _ _ _ _ _ elemT, run_slice_l w _ _ _ _ elemT kd k hk0 hk, sizeByte, Result.andThen_ok, Sem.run_pure, e]
/-- b[:k] -/
theorem wpList_slHi {ops : Array Oper} {rest : List Oper} {o : Oper} {a : Act} {Q : Exit → Act → World → Prop} {w : World} {A : Option Addr} {n c : Nat} {l : List UInt8} {kd : IntKind} {k : Int} (x y : Operand) (hgd : o.guard = none) (ho : o.op = .slice 32 x none (some y) none) (hx : a.eval x = .slice A n c) (hy : a.eval y = .int kd k)
    (hb : Byts w (.slice A n c) l) (hk0 : 0 ≤ k) (hk : k ≤ l.length)
    (h : ∀ A2, Byts w (.slice A2 k.toNat c) (l.take k.toNat) → wpList Tryz.prog ops Q rest (a.put o.dst (.slice A2 k.toNat c)) w) : wpList Tryz.prog ops Q (o :: rest) a w := by
  obtain ⟨rfl, hc⟩ := hb.len
  obtain ⟨A2, e, h2⟩ := hb.sliced 0 k.toNat c (Nat.zero_le _) (by omega) (by omega) (Nat.le_refl _)
  simp only [Nat.sub_zero, List.drop_zero] at h2 e
  refine wpList_run hgd ?_ (h A2 h2)
  unfold execOp
  simp only [ho, hx, hy, Option.map_some, Option.map_none, Sem.run_bind, run_sliceAt_slice w _ _ _ _ _ elemT, run_slice_h w _ _ _ _ elemT kd k hk0 (show k ≤ (c : Int) by omega), sizeByte, Result.andThen_ok, Sem.run_pure, e]
/-- b[:k:k] -/
theorem wpList_slHM {ops : Array Oper} {rest : List Oper} {o : Oper} {a : Act} {Q : Exit → Act → World → Prop} {w : World} {A : Option Addr} {n c : Nat} {l : List UInt8} {kd ke : IntKind} {k : Int} (x y z : Operand) (hgd : o.guard = none) (ho : o.op = .slice 32 x none (some y) (some z)) (hx : a.eval x = .slice A n c) (hy : a.eval y = .int kd k) (hz : a.eval z = .int ke k)
    (hb : Byts w (.slice A n c) l) (hk0 : 0 ≤ k) (hk : k ≤ l.length)
    (h : ∀ A2, Byts w (.slice A2 k.toNat k.toNat) (l.take k.toNat) → wpList Tryz.prog ops Q rest (a.put o.dst (.slice A2 k.toNat k.toNat)) w) : wpList Tryz.prog ops Q (o :: rest) a w := by
  obtain ⟨rfl, hc⟩ := hb.len
  obtain ⟨A2, e, h2⟩ := hb.sliced 0 k.toNat k.toNat (Nat.zero_le _) (by omega) (Nat.le_refl _) (by omega)
  simp only [Nat.sub_zero, List.drop_zero] at h2 e
  refine wpList_run hgd ?_ (h A2 h2)
  unfold execOp
  simp only [ho, hx, hy, hz, Option.map_some, Option.map_none, Sem.run_bind, run_sliceAt_slice w _ _ _ _ _ elemT, run_slice_hm w _ _ _ _ elemT kd ke k k hk0 (by omega) (show k ≤ (c : Int) by omega), sizeByte, Result.andThen_ok, Sem.run_pure, e]
/-- b[j:k] -/
theorem wpList_slLH {ops : Array Oper} {rest : List Oper} {o : Oper} {a : Act} {Q : Exit → Act → World → Prop} {w : World} {A : Option Addr} {n c : Nat} {l : List UInt8} {kd ke : IntKind} {j k : Int} (x y z : Operand) (hgd : o.guard = none) (ho : o.op = .slice 32 x (some y) (some z) none) (hx : a.eval x = .slice A n c) (hy : a.eval y = .int kd j) (hz : a.eval z = .int ke k)
    (hb : Byts w (.slice A n c) l) (hj0 : 0 ≤ j) (hjk : j ≤ k) (hk : k ≤ l.length)
    (h : ∀ A2, Byts w (.slice A2 (k.toNat - j.toNat) (c - j.toNat)) ((l.drop j.toNat).take (k.toNat - j.toNat)) → wpList Tryz.prog ops Q rest (a.put o.dst (.slice A2 (k.toNat - j.toNat) (c - j.toNat))) w) : wpList Tryz.prog ops Q (o :: rest) a w := by
  obtain ⟨rfl, hc⟩ := hb.len
  obtain ⟨A2, e, h2⟩ := hb.sliced j.toNat k.toNat c (by omega) (by omega) (by omega) (Nat.le_refl _)
  refine wpList_run hgd ?_ (h A2 h2)
  unfold execOp
  simp only [ho, hx, hy, hz, Option.map_some, Option.map_none, Sem.run_bind, run_sliceAt_slice w _ _ _ _ _ elemT, run_slice_lh w _ _ _ _ elemT kd ke j k hj0 hjk (show k ≤ (c : Int) by omega), sizeByte, Result.andThen_ok, Sem.run_pure, e]
end Go.Proofs.YtnmfmcmokdoieaaGreatDoor
