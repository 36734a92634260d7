/- Parts. No conditions but those that each theorem names. -/
import Derived.Test.YtflepnkpihfidaaGreatDoorJHead3
import Derived.Test.YtflepnkpihfidaaGreatDoorJReq
import Derived.Test.YtflepnkpihfidaaGreatDoorJGate1
import Derived.Test.YtflepnkpihfidaaGreatDoorJRow
import Derived.Test.YtflepnkpihfidaaGreatDoorOpen2
import Derived.Test.YtflepnkpihfidaaGreatDoorJMulti
import Derived.Test.YtflepnkpihfidaaGreatDoorJCond
import Derived.Test.YtflepnkpihfidaaGreatDoorJSpec
set_option linter.unusedVariables false
set_option linter.unusedSimpArgs false
namespace Go.Proofs.YtflepnkpihfidaaGreatDoor
abbrev ReqT := Bool × List UInt8 × List SpecT × CondT
end Go.Proofs.YtflepnkpihfidaaGreatDoor
namespace Go.Proofs.YtflepnkpihfidaaGreatDoor
open Go.ChangeShapes Go.WideShapes Go.ChangeAt Go.RowKit Go.Deep Go.Joins
def specSh : Sh := .seq (.int .i64) (.seq (.int .i64) .nil)
def tagSh : Sh := .seq .str (.seq .bool .nil)
def condSh : Sh := .seq (.slice (.struct tagSh)) (.seq (.slice (.struct tagSh)) (.seq .bool (.seq .bool (.seq (.int .i64) (.seq (.int .i64) (.seq (.struct tagSh) .nil))))))
def reqSh : Sh := .seq .bool (.seq .str (.seq (.slice (.struct specSh)) (.seq (.struct condSh) .nil)))
theorem rows_of {α : Type} {w : World} {sh : Sh} (enc : α → List Value) (ok : α → Prop) (h : ∀ r, Rd sh w r → ∃ x, r = enc x ∧ ok x) : ∀ {rows : List (List Value)}, (∀ r ∈ rows, r.length = (Sh.struct sh).size ∧ Rd (.struct sh) w r) → ∃ l : List α, l.length = rows.length ∧ rows.flatten = l.flatMap enc ∧ ∀ x ∈ l, ok x
  | [], _ => ⟨[], rfl, rfl, fun c hc => by simp at hc⟩
  | r :: rows, hr => by
    obtain ⟨x, hx, ho⟩ := h r (show Rd sh w r from (hr r (List.mem_cons_self ..)).2)
    obtain ⟨l, hl, hf, hk⟩ := rows_of enc ok h (rows := rows) (fun y hy => hr y (List.mem_cons_of_mem _ hy))
    refine ⟨x :: l, by simp [hl], by rw [List.flatten_cons, hf, hx]; rfl, fun y hy => ?_⟩
    rcases List.mem_cons.1 hy with rfl | hy
    · exact ho
    · exact hk y hy
def Low (x : List UInt8) : Prop := x.length ≤ 140737488355328
theorem rd_spec {w : World} {cs : List Value} (h : Rd specSh w cs) : ∃ s : SpecT, cs = [.int .i64 s.1, .int .i64 s.2] ∧ True := by
  unfold specSh at h
  obtain ⟨x0, c0, rfl, w0, h0⟩ := Rd.int_cons h
  obtain ⟨x1, c1, rfl, w1, h1⟩ := Rd.int_cons h0
  obtain rfl := Rd.nil_eq h1
  exact ⟨(x0, x1), rfl, trivial⟩
theorem rd_tag {w : World} {cs : List Value} (h : Rd tagSh w cs) : ∃ t : TagT, cs = [str t.1, .bool t.2] ∧ Low t.1 := by
  unfold tagSh at h
  obtain ⟨x0, c0, rfl, w0, h0⟩ := Rd.str_cons h
  obtain ⟨x1, c1, rfl, h1⟩ := Rd.bool_cons h0
  obtain rfl := Rd.nil_eq h1
  exact ⟨(x0, x1), rfl, w0⟩
/-- a request's value -/
def reqV (q : ReqT) (vs vm vn : Value) : Value := .agg #[.bool q.1, str q.2.1, vs, vm, vn, .bool q.2.2.2.am, .bool q.2.2.2.an, .int .i64 q.2.2.2.si, .int .i64 q.2.2.2.un, str q.2.2.2.rg.1, .bool q.2.2.2.rg.2]
/-- a request as it lies in the world -/
structure ReqA (w : World) (q : ReqT) (vs vm vn : Value) : Prop where
  specs : Specs w vs q.2.2.1
  mt : Tags w vm q.2.2.2.mt
  no : Tags w vn q.2.2.2.no
theorem ReqA.gr {w w' : World} {q : ReqT} {vs vm vn : Value} (h : ReqA w q vs vm vn) (g : Gr w w') : ReqA w' q vs vm vn := ⟨h.specs.gr g, h.mt.gr g, h.no.gr g⟩
/-- no text of it is longer than memory -/
structure ReqLow (q : ReqT) : Prop where
  obj : q.2.1.length ≤ 140737488355328
  rg : q.2.2.2.rg.1.length ≤ 140737488355328
  mt : ShortT q.2.2.2.mt
  no : ShortT q.2.2.2.no
section
variable {H : Type} {enc : TypeId × Value → H} {P : Program}
theorem open_req {W : World} {b0 : Nat} {t : TypeId} {v : Value} {d : DataW H} {ps : List MemPlace} (hf : fits P (.struct reqSh) (.inl t) = true)
    (hval : Value.okWide P W .any b0 t v) (hd : DataW.Trod enc P W 0 (fun _ => true) true t v d ps) (hz : ∀ n ∈ d.weights P t, n ≤ reachBytes) : ∃ q vs vm vn, v = reqV q vs vm vn ∧ ReqA W q vs vm vn ∧ ReqLow q := by
  obtain ⟨cs, rfl, hr⟩ := open_struct hf hval hd hz
  unfold reqSh at hr
  obtain ⟨b, c0, rfl, h0⟩ := Rd.bool_cons hr
  obtain ⟨o, c1, rfl, lo, h1⟩ := Rd.str_cons h0
  obtain ⟨vs, rows, c2, rfl, _, hs, hrs, h2⟩ := Rd.slice_cons h1
  obtain ⟨c3, c4, rfl, _, h3, h4⟩ := Rd.struct_cons h2
  obtain rfl := Rd.nil_eq h4
  unfold condSh at h3
  obtain ⟨vm, rm, c5, rfl, _, hm, hrm, h5⟩ := Rd.slice_cons h3
  obtain ⟨vn, rn, c6, rfl, _, hn, hrn, h6⟩ := Rd.slice_cons h5
  obtain ⟨am, c7, rfl, h7⟩ := Rd.bool_cons h6
  obtain ⟨an, c8, rfl, h8⟩ := Rd.bool_cons h7
  obtain ⟨si, c9, rfl, _, h9⟩ := Rd.int_cons h8
  obtain ⟨un, c10, rfl, _, h10⟩ := Rd.int_cons h9
  obtain ⟨c11, c12, rfl, _, h11, h12⟩ := Rd.struct_cons h10
  obtain rfl := Rd.nil_eq h12
  obtain ⟨tg, rfl, lt⟩ := rd_tag h11
  obtain ⟨ls, l1, l2, l3⟩ := rows_of _ _ (fun r h => rd_spec h) hrs
  obtain ⟨lm, m1, m2, m3⟩ := rows_of _ _ (fun r h => rd_tag h) hrm
  obtain ⟨ln, n1, n2, n3⟩ := rows_of _ _ (fun r h => rd_tag h) hrn
  rw [l2, ← l1] at hs
  rw [m2, ← m1] at hm
  rw [n2, ← n1] at hn
  refine ⟨(b, o, ls, ⟨lm, ln, am, an, si, un, tg⟩), vs, vm, vn, ?_, ⟨hs, hm, hn⟩, ⟨lo, lt, m3, n3⟩⟩
  simp [reqV]
end
end Go.Proofs.YtflepnkpihfidaaGreatDoor
