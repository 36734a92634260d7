/- Layer 11's arguments, opened: spans; the library's variables as the rows' conditions say. No conditions beyond the row's own. -/
import Derived.Test.YtnmfmcmokdoieaaGreatDoorReads
import Derived.Test.YtnmfmcmokdoieaaGreatDoorOpen2
import Derived.Test.YtnmfmcmokdoieaaGreatDoorMulti10
import Derived.LaidLaws
set_option linter.unusedVariables false
set_option linter.unusedSimpArgs false
namespace Go.Proofs.YtnmfmcmokdoieaaGreatDoor
open Go.ChangeShapes Go.WideShapes Go.ChangeAt Go.RowKit Go.Deep Go.Joins
theorem ml11_of {W : World} (h : W.ShapedOpen Tryz.prog) : Ml W := Go.Proofs.cell_of_shapedOpen_int (g := 0) (zero := #[.int .i64 0]) (t := 3) h (of_decide_eq_true (by kernel_rfl)) (by kernel_rfl) rfl (by kernel_rfl) (by kernel_rfl) Tryz.underlying3
/-- a listed error is one -/
theorem err_of {P : Program} {w : World} {l : List (String × DataW Unit)} (hh : (l.all fun x => x.2.handleName?.isNone) = true) (h : laidMetH P l w) {n nm : String} {d : DataW Unit} (hm : (n, .iface nm d) ∈ l) {g : Nat} {t : TypeId} {ms : Array (String × TypeId)}
    (hg : P.globalNamed n = some g) (hty : (P.globals[g]?).map (·.type) = some t) (ht : P.underlying t = some (.interface ms)) : ErrC w g := by
  rw [MakeChecks.laidMetH_plain P l w hh] at h
  obtain ⟨ps, hv, _⟩ := h
  obtain ⟨g', t', cs, fuel, p, h1, h2, h3, h4⟩ := laid_reads hv n _ hm
  obtain rfl := Option.some.inj (hg.symm.trans h1)
  obtain rfl := Option.some.inj (hty.symm.trans h2)
  obtain ⟨_, u, v, hcs, _⟩ := iface_of_trod ht h4
  unfold World.var? at h3
  rw [hg] at h3
  simp only [Option.bind_some] at h3
  refine ⟨.iface u v, ?_, .inr ⟨u, v, rfl⟩⟩
  cases ho : w.heap[g]? with
  | none => rw [ho] at h3; simp at h3
  | some o =>
    rw [ho] at h3
    cases o <;> simp at h3
    subst h3
    rename_i cs' _ _
    have : cs'[0]? = some (.iface u v) := by rw [← Array.getElem?_toList, hcs]; rfl
    simp [World.cell?, ho, this]
theorem synName : Tryz.prog.globalNamed "strconv.ErrSyntax" = some 4 := by kernel_rfl
theorem rngName : Tryz.prog.globalNamed "strconv.ErrRange" = some 5 := by kernel_rfl
theorem errUnd : ∃ ms, Tryz.prog.underlying 70 = some (.interface ms) := ⟨_, Tryz.underlying70⟩
theorem vars_of {w : World} {l : List (String × DataW Unit)} (hs : w.ShapedOpen Tryz.prog) (hh : (l.all fun x => x.2.handleName?.isNone) = true) (h : laidMetH Tryz.prog l w) (h1 : ("strconv.ErrSyntax", Rows.laid_strconv_ErrSyntax) ∈ l) (h2 : ("strconv.ErrRange", Rows.laid_strconv_ErrRange) ∈ l) (h3 : ("internal/strconv.uint64pow10", Rows.laid_internal_strconv_uint64pow10) ∈ l) : Vars w := by
  obtain ⟨ms, hu⟩ := errUnd
  exact ⟨err_of hh h h1 synName (by kernel_rfl) hu, err_of hh h h2 rngName (by kernel_rfl) hu, ml11_of hs, pw_of hh h h3⟩
def spanSh : Sh := .seq (.int .i64) (.seq (.int .i64) .nil)
def SpanOk (s : Int × Int) : Prop := (-9223372036854775808 ≤ s.1 ∧ s.1 ≤ 9223372036854775807) ∧ (-9223372036854775808 ≤ s.2 ∧ s.2 ≤ 9223372036854775807)
theorem rd_span {w : World} {cs : List Value} (h : Rd spanSh w cs) : ∃ s : Int × Int, cs = [.int .i64 s.1, .int .i64 s.2] ∧ SpanOk s := by
  unfold spanSh at h
  obtain ⟨x0, c0, rfl, w0, h0⟩ := Rd.int_cons h
  obtain ⟨x1, c1, rfl, w1, h1⟩ := Rd.int_cons h0
  obtain rfl := Rd.nil_eq h1
  have := bounds_i64 w0; have := bounds_i64 w1
  exact ⟨(x0, x1), rfl, ⟨by simp only; omega, by simp only; omega⟩⟩
section
variable {H : Type} {enc : TypeId × Value → H} {P : Program}
theorem open_span {W : World} {b0 : Nat} {t : TypeId} {v : Value} {d : DataW H} {ps : List MemPlace} (hf : fits P (.struct spanSh) (.inl t) = true)
    (hval : Value.okWide P W .any b0 t v) (hd : DataW.Trod enc P W 0 (fun _ => true) true t v d ps) (hz : ∀ n ∈ d.weights P t, n ≤ reachBytes) : ∃ s : Int × Int, v = .agg #[.int .i64 s.1, .int .i64 s.2] ∧ SpanOk s := by
  obtain ⟨cs, rfl, hr⟩ := open_struct hf hval hd hz
  obtain ⟨s, rfl, ho⟩ := rd_span hr
  exact ⟨s, rfl, ho⟩
theorem spans_of {w : World} : ∀ {rows : List (List Value)}, (∀ r ∈ rows, r.length = (Sh.struct spanSh).size ∧ Rd (.struct spanSh) w r) → ∃ l : List (Int × Int), l.length = rows.length ∧ rows.flatten = spansV l ∧ ∀ s ∈ l, SpanOk s
  | [], _ => ⟨[], rfl, rfl, fun c hc => by simp at hc⟩
  | r :: rows, h => by
    obtain ⟨c, hc, ho⟩ := rd_span (show Rd spanSh w r from (h r (List.mem_cons_self ..)).2)
    obtain ⟨cs, hl, hf, hk⟩ := spans_of (rows := rows) (fun x hx => h x (List.mem_cons_of_mem _ hx))
    refine ⟨c :: cs, by simp [hl], ?_, fun x hx => ?_⟩
    · rw [List.flatten_cons, hf, hc]; rfl
    · rcases List.mem_cons.1 hx with rfl | hx
      · exact ho
      · exact hk x hx
theorem open_spans {W : World} {b0 : Nat} {t : TypeId} {v : Value} {d : DataW H} {ps : List MemPlace} (hf : fits P (.slice (.struct spanSh)) (.inl t) = true)
    (hval : Value.okWide P W .any b0 t v) (hd : DataW.Trod enc P W 0 (fun _ => true) true t v d ps) (hz : ∀ n ∈ d.weights P t, n ≤ reachBytes) : ∃ l : List (Int × Int), Spans W v l ∧ (∀ s ∈ l, SpanOk s) ∧ l.length ≤ 140737488355328 := by
  obtain ⟨rows, hl, hs, hr⟩ := open_rows hf hval hd hz
  obtain ⟨cs, hcl, hcf, hok⟩ := spans_of hr
  rw [hcf, ← hcl] at hs
  exact ⟨cs, hs, hok, by omega⟩
end
end Go.Proofs.YtnmfmcmokdoieaaGreatDoor
