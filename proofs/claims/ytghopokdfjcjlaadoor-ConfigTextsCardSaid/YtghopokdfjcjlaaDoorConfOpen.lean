/- Layer 39's arguments, opened: configurations; the names as the program laid them. No conditions beyond the row's own. -/
import Derived.Test.YtghopokdfjcjlaaDoorReads
import Derived.Test.YtghopokdfjcjlaaDoorConf5
import Derived.Test.YtghopokdfjcjlaaDoorTab
namespace Go.Proofs.YtghopokdfjcjlaaDoor
open Go.ChangeShapes Go.WideShapes Go.ChangeAt Go.RowKit Go.Deep Go.Joins
def cfgSh : Sh := .seq (.int .i64) (.seq (.int .i64) (.seq (.int .i64) (.seq (.int .i64) (.seq (.int .i64) (.seq (.int .i64) (.seq (.int .i64) (.seq (.int .i64) (.seq (.int .i64) (.seq (.int .i64) (.nil))))))))))
/-- each number is one of 64 bits -/
def CfgOk (c : Cfg) : Prop := ∀ x ∈ c.nums, -9223372036854775808 ≤ x ∧ x ≤ 9223372036854775807
theorem rd_cfg {w : World} {cs : List Value} (h : Rd cfgSh w cs) : ∃ c : Cfg, cs = c.nums.map (Value.int .i64) ∧ CfgOk c := by
  unfold cfgSh at h
  obtain ⟨x0, c0, rfl, w0, h0⟩ := Rd.int_cons h
  obtain ⟨x1, c1, rfl, w1, h1⟩ := Rd.int_cons h0
  obtain ⟨x2, c2, rfl, w2, h2⟩ := Rd.int_cons h1
  obtain ⟨x3, c3, rfl, w3, h3⟩ := Rd.int_cons h2
  obtain ⟨x4, c4, rfl, w4, h4⟩ := Rd.int_cons h3
  obtain ⟨x5, c5, rfl, w5, h5⟩ := Rd.int_cons h4
  obtain ⟨x6, c6, rfl, w6, h6⟩ := Rd.int_cons h5
  obtain ⟨x7, c7, rfl, w7, h7⟩ := Rd.int_cons h6
  obtain ⟨x8, c8, rfl, w8, h8⟩ := Rd.int_cons h7
  obtain ⟨x9, c9, rfl, w9, h9⟩ := Rd.int_cons h8
  obtain rfl := Rd.nil_eq h9
  refine ⟨⟨x0, x1, x2, x3, x4, x5, x6, x7, x8, x9⟩, rfl, ?_⟩
  intro x hx
  simp only [Cfg.nums, List.mem_cons, List.not_mem_nil, or_false] at hx
  rcases hx with rfl | rfl | rfl | rfl | rfl | rfl | rfl | rfl | rfl | rfl
  · have := bounds_i64 w0; omega
  · have := bounds_i64 w1; omega
  · have := bounds_i64 w2; omega
  · have := bounds_i64 w3; omega
  · have := bounds_i64 w4; omega
  · have := bounds_i64 w5; omega
  · have := bounds_i64 w6; omega
  · have := bounds_i64 w7; omega
  · have := bounds_i64 w8; omega
  · have := bounds_i64 w9; omega
section
variable {H : Type} {enc : TypeId × Value → H} {P : Program}
theorem open_cfg {W : World} {b0 : Nat} {t : TypeId} {v : Value} {d : DataW H} {ps : List MemPlace} (hf : fits P (.struct cfgSh) (.inl t) = true)
    (hval : Value.okWide P W .any b0 t v) (hd : DataW.Trod enc P W 0 (fun _ => true) true t v d ps) (hz : ∀ n ∈ d.weights P t, n ≤ reachBytes) : ∃ c : Cfg, v = cfgV c ∧ CfgOk c := by
  obtain ⟨cs, rfl, hr⟩ := open_struct hf hval hd hz
  obtain ⟨c, rfl, ho⟩ := rd_cfg hr
  exact ⟨c, rfl, ho⟩
theorem cfgs_of {w : World} : ∀ {rows : List (List Value)}, (∀ r ∈ rows, r.length = (Sh.struct cfgSh).size ∧ Rd (.struct cfgSh) w r) → ∃ cs : List Cfg, cs.length = rows.length ∧ rows.flatten = flatC cs ∧ ∀ c ∈ cs, CfgOk c
  | [], _ => ⟨[], rfl, rfl, fun c hc => by simp at hc⟩
  | r :: rows, h => by
    obtain ⟨c, hc, ho⟩ := rd_cfg (show Rd cfgSh w r from (h r (List.mem_cons_self ..)).2)
    obtain ⟨cs, hl, hf, hk⟩ := cfgs_of (rows := rows) (fun x hx => h x (List.mem_cons_of_mem _ hx))
    refine ⟨c :: cs, by simp [hl], ?_, fun x hx => ?_⟩
    · rw [List.flatten_cons, hf, hc]; rfl
    · rcases List.mem_cons.1 hx with rfl | hx
      · exact ho
      · exact hk x hx
theorem open_cfgs {W : World} {b0 : Nat} {t : TypeId} {v : Value} {d : DataW H} {ps : List MemPlace} (hf : fits P (.slice (.struct cfgSh)) (.inl t) = true)
    (hval : Value.okWide P W .any b0 t v) (hd : DataW.Trod enc P W 0 (fun _ => true) true t v d ps) (hz : ∀ n ∈ d.weights P t, n ≤ reachBytes) : ∃ cs : List Cfg, Sl W v cs.length (flatC cs) ∧ (∀ c ∈ cs, CfgOk c) ∧ cs.length ≤ 140737488355328 := by
  obtain ⟨rows, hl, hs, hr⟩ := open_rows hf hval hd hz
  obtain ⟨cs, hcl, hcf, hok⟩ := cfgs_of hr
  rw [hcf, ← hcl] at hs
  exact ⟨cs, hs, hok, by omega⟩
end
theorem names_data : (Rows.laid_mandoline_config_names : DataW Unit) = .agg (namesL.map fun x => .lit (.string x)) := by kernel_rfl
theorem nmName : Tryd.prog.globalNamed "mandoline/config.names" = some 0 := by kernel_rfl
theorem nm_of {w : World} {l : List (String × DataW Unit)} (hh : (l.all fun x => x.2.handleName?.isNone) = true) (h : laidMetH Tryd.prog l w) (hm : ("mandoline/config.names", Rows.laid_mandoline_config_names) ∈ l) : Nm w := by
  rw [names_data] at hm
  rw [MakeChecks.laidMetH_plain _ l w hh] at h
  obtain ⟨ps, hv, _⟩ := h
  obtain ⟨g', t', cs, fuel, p, h1, h2, h3, h4⟩ := laid_reads hv _ _ hm
  obtain rfl := Option.some.inj (nmName.symm.trans h1)
  have hty : (Tryd.prog.globals[0]?).map (·.type) = some 60 := by kernel_rfl
  obtain rfl := Option.some.inj (hty.symm.trans h2)
  obtain ⟨xs, m, _, hx, hcl, hxl, hat⟩ := DataW.trod_array Tryd.underlying60 h4
  have hce : Tryd.prog.cellsOf 9 = 1 := by kernel_rfl
  have hct : Tryd.prog.cellsOf 60 = 10 := by kernel_rfl
  have hxs : xs.map (·.1) = namesL.map fun x => (DataW.lit (.string x) : DataW Unit) := by
    have := congrArg Prod.fst hx
    simpa using this.symm
  have hb : ∃ ty fr, w.heap[0]? = some (.cells cs ty fr) := by
    unfold World.var? at h3
    rw [nmName] at h3
    simp only [Option.bind_some] at h3
    split at h3
    · rename_i c t f he
      cases h3
      exact ⟨t, f, he⟩
    · cases h3
  obtain ⟨ty, fr, hb⟩ := hb
  intro i x hi
  have hi10 : i < 10 := (List.getElem?_eq_some_iff.1 hi).1
  have h5 := hat i hi10
  rw [hce, Nat.mul_one] at h5
  have hxi : i < xs.length := by omega
  rw [List.getElem?_eq_getElem hxi] at h5
  obtain ⟨sb, hs1, hs2, _⟩ := DataW.trod_string Tryd.underlying9 h5
  have hx1 : (xs[i]).1 = .lit (.string x) := by
    have h6 := congrArg (fun l => l[i]?) hxs
    simp only [List.getElem?_map, hi, List.getElem?_eq_getElem hxi, Option.map_some, Option.some.injEq] at h6
    exact h6
  have hsx : sb.data.toList = x := by
    rw [hs2] at hx1
    simpa using hx1
  have hlt : i < cs.toList.length := by rw [hcl, hct]; exact hi10
  rw [show w.cell? ⟨0, i, none⟩ = cs[i]? from by simp [World.cell?, hb], ← Array.getElem?_toList, List.getElem?_eq_getElem hlt]
  have h7 : (cs.toList.drop i).take 1 = [cs.toList[i]] := by
    rw [List.drop_eq_getElem_cons hlt]; rfl
  rw [h7] at hs1
  have h8 : cs.toList[i] = .string sb := by simpa using hs1
  rw [h8, ← hsx, ← ba_eta]
end Go.Proofs.YtghopokdfjcjlaaDoor
