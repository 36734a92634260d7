/- The library's table of powers of ten: from the row's condition to the contracts; numbers as texts. No conditions. -/
import Derived.Test.YtnmfmcmokdoieaaGreatDoorField7
import Derived.Test.YtnmfmcmokdoieaaGreatDoorCards
import Derived.Lib.LaidTab
import Derived.Lib.ItoaNum
import Derived.Lib.SmallJoins
import Derived.Sort.Grow
import Derived.MakeChecks
set_option linter.unusedVariables false
set_option linter.unusedSimpArgs false
namespace Go.Proofs.YtnmfmcmokdoieaaGreatDoor
open Go.RowKit Go.Sort
/-- the table of powers of ten lies in w -/
def Pw (w : World) : Prop := Lib.TabIs Tryz.prog w "internal/strconv.uint64pow10" .u64 Lib.pow10Tab
theorem pwName : Tryz.prog.globalNamed "internal/strconv.uint64pow10" = some 1 := by kernel_rfl
theorem Pw.gr {w w' : World} (h : Pw w) (g : Gr w w') : Pw w' := Joins.tab_stays pwName h g (Nat.le_refl _)
theorem gr_grow (w : World) (k : Nat) (os : Array Obj) : Gr w (grow (w.drewN k) os) := by
  refine ⟨rfl, rfl, rfl, by simp [grow, World.drewN], fun i hi => ?_⟩
  show ((w.drewN k).heap ++ os)[i]? = _
  rw [Array.getElem?_append_left (by simpa [World.drewN] using hi)]
  rfl
theorem itoa_any (n : Int) (w : World) (hp : Pw w) (h0 : -9223372036854775808 ≤ n) (h1 : n ≤ 9223372036854775807) : Calls Tryz.prog 100 #[.int .i64 n] w fun e w' => e = .returned (str (Lib.itoa n)) ∧ Gr w w' :=
  (Tryz.strconv_Itoa n h0 h1 w hp).mono fun _ _ ⟨he, k, os, hw⟩ => ⟨he, by rw [hw]; exact gr_grow w k os⟩
/-- a listed variable reads as its datum -/
theorem laid_reads {P : Program} {w : World} : ∀ {l : List (String × DataW Unit)} {ps : List MemPlace}, DataW.LaidVars P w l ps → ∀ n d, (n, d) ∈ l →
    ∃ g t cs fuel p, P.globalNamed n = some g ∧ (P.globals[g]?).map (·.type) = some t ∧ w.var? P n = some cs ∧ DataW.trod (fun _ => ()) P w 0 (fun _ => true) false fuel t cs.toList = some (d, p)
  | [], _, _, _, _, hm => by cases hm
  | (n', d') :: r, ps, h, n, d, hm => by
    obtain ⟨g, t, cs, fuel, p, q, h1, h2, h3, h4, h5, _⟩ := h
    rcases List.mem_cons.1 hm with e | e
    · cases e
      exact ⟨g, t, cs, fuel, p, h1, h2, h3, h4⟩
    · exact laid_reads h5 n d e
theorem tab_of {P : Program} {w : World} {l : List (String × DataW Unit)} (hh : (l.all fun x => x.2.handleName?.isNone) = true) (h : laidMetH P l w) {n : String} {k : IntKind} {zs : List Int} (hm : (n, Lib.tabData k zs) ∈ l) {g : Nat} {t e : TypeId} {m : Nat}
    (hg : P.globalNamed n = some g) (hty : (P.globals[g]?).map (·.type) = some t) (ht : P.underlying t = some (.array m e)) (he : P.underlying e = some (.int k)) (hce : P.cellsOf e = 1) (hct : P.cellsOf t = m) : Lib.TabIs P w n k zs := by
  rw [MakeChecks.laidMetH_plain P l w hh] at h
  obtain ⟨ps, hv, _⟩ := h
  obtain ⟨g', t', cs, fuel, p, h1, h2, h3, h4⟩ := laid_reads hv n _ hm
  obtain rfl := Option.some.inj (hg.symm.trans h1)
  obtain rfl := Option.some.inj (hty.symm.trans h2)
  unfold Lib.TabIs
  rw [h3, ← Lib.cells_of_tab ht he hce hct h4]
theorem pow10_data : (Rows.laid_internal_strconv_uint64pow10 : DataW Unit) = Lib.tabData .u64 Lib.pow10Tab := by kernel_rfl
theorem pw_of {w : World} {l : List (String × DataW Unit)} (hh : (l.all fun x => x.2.handleName?.isNone) = true) (h : laidMetH Tryz.prog l w) (hm : ("internal/strconv.uint64pow10", Rows.laid_internal_strconv_uint64pow10) ∈ l) : Pw w := by
  rw [pow10_data] at hm
  exact tab_of hh h hm pwName (by kernel_rfl) Tryz.underlying109 Tryz.underlying48 (by kernel_rfl) (by kernel_rfl)
end Go.Proofs.YtnmfmcmokdoieaaGreatDoor
