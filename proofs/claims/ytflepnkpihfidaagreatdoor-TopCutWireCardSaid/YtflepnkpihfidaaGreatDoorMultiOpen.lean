/- Layer 11's arguments, opened: spans; the library's variables as the rows' conditions say. No conditions beyond the row's own. -/
import Derived.Test.YtflepnkpihfidaaGreatDoorOpen2
import Derived.Test.YtflepnkpihfidaaGreatDoorJMulti
import Derived.LaidLaws
set_option linter.unusedVariables false
set_option linter.unusedSimpArgs false
namespace Go.Proofs.YtflepnkpihfidaaGreatDoor
open Go.ChangeShapes Go.WideShapes Go.ChangeAt Go.RowKit Go.Deep Go.Joins
theorem ml11_of {W:World} (h:W.ShapedOpen Tryz.prog):Ml W:=Go.Proofs.cell_of_shapedOpen_int (g:=0) (zero:=#[.int .i64 0]) (t:=3) h (of_decide_eq_true (by kernel_rfl)) (by kernel_rfl) rfl (by kernel_rfl) (by kernel_rfl) Tryz.underlying3
theorem err_of {P:Program} {w:World} {l:List (String×DataW Unit)} (hh:(l.all fun x=>x.2.handleName?.isNone)=true) (h:laidMetH P l w) {n nm:String} {d:DataW Unit} (hm:(n,.iface nm d)∈l) {g:Nat} {t:TypeId} {ms:Array (String×TypeId)}
  (hg:P.globalNamed n=some g) (hty:(P.globals[g]?).map (·.type)=some t) (ht:P.underlying t=some (.interface ms)):ErrC w g:=by
 rw [MakeChecks.laidMetH_plain P l w hh] at h
 obtain ⟨ps,hv,_⟩:=h
 obtain ⟨g',t',cs,fuel,p,h1,h2,h3,h4⟩:=laid_reads hv n _ hm
 obtain rfl:=Option.some.inj (hg.symm.trans h1)
 obtain rfl:=Option.some.inj (hty.symm.trans h2)
 obtain ⟨_,u,v,hcs,_⟩:=iface_of_trod ht h4
 unfold World.var? at h3
 rw [hg] at h3
 simp only [Option.bind_some] at h3
 refine ⟨.iface u v,?_,.inr ⟨u,v,rfl⟩⟩
 cases ho:w.heap[g]? with
 | none=>rw [ho] at h3;simp at h3
 | some o=>
   rw [ho] at h3
   cases o <;> simp at h3
   subst h3
   rename_i cs' _ _
   have:cs'[0]?=some (.iface u v):=by rw [←Array.getElem?_toList,hcs];rfl
   simp [World.cell?,ho,this]
theorem synName : Tryz.prog.globalNamed "strconv.ErrSyntax" = some 2 := by kernel_rfl
theorem rngName : Tryz.prog.globalNamed "strconv.ErrRange" = some 3 := by kernel_rfl
theorem errUnd:∃ms,Tryz.prog.underlying 173=some (.interface ms):=⟨_,Tryz.underlying173⟩
theorem vars_of {w : World} {l : List (String × DataW Unit)} (hs : w.ShapedOpen Tryz.prog) (hh : (l.all fun x => x.2.handleName?.isNone) = true) (h : laidMetH Tryz.prog l w) (h1 : ("strconv.ErrSyntax", Rows.laid_strconv_ErrSyntax) ∈ l) (h2 : ("strconv.ErrRange", Rows.laid_strconv_ErrRange) ∈ l) (h3 : ("internal/strconv.uint64pow10", Rows.laid_internal_strconv_uint64pow10) ∈ l) : Vars w := by
 obtain ⟨ms,hu⟩:=errUnd
 exact ⟨err_of hh h h1 synName (by kernel_rfl) hu,err_of hh h h2 rngName (by kernel_rfl) hu,ml11_of hs,pw_of hh h h3⟩
section
variable {H : Type} {enc : TypeId × Value → H} {P : Program}
end
end Go.Proofs.YtflepnkpihfidaaGreatDoor
