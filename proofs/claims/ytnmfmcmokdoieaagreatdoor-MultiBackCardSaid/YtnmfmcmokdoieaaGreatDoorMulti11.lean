/- Layer 11: the bytes of parts: the document's Fill; that the parts' bytes are the body's. A contract; conditions: spans within the object, not too many bytes. -/
import Derived.Test.YtnmfmcmokdoieaaGreatDoorMulti10
import Derived.Lib.AppendStr
set_option linter.unusedVariables false
set_option linter.unusedSimpArgs false
namespace Go.Proofs.YtnmfmcmokdoieaaGreatDoor
open Go.RowKit
theorem strCells_byt (l : List UInt8) : Lib.strCells ⟨l.toArray⟩ = l.map byt := by
  simp [Lib.strCells]
/-- 'out = append(out, s...)', s a text -/
theorem wpList_appT {ops : Array Oper} {rest : List Oper} {o : Oper} {a : Act} {Q : Exit → Act → World → Prop} {W0 W : World} {v : Value} {n : Nat} {xs : List Value} {s : List UInt8}
    (hgd : o.guard = none) (sl x : Operand) (ho : o.op = .call { callee := .builtin .append, args := #[sl, x], argTypes := #[32, 9] })
    (hs : a.eval sl = v) (hx : a.eval x = str s) (hB : W0.heap.size ≤ W.heap.size) (hown : Own W0 W 5 1 v n xs) (hn : n + s.length ≤ 1000000000)
    (h : ∀ v' w', Own W0 w' 5 1 v' (n + s.length) (xs ++ s.map byt) → W.grownBy w' v.ownBlock → wpList Tryz.prog ops Q rest (a.put o.dst v') w') : wpList Tryz.prog ops Q (o :: rest) a W := by
  obtain ⟨i, hi, hz0, hz1, hz2⟩ := info_parts elemByte.hi
  refine Lib.wpList_append_own_string _ hgd sl x 32 9 ho W0.heap.size 5 i Tryz.underlying32 Tryz.underlying9 hi hz0 hz1 hz2 v n xs hs hown ⟨s.toArray⟩ hx ?_ ?_ hB ?_
  · show n + s.length ≤ maxLen; unfold maxLen; omega
  · show n + s.length ≤ 140737488355328; omega
  · intro v' w' h1 h2 _
    rw [strCells_byt] at h1
    exact h v' w' h1 h2
theorem sl_of {w : World} {v : Value} {l : List UInt8} {n : Nat} (h : Byts w v l) (hn : l.length = n) : Sl w v n (l.map byt) := by subst hn; exact h
/-- the bytes of parts, of an object -/
def fillL (obj : List UInt8) (ps : List PartT) : List UInt8 := ps.flatMap fun p => if p.1 = [] then objL obj p.2 else p.1
theorem fillL_snoc (obj : List UInt8) (ps : List PartT) (p : PartT) : fillL obj (ps ++ [p]) = fillL obj ps ++ (if p.1 = [] then objL obj p.2 else p.1) := by
  unfold fillL; rw [List.flatMap_append]; simp
theorem fillL_app (obj : List UInt8) (a b : List PartT) : fillL obj (a ++ b) = fillL obj a ++ fillL obj b := by unfold fillL; rw [List.flatMap_append]
theorem fillL_take (obj : List UInt8) (ps : List PartT) (k : Nat) : (fillL obj (ps.take k)).length ≤ (fillL obj ps).length := by
  have := congrArg (fun l => (fillL obj l).length) (List.take_append_drop k ps)
  simp only [fillL_app, List.length_append] at this
  omega
theorem ptext_ne (tot : Int) (kind bnd ah : List UInt8) (s : Int × Int) : ptext tot kind bnd ah s ≠ [] := by unfold ptext; simp
theorem endL_ne (bnd : List UInt8) : endL bnd ≠ [] := by unfold endL; simp
/-- the parts' bytes are the body's -/
theorem fill_body (tot : Int) (kind bnd obj : List UInt8) (l : List (Int × Int)) (ah : List UInt8) : fillL obj (partsB tot kind bnd l ah ++ [(endL bnd, 0, 0)]) = bodyL tot kind bnd obj l ah := by
  induction l generalizing ah with
  | nil =>
    rw [bodyL_nil]
    show fillL obj [(endL bnd, 0, 0)] = _
    unfold fillL endT
    simp [endL]
  | cons s l ih =>
    rw [bodyL_cons, partsB]
    have e : fillL obj (((ptext tot kind bnd ah s, 0, 0) :: ([], s.1, s.2) :: partsB tot kind bnd l [13, 10]) ++ [(endL bnd, 0, 0)]) = ptext tot kind bnd ah s ++ (objL obj s ++ fillL obj (partsB tot kind bnd l [13, 10] ++ [(endL bnd, 0, 0)])) := by
      simp [fillL, ptext_ne]
    rw [e, ih]
    unfold ptext segH
    simp
theorem fill_parts (tot : Int) (kind bnd obj : List UInt8) (l : List (Int × Int)) : fillL obj (partsL tot kind bnd l) = bodyL tot kind bnd obj l [] := fill_body tot kind bnd obj l []
/-- a part's span lies within the object -/
def InObj (obj : List UInt8) (ps : List PartT) : Prop := ∀ p ∈ ps, p.1 = [] → 0 ≤ p.2.1 ∧ p.2.1 ≤ p.2.2 ∧ p.2.2 ≤ obj.length
set_option maxHeartbeats 8000000 in
set_option maxRecDepth 100000 in
theorem fill11_any (u ov : Value) (ps : List PartT) (obj : List UInt8) (w : World) (hu : Parts w u ps) (ho : Byts w ov obj) (hin : InObj obj ps) (hlen : (fillL obj ps).length ≤ 1000000000) (hps : ps.length ≤ 1000000) (hobj : obj.length ≤ 1000000000) (htx : ∀ p ∈ ps, p.1.length ≤ 1000000000) :
    Calls Tryz.prog 9 #[u, ov] w fun e w' => ∃ v, e = .returned v ∧ Own w w' 5 1 v (fillL obj ps).length ((fillL obj ps).map byt) ∧ Gr w w' := by
  obtain ⟨A, c, rfl, hc, hm, hA⟩ := hu.open
  obtain ⟨A2, c2, rfl, hc2, hm2, _⟩ := ho.open
  have HA := Lib.hid hA; have HO := Lib.hid ho; have HIN := Lib.hid hin; have HTX := Lib.hid htx
  clear hA hu ho hin htx
  go_enter Tryz.func9, Tryz.ntmps9
  go_wp2_with fail
  go_loopw [5, 7, 10] (fun v x7 i wr => ∃ k : Nat, k ≤ ps.length ∧ i = .int .i64 k ∧ Gr w wr ∧ Own w wr 5 1 v (fillL obj (ps.take k)).length ((fillL obj (ps.take k)).map byt)) (fun _ _ i _ => ps.length - (intOf i).toNat)
  case atStart => exact ⟨0, Nat.zero_le _, rfl, Gr.refl _, Own.nil _ _ _ _⟩
  case round =>
    obtain ⟨k, hk, rfl, hG, hO⟩ := hrel
    obtain ⟨A7, c7, hrow⟩ := hO.form
    subst hrow
    have HOW := Lib.hid hO
    clear hO
    have hft := fillL_take obj ps k
    by_cases hlt : k < ps.length
    · obtain ⟨b1, o1, rfl, hb1, p0, p1, p2⟩ := HA.out k hlt
      have p0 := Gr.cell hG p0; have p1 := Gr.cell hG p1; have p2 := Gr.cell hG p2
      have hft2 := fillL_take obj ps (k + 1)
      have hsn : fillL obj (ps.take (k + 1)) = fillL obj (ps.take k) ++ (if ps[k].1 = [] then objL obj ps[k].2 else ps[k].1) := by
        rw [List.take_succ_eq_append_getElem hlt, fillL_snoc]
      have htl := HTX.out _ (List.getElem_mem hlt)
      have HSN := Lib.hid hsn
      rw [hsn, List.length_append] at hft2
      clear hsn
      go_upto_region 5 with fail
      have hbp := Bk.new wr 46 #[str ps[k].1, .int .i64 ps[k].2.1, .int .i64 ps[k].2.2] (0, 0)
      have hGb := Gr.al (Gr.refl wr) (Obj.cells #[str ps[k].1, .int .i64 ps[k].2.1, .int .i64 ps[k].2.2] 46)
      have HOB := Lib.hid (HOW.out.gr hGb)
      have hG := Gr.tr hG hGb
      have HBO := Lib.hid (HO.out.gr hG)
      generalize wr.alloc (Obj.cells #[str ps[k].1, .int .i64 ps[k].2.1, .int .i64 ps[k].2.2] 46) = wb at *
      generalize wr.heap.size = gb at *
      have y0 : wb.cell? ⟨gb, 0, none⟩ = some (str ps[k].1) := hbp.cell 0
      have y1 : wb.cell? ⟨gb, 1, none⟩ = some (.int .i64 ps[k].2.1) := hbp.cell 1
      have y2 : wb.cell? ⟨gb, 2, none⟩ = some (.int .i64 ps[k].2.2) := hbp.cell 2
      clear hbp hGb HOW p0 p1 p2
      by_cases ht : ps[k].1 = []
      · have kt : ps[k].1.isEmpty = true := by rw [ht]; rfl
        obtain ⟨i0, i1, i2⟩ := HIN.out _ (List.getElem_mem hlt) ht
        rw [if_pos ht] at HSN hft2
        have hol : (objL obj ps[k].2).length = (ps[k].2.2 - ps[k].2.1).toNat := by unfold objL; rw [List.length_take, List.length_drop]; omega
        rw [hol] at hft2
        have HOL := Lib.hid hol
        clear ht hol
        go_wp2_with (first
          | (refine wpList_slLH _ _ _ rfl rfl rfl rfl rfl HBO.out ?_ ?_ ?_ ?_; omega; omega; omega; intro A3 hA3; have HA3 := Lib.hid hA3; clear hA3)
          | (at_builtin; refine wpList_appS (W0 := w) (n := (fillL obj (ps.take k)).length) (m := (ps[k].2.2.toNat - ps[k].2.1.toNat)) (news := ((obj.drop ps[k].2.1.toNat).take (ps[k].2.2.toNat - ps[k].2.1.toNat)).map byt) elemByte rfl _ _ rfl rfl rfl hG.size HOB.out ?_ ?_ (one_byt _) ?_ (by decide) ?_; exact sl_of HA3.out (by rw [List.length_take, List.length_drop]; omega); rw [List.length_map, List.length_take, List.length_drop]; omega; omega; intro v8 w8 hown8 happ8))
        have hG8 := happ8.gr hG HOB.out
        refine ⟨⟨k + 1, by omega, by go_num, hG8, ?_⟩, by simp [intOf]; omega⟩
        have he : objL obj ps[k].2 = (obj.drop ps[k].2.1.toNat).take (ps[k].2.2.toNat - ps[k].2.1.toNat) := by unfold objL; congr 1; omega
        rw [HSN.out, List.length_append, HOL.out, List.map_append, he, show (ps[k].2.2 - ps[k].2.1).toNat = ps[k].2.2.toNat - ps[k].2.1.toNat from by omega]
        exact hown8
      · have kt : ps[k].1.isEmpty = false := by simpa using ht
        rw [if_neg ht] at HSN hft2
        clear ht
        go_wp2_with (at_builtin; refine wpList_appT (W0 := w) rfl _ _ rfl rfl rfl hG.size HOB.out ?_ ?_; omega; intro v8 w8 hown8 hgr8)
        have hG8 := gr_append hG HOB.out hgr8
        refine ⟨⟨k + 1, by omega, by go_num, hG8, ?_⟩, by simp [intOf]; omega⟩
        rw [HSN.out, List.length_append, List.map_append]
        exact hown8
    · have he : ps.take k = ps := List.take_of_length_le (by omega)
      rw [he] at HOW
      go_wp2_with fail
      go_ret
      refine ⟨_, rfl, ?_, hG⟩
      rw [he]; exact HOW.out
end Go.Proofs.YtnmfmcmokdoieaaGreatDoor
