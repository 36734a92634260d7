/- Layer 11: the parts of a body of several spans: multi.Parts; the document's Fill. Contracts; conditions: the library's own variables hold what their types allow; short texts, few spans. -/
import Derived.Test.YtnmfmcmokdoieaaGreatDoorMulti9
import Derived.OwnWalk
set_option linter.unusedVariables false
set_option linter.unusedSimpArgs false
namespace Go.Proofs.YtnmfmcmokdoieaaGreatDoor
open Go.RowKit
/-- 'make([]T, 0, m)' -/
theorem wpList_mk0 {P : Program} {ops : Array Oper} {rest : List Oper} {o : Oper} {a : Act} {Q : Exit → Act → World → Prop} {W0 w : World} {t e : TypeId} {z : Value} {size bytes : Nat} {kl kc : IntKind} {C : Int} (m : Nat)
    (hE : ElemOk P t e z size bytes) (hgd : o.guard = none) (l c : Operand) (ho : o.op = .makeSlice t l c) (hl : a.eval l = .int kl 0) (hc : a.eval c = .int kc C) (hC : C = (m : Int)) (hb : bytes * m ≤ 281474976710656) (hm : m ≤ 9223372036854775807) (hB : W0.heap.size ≤ w.heap.size)
    (h : ∀ w', Own W0 w' e size (.slice (some ⟨w.heap.size, 0, none⟩) 0 m) 0 [] → Gr w w' → wpList P ops Q rest (a.put o.dst (.slice (some ⟨w.heap.size, 0, none⟩) 0 m)) w') : wpList P ops Q (o :: rest) a w := by
  obtain ⟨i, hi, hz0, hz1, hz2⟩ := info_parts hE.hi
  exact wpList_make_own w hgd l c t ho W0.heap.size e i z size hE.ht hi hz0 hz1 kl kc C m hl hc hC (by rw [hz2]; exact hb) (by unfold maxLen; omega) hB fun w' h1 h2 => h w' h1 (gr_none h2)
def spansV (l : List (Int × Int)) : List Value := l.flatMap fun s => [.int .i64 s.1, .int .i64 s.2]
/-- a list of spans -/
def Spans (w : World) (v : Value) (l : List (Int × Int)) : Prop := Sl w v l.length (spansV l)
theorem Spans.gr {w w' : World} {v : Value} {l} (h : Spans w v l) (g : Gr w w') : Spans w' v l := Sl.gr h g
theorem spansV_at (l : List (Int × Int)) (k : Nat) (h : k < l.length) : (spansV l)[k * 2]? = some (.int .i64 l[k].1) ∧ (spansV l)[k * 2 + 1]? = some (.int .i64 l[k].2) := by
  induction l generalizing k with
  | nil => simp at h
  | cons f fs ih =>
    have hc : spansV (f :: fs) = .int .i64 f.1 :: .int .i64 f.2 :: spansV fs := rfl
    rw [hc]
    cases k with
    | zero => simp
    | succ k =>
      have := ih k (by simpa using h)
      rw [show (k + 1) * 2 = k * 2 + 1 + 1 from by omega]
      simpa using this
theorem Spans.open {w : World} {v : Value} {xs : List (Int × Int)} (h : Spans w v xs) : ∃ A c, v = .slice A xs.length c ∧ xs.length ≤ c ∧ xs.length ≤ 9223372036854775807 ∧ ∀ (k : Nat) (hk : k < xs.length), ∃ b o, A = some ⟨b, o, none⟩ ∧ b < w.heap.size ∧ w.cell? ⟨b, o + k * 2, none⟩ = some (.int .i64 xs[k].1) ∧ w.cell? ⟨b, o + k * 2 + 1, none⟩ = some (.int .i64 xs[k].2) := by
  obtain ⟨A, c, hv, hc, hm, ho⟩ := Sl.open h
  refine ⟨A, c, hv, hc, hm, fun k hk => ?_⟩
  obtain ⟨e1, e2⟩ := spansV_at xs k hk
  obtain ⟨b, o, hA, hb, hj⟩ := ho _ _ e1
  exact ⟨b, o, hA, hb, hj _ _ e1, by rw [Nat.add_assoc]; exact hj _ _ e2⟩
/-- a part: a text, or the bytes of a span -/
abbrev PartT := List UInt8 × Int × Int
def partsV (l : List PartT) : List Value := l.flatMap fun p => [str p.1, .int .i64 p.2.1, .int .i64 p.2.2]
def Parts (w : World) (v : Value) (l : List PartT) : Prop := Sl w v l.length (partsV l)
theorem Parts.gr {w w' : World} {v : Value} {l} (h : Parts w v l) (g : Gr w w') : Parts w' v l := Sl.gr h g
theorem partsV_at (l : List PartT) (k : Nat) (h : k < l.length) : (partsV l)[k * 3]? = some (str l[k].1) ∧ (partsV l)[k * 3 + 1]? = some (.int .i64 l[k].2.1) ∧ (partsV l)[k * 3 + 2]? = some (.int .i64 l[k].2.2) := by
  induction l generalizing k with
  | nil => simp at h
  | cons f fs ih =>
    have hc : partsV (f :: fs) = str f.1 :: .int .i64 f.2.1 :: .int .i64 f.2.2 :: partsV fs := rfl
    rw [hc]
    cases k with
    | zero => simp
    | succ k =>
      have := ih k (by simpa using h)
      rw [show (k + 1) * 3 = k * 3 + 1 + 1 + 1 from by omega]
      simpa using this
theorem Parts.open {w : World} {v : Value} {xs : List PartT} (h : Parts w v xs) : ∃ A c, v = .slice A xs.length c ∧ xs.length ≤ c ∧ xs.length ≤ 9223372036854775807 ∧ ∀ (k : Nat) (hk : k < xs.length), ∃ b o, A = some ⟨b, o, none⟩ ∧ b < w.heap.size ∧ w.cell? ⟨b, o + k * 3, none⟩ = some (str xs[k].1) ∧ w.cell? ⟨b, o + k * 3 + 1, none⟩ = some (.int .i64 xs[k].2.1) ∧ w.cell? ⟨b, o + k * 3 + 2, none⟩ = some (.int .i64 xs[k].2.2) := by
  obtain ⟨A, c, hv, hc, hm, ho⟩ := Sl.open h
  refine ⟨A, c, hv, hc, hm, fun k hk => ?_⟩
  obtain ⟨e1, e2, e3⟩ := partsV_at xs k hk
  obtain ⟨b, o, hA, hb, hj⟩ := ho _ _ e1
  exact ⟨b, o, hA, hb, hj _ _ e1, by rw [Nat.add_assoc]; exact hj _ _ e2, by rw [Nat.add_assoc]; exact hj _ _ e3⟩
section
variable (tot : Int) (kind bnd : List UInt8)
/-- the text ahead of a range's bytes -/
def ptext (ah : List UInt8) (s : Int × Int) : List UInt8 := ah ++ [45, 45] ++ bnd ++ [13, 10] ++ typeN ++ kind ++ [13, 10] ++ rangeN ++ contentL s.1 s.2 tot ++ [13, 10] ++ [13, 10]
def endL : List UInt8 := [13, 10, 45, 45] ++ bnd ++ [45, 45] ++ [13, 10]
def partsB : List (Int × Int) → List UInt8 → List PartT
  | [], _ => []
  | s :: l, ah => (ptext tot kind bnd ah s, 0, 0) :: ([], s.1, s.2) :: partsB l [13, 10]
def partsL (l : List (Int × Int)) : List PartT := partsB tot kind bnd l [] ++ [(endL bnd, 0, 0)]
def partsOk (l : List (Int × Int)) : Bool := !l.isEmpty && (l.all (fun s => contB s.1 s.2 tot) && (kindB kind && boundB bnd))
end
theorem partsB_len (tot : Int) (kind bnd : List UInt8) (l : List (Int × Int)) (ah : List UInt8) : (partsB tot kind bnd l ah).length = 2 * l.length := by
  induction l generalizing ah with
  | nil => rfl
  | cons s l ih => simp only [partsB, List.length_cons, ih]; omega
def ahAt (k : Nat) : List UInt8 := if k = 0 then [] else [13, 10]
theorem partsB_snoc (tot : Int) (kind bnd : List UInt8) (l : List (Int × Int)) (s : Int × Int) (ah : List UInt8) : partsB tot kind bnd (l ++ [s]) ah = partsB tot kind bnd l ah ++ [(ptext tot kind bnd (if l = [] then ah else [13, 10]) s, 0, 0), ([], s.1, s.2)] := by
  induction l generalizing ah with
  | nil => rfl
  | cons x l ih =>
    rw [List.cons_append, partsB, ih, partsB]
    simp only [List.cons_append]
    congr 3
    cases l <;> simp
theorem cont_empty {f t n : Int} : contentL f t n = [] ↔ contB f t n = false := by
  unfold contentL
  cases h : contB f t n with
  | false => simp
  | true => simp [headC]
theorem elemPart : ElemOk Tryz.prog 25 46 (.agg #[str [], .int .i64 0, .int .i64 0]) 3 32 := ⟨Tryz.underlying25, by kernel_rfl, rfl, by omega⟩
theorem partsV_app (a b : List PartT) : partsV (a ++ b) = partsV a ++ partsV b := by simp [partsV]
theorem ptext_len (tot : Int) (kind bnd ah : List UInt8) (s : Int × Int) : (ptext tot kind bnd ah s).length ≤ ah.length + bnd.length + kind.length + 120 := by
  have := cont_len s.1 s.2 tot
  unfold ptext
  simp only [List.length_append, List.length_cons, List.length_nil, show typeN.length = 14 from rfl, show rangeN.length = 15 from rfl]
  omega
/-- how parts come back -/
def PartsEnd (w : World) (ok : Bool) (ps : List PartT) (e : Ending) (w' : World) : Prop := Gr w w' ∧ if ok then ∃ v, e = .returned (.tuple #[v, .int .i64 0]) ∧ Parts w' v ps else e = .returned (.tuple #[.slice none 0 0, .int .i64 1])
theorem partsOk_nil (tot : Int) (kind bnd : List UInt8) : partsOk tot kind bnd [] = false := rfl
theorem partsOk_bad {tot : Int} {kind bnd : List UInt8} {l : List (Int × Int)} (h : (l.all fun s => contB s.1 s.2 tot) = false) : partsOk tot kind bnd l = false := by unfold partsOk; rw [h]; simp
theorem partsOk_rest {tot : Int} {kind bnd : List UInt8} {l : List (Int × Int)} (hn : l ≠ []) (h : (l.all fun s => contB s.1 s.2 tot) = true) : partsOk tot kind bnd l = (kindB kind && boundB bnd) := by
  unfold partsOk; rw [h]; cases l with
  | nil => exact absurd rfl hn
  | cons => simp
theorem sl_lit (w : World) (t : TypeId) (cs : List Value) (n : Nat) (hn : n ≤ 1000) : Sl (w.alloc (.cells cs.toArray t)) (.slice (some ⟨w.heap.size, 0, none⟩) n n) n cs := by
  refine ⟨_, _, rfl, Nat.le_refl _, by omega, .inr ⟨w.heap.size, 0, rfl, (Bk.new w t cs.toArray (0, 0)).lt, fun j u hu => ?_⟩⟩
  rw [Nat.zero_add, (Bk.new w t cs.toArray (0, 0)).cell j]; simpa using hu
theorem one_part2 (a b : List UInt8) (c d e f : Int) : ∀ u ∈ [str a, .int .i64 c, .int .i64 d, str b, .int .i64 e, .int .i64 f], u.oneCell' = true := by
  intro u hu
  simp only [List.mem_cons, List.not_mem_nil, or_false] at hu
  rcases hu with rfl | rfl | rfl | rfl | rfl | rfl <;> rfl
theorem one_part (a : List UInt8) (c d : Int) : ∀ u ∈ [str a, .int .i64 c, .int .i64 d], u.oneCell' = true := by
  intro u hu
  simp only [List.mem_cons, List.not_mem_nil, or_false] at hu
  rcases hu with rfl | rfl | rfl <;> rfl
set_option maxHeartbeats 8000000 in
set_option maxRecDepth 100000 in
theorem parts_any (u : Value) (l : List (Int × Int)) (tot : Int) (kind bnd : List UInt8) (w : World) (hv : Vars w) (hu : Spans w u l) (hll : l.length ≤ 1000000) (hi : ∀ s ∈ l, (-9223372036854775808 ≤ s.1 ∧ s.1 ≤ 9223372036854775807) ∧ (-9223372036854775808 ≤ s.2 ∧ s.2 ≤ 9223372036854775807)) (ht : -9223372036854775808 ≤ tot ∧ tot ≤ 9223372036854775807) (hk : kind.length ≤ 1000000) (hb : bnd.length ≤ 1000000) :
    Calls Tryz.prog 6 #[u, .int .i64 tot, str kind, str bnd] w (PartsEnd w (partsOk tot kind bnd l) (partsL tot kind bnd l)) := by
  have HV := Lib.hid (fun (x : World) (h : Gr w x) => hv.gr h); clear hv
  obtain ⟨A, c, rfl, hc, hm, ho⟩ := hu.open
  have HO := Lib.hid ho; have HU := Lib.hid hu; clear ho hu
  have HIB := Lib.hid hi; clear hi
  by_cases hl0 : l = []
  · subst hl0
    go_enter Tryz.func6, Tryz.ntmps6
    go_wp2_with fail
    go_ret2
    exact ⟨Gr.refl _, rfl⟩
  · have hln : 0 < l.length := List.length_pos_iff.2 hl0
    have dl0 : ((l.length : Int) == 0) = false := by simpa using hl0
    have HNE := Lib.hid hl0
    clear hl0
    go_enter Tryz.func6, Tryz.ntmps6
    go_wp2_with fail
    go_loopw [8, 9, 11, 22] (fun x8 x9 x11 i wr => ∃ k : Nat, k ≤ l.length ∧ i = .int .i64 k ∧ Gr w wr ∧ ((l.take k).all fun s => contB s.1 s.2 tot) = true) (fun _ _ _ i _ => l.length - (intOf i).toNat)
    case atStart => exact ⟨0, Nat.zero_le _, rfl, Gr.refl _, rfl⟩
    case round =>
      obtain ⟨k, hk0, rfl, hG, hE⟩ := hrel
      have HE := Lib.hid hE; clear hE
      by_cases hlt : k < l.length
      · obtain ⟨b1, o1, rfl, hb1, hc1, hc1'⟩ := HO.out k hlt
        have hc2 := Gr.cell hG hc1
        have hc2' := Gr.cell hG hc1'
        have hbb := HIB.out _ (List.getElem_mem hlt)
        have HC := Lib.hid (fun (w : World) (hp : Pw w) => content_any l[k].1 l[k].2 tot w hp hbb.1 hbb.2 ht)
        clear hbb
        go_upto_region 6 with fail
        obtain ⟨hGb, cf0, cf1⟩ := box2 wr (.int .i64 l[k].1) (.int .i64 l[k].2) 31
        have hG := Gr.tr hG hGb
        generalize wr.alloc (Obj.cells #[.int .i64 l[k].1, .int .i64 l[k].2] 31) = wb at *
        clear hGb hc2 hc2'
        cases hcb : contB l[k].1 l[k].2 tot with
        | false =>
          have hce := cont_empty.2 hcb
          have kz : (contentL l[k].1 l[k].2 tot).isEmpty = true := by rw [hce]; rfl
          have HP := Lib.hid (partsOk_bad (kind := kind) (bnd := bnd) (all_no (fun s : Int × Int => contB s.1 s.2 tot) l k hlt hcb))
          clear hce hcb
          go_wp2_with (go_at_call 12; refine (HC.out _ (HV.out _ hG).pw).mono ?_; rintro e w1 ⟨rfl, hG1⟩)
          go_ret2
          unfold PartsEnd
          rw [HP.out]
          exact ⟨Gr.tr hG hG1, rfl⟩
        | true =>
          have hce : contentL l[k].1 l[k].2 tot ≠ [] := fun h => by rw [cont_empty.1 h] at hcb; cases hcb
          have kz : (contentL l[k].1 l[k].2 tot).isEmpty = false := by simpa using hce
          have HN := Lib.hid (all_take_succ (fun s : Int × Int => contB s.1 s.2 tot) l k hlt HE.out hcb)
          clear hce hcb
          go_wp2_with (go_at_call 12; refine (HC.out _ (HV.out _ hG).pw).mono ?_; rintro e w1 ⟨rfl, hG1⟩)
          exact ⟨⟨k + 1, by omega, by go_num, Gr.tr hG hG1, HN.out⟩, by simp [intOf]; omega⟩
      · have HA := Lib.hid (all_end (fun s : Int × Int => contB s.1 s.2 tot) l k hlt HE.out)
        have HP := Lib.hid (partsOk_rest (kind := kind) (bnd := bnd) HNE.out HA.out)
        have HKD := Lib.hid (fun (w : World) => kindly_any kind w (by omega))
        have HBN := Lib.hid (fun (w : World) => bounds_any bnd w (by omega))
        cases hk1 : kindB kind with
        | false =>
          rw [hk1] at HKD HP
          go_wp2_with (go_at_call 14; refine (HKD.out _).mono ?_; rintro e w1 ⟨rfl, hG1⟩)
          go_ret2
          unfold PartsEnd
          rw [HP.out]
          exact ⟨Gr.tr hG hG1, rfl⟩
        | true =>
          rw [hk1] at HKD HP
          cases hb1 : boundB bnd with
          | false =>
            rw [hb1] at HBN HP
            go_wp2_with (first | (go_at_call 14; refine (HKD.out _).mono ?_; rintro e w1 ⟨rfl, hG1⟩) | (go_at_call 15; refine (HBN.out _).mono ?_; rintro e w2 ⟨rfl, hG2⟩))
            go_ret2
            unfold PartsEnd
            rw [HP.out]
            exact ⟨Gr.tr (Gr.tr hG hG1) hG2, rfl⟩
          | true =>
            rw [hb1] at HBN HP
            go_upto_region 12 with (first | (go_at_call 14; refine (HKD.out _).mono ?_; rintro e w1 ⟨rfl, hG1⟩) | (go_at_call 15; refine (HBN.out _).mono ?_; rintro e w2 ⟨rfl, hG2⟩) | (at_make; refine wpList_mk0 (W0 := w2) (2 * l.length + 1) elemPart rfl _ _ rfl rfl rfl ?_ ?_ ?_ ?_ ?_; omega; omega; omega; exact Nat.le_refl _; intro w3 hown3 hG3))
            have hGw2 := Gr.tr (Gr.tr hG hG1) hG2
            have HO3 := Lib.hid hown3
            generalize hv3 : Value.slice (some ⟨w2.heap.size, 0, none⟩) 0 (2 * l.length + 1) = v3 at *
            clear hv3 hown3 HE HKD HBN hG hG1 hG2
            go_wp2_with fail
            go_loopw [12, 13, 15, 16, 46] (fun v s13 x15 x16 i wr => ∃ k : Nat, k ≤ l.length ∧ i = .int .i64 k ∧ Gr w2 wr ∧ s13 = str (ahAt k) ∧ Own w2 wr 46 3 v (2 * k) (partsV (partsB tot kind bnd (l.take k) []))) (fun _ _ _ _ i _ => l.length - (intOf i).toNat)
            case atStart => exact ⟨0, Nat.zero_le _, rfl, hG3, rfl, HO3.out⟩
            case round =>
              obtain ⟨k, hk0, rfl, hG, rfl, hO⟩ := hrel
              have HOW := Lib.hid hO
              obtain ⟨A7, c7, hrow⟩ := hO.form
              subst hrow
              clear hO hG3 HO3
              by_cases hlt : k < l.length
              · obtain ⟨b1, o1, rfl, hb1, hc1, hc1'⟩ := HO.out k hlt
                have hc2 := Gr.cell (Gr.tr hGw2 hG) hc1
                have hc2' := Gr.cell (Gr.tr hGw2 hG) hc1'
                have hbb := HIB.out _ (List.getElem_mem hlt)
                have HC := Lib.hid (fun (w : World) (hp : Pw w) => content_any l[k].1 l[k].2 tot w hp hbb.1 hbb.2 ht)
                have hcl := cont_len l[k].1 l[k].2 tot
                have hal : (ahAt k).length ≤ 2 := by unfold ahAt; split <;> simp
                clear hbb
                go_upto_region 16 with fail
                obtain ⟨hGb, cf0, cf1⟩ := box2 wr (.int .i64 l[k].1) (.int .i64 l[k].2) 31
                have hOb := Lib.hid (HOW.out.gr hGb)
                have hG := Gr.tr hG hGb
                generalize wr.alloc (Obj.cells #[.int .i64 l[k].1, .int .i64 l[k].2] 31) = wb at *
                clear hGb hc2 hc2' HOW
                go_wp2_with (first
                  | (go_at_call 12; refine (HC.out _ (HV.out _ (Gr.tr hGw2 hG)).pw).mono ?_; rintro e w5 ⟨rfl, hG5⟩; have cf0 := hG5.cell cf0; have cf1 := hG5.cell cf1; have HO5 := Lib.hid (hOb.out.gr hG5); have hGt := Gr.tr hG hG5)
                  | (at_builtin; refine wpList_appS (W0 := w2) (n := 2 * k) (m := 2) elemPart rfl _ _ rfl rfl rfl (Gr.al hGt _).size (HO5.out.al _) (sl_lit _ _ _ 2 (by decide)) rfl (one_part2 _ _ _ _ _ _) (by omega) (by omega) ?_; intro v8 w8 hown8 happ8))
                refine ⟨⟨k + 1, by omega, by go_num, happ8.gr (Gr.al hGt _) (HO5.out.al _), rfl, ?_⟩, by simp [intOf]; omega⟩
                rw [show 2 * (k + 1) = 2 * k + 2 from by omega, List.take_succ_eq_append_getElem hlt, partsB_snoc, partsV_app]
                have hx : (if l.take k = [] then [] else [13, 10]) = ahAt k := by
                  unfold ahAt
                  by_cases h : k = 0
                  · rw [if_pos h, if_pos (by rw [h]; rfl)]
                  · rw [if_neg h, if_neg]; intro hh; have := congrArg List.length hh; rw [List.length_take, List.length_nil] at this; omega
                rw [hx]
                have ht : ptext tot kind bnd (ahAt k) l[k] = ahAt k ++ [45, 45] ++ bnd ++ [13, 10] ++ [67, 111, 110, 116, 101, 110, 116, 45, 84, 121, 112, 101, 58, 32] ++ kind ++ [13, 10] ++ [67, 111, 110, 116, 101, 110, 116, 45, 82, 97, 110, 103, 101, 58, 32] ++ contentL l[k].1 l[k].2 tot ++ [13, 10] ++ [13, 10] := rfl
                rw [ht]
                simpa [partsV] using hown8
              · have hkl : k = l.length := by omega
                go_wp2_with (at_builtin; refine wpList_appS (W0 := w2) (n := 2 * k) (m := 1) elemPart rfl _ _ rfl rfl rfl (Gr.al hG _).size (HOW.out.al _) (sl_lit _ _ _ 1 (by decide)) rfl (one_part _ _ _) (by omega) (by omega) ?_; intro v8 w8 hown8 happ8)
                go_ret2
                unfold PartsEnd
                rw [HP.out]
                refine ⟨Gr.tr hGw2 (happ8.gr (Gr.al hG _) (HOW.out.al _)), _, rfl, ?_⟩
                unfold Parts partsL
                rw [List.length_append, partsB_len, partsV_app]
                have hs := hown8.sl (by decide)
                rw [show l.take k = l from List.take_of_length_le (by omega), hkl] at hs
                simpa [partsV, endL] using hs
end Go.Proofs.YtnmfmcmokdoieaaGreatDoor
