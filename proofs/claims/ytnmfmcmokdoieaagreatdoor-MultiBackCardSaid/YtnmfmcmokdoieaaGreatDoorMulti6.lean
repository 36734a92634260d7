/- Layer 11: the scan of a body: its lines. Contracts; conditions: the library's own variables hold what their types allow; a body shorter than 2 to the 32nd. -/
import Derived.Test.YtnmfmcmokdoieaaGreatDoorMulti5
import Derived.Test.YtnmfmcmokdoieaaGreatDoorBytes3
set_option linter.unusedVariables false
set_option linter.unusedSimpArgs false
namespace Go.Proofs.YtnmfmcmokdoieaaGreatDoor
open Go.RowKit
theorem m_index {w : World} {A : Option Addr} {n c : Nat} {l : List UInt8} (hb : Byts w (.slice A n c) l) (hm : Ml w) (hl : l.length < 4294967281) (b2 c2 : Nat) (sub : List UInt8) (hs2 : 2 ≤ sub.length) (hs3 : sub.length ≤ 1000)
    (h2 : ∀ (i : Nat) (hi : i < sub.length), w.cell? ⟨b2, i, none⟩ = some (byt sub[i])) :
    Calls Tryz.prog 33 #[.slice A n c, .slice (some ⟨b2, 0, none⟩) sub.length c2] w fun e w' => e = .returned (.int .i64 (Lib.index l sub)) ∧ Gr w w' := by
  obtain ⟨rfl, hc⟩ := hb.len
  obtain ⟨m, hm⟩ := hm
  cases A with
  | none =>
    have hl0 : l = [] := by
      cases l with
      | nil => rfl
      | cons x t => obtain ⟨b, o, hA, _⟩ := hb.cellAt 0 (by simp); cases hA
    subst hl0
    have h := Tryz.bytes_Index_longer none (some ⟨b2, 0, none⟩) 0 c sub.length c2 w hs2 (by omega) (by omega)
    refine h.mono fun e w' ⟨he, hw⟩ => ⟨?_, by rw [hw]; exact Gr.refl w⟩
    rw [he]
    cases sub with
    | nil => simp at hs2
    | cons x t => rfl
  | some ad =>
    have h := Tryz.bytes_Index_at ad ⟨b2, 0, none⟩ l.length c sub.length c2 (l.map fun c => (c.toNat : Int)) (sub.map fun c => (c.toNat : Int)) m w (by simp) (by simp)
      (fun x hx => by simp only [List.mem_map] at hx; obtain ⟨y, _, rfl⟩ := hx; have := y.toNat_lt; omega)
      (fun x hx => by simp only [List.mem_map] at hx; obtain ⟨y, _, rfl⟩ := hx; have := y.toNat_lt; omega)
      (fun i hi => by
        obtain ⟨b, o, hA, _, hcell⟩ := hb.cellAt i hi
        injection hA with hA
        subst hA
        have e1 : (Addr.mk b o none).add i = ⟨b, o + i, none⟩ := by unfold Addr.add; split <;> simp_all
        rw [e1, hcell, nums_at _ _ hi])
      (fun i hi => by
        have e1 : (Addr.mk b2 0 none).add i = ⟨b2, i, none⟩ := by unfold Addr.add; split <;> simp_all
        rw [e1, h2 i hi, nums_at _ _ hi]) hc hl (by omega) hm
    rw [bytesOf_nums, bytesOf_nums] at h
    exact h.mono fun e w' ⟨he, q, hw⟩ => ⟨he, by rw [hw]; exact Gr.drN (Gr.refl w) q⟩
/-- where a body's reading stands: what is left, what is wrong -/
def Scan (w : World) (g : Nat) (l : List UInt8) (e : Nat) : Prop :=
  ∃ A c, Bk w g 51 #[.slice A l.length c, .int .i64 (e : Int)] (0, 0) ∧ Byts w (.slice A l.length c) l ∧ (l = [] ∨ ∀ b, (Value.slice A l.length c).ownBlock = some b → b < g)
theorem Scan.far {w : World} {g k : Nat} {l : List UInt8} {e : Nat} (h : Scan w g l e) (hk : g < k) (i : Nat) (u : Value) : Scan (w.setCell ⟨k, i, none⟩ u) g l e := by
  obtain ⟨A, c, h1, h2, h3⟩ := h
  exact ⟨A, c, h1.far (p := ⟨k, i, none⟩) (by show g ≠ k; omega) u, h2.stO h3 (Nat.le_of_lt hk) i u, h3⟩
theorem Scan.byk {w w' : World} {g k : Nat} {l : List UInt8} {e : Nat} (h : Scan w g l e) (hk : g < k) (hb : w.grownBy w' (some k)) : Scan w' g l e := by
  obtain ⟨A, c, h1, h2, h3⟩ := h
  exact ⟨A, c, bk_byo h1 hb (by simp; omega), h2.byO h3 (Nat.le_of_lt hk) hb, h3⟩
theorem Scan.gr {w w' : World} {g : Nat} {l : List UInt8} {e : Nat} (h : Scan w g l e) (k : Gr w w') : Scan w' g l e := by
  obtain ⟨A, c, h1, h2, h3⟩ := h
  exact ⟨A, c, h1.gr k, h2.gr k, h3⟩
/-- the text, what is left, what is wrong behind a line -/
def lineS (l : List UInt8) (e : Nat) : List UInt8 × List UInt8 × Nat := if e ≠ 0 then ([], l, e) else match lnL l with
  | none => ([], l, 13)
  | some x => (x.1, x.2, 0)
set_option maxHeartbeats 2000000 in
theorem scanLine_any (w : World) (g : Nat) (l : List UInt8) (e0 : Nat) (hs : Scan w g l e0) (hm : Ml w) (hl : l.length < 4294967000) :
    Calls Tryz.prog 19 #[.pointer (some ⟨g, 0, none⟩)] w fun e w' => e = .returned (str (lineS l e0).1) ∧ Scan w' g (lineS l e0).2.1 (lineS l e0).2.2 ∧ w.grownBy w' (some g) := by
  obtain ⟨A, c, hb, hy, ho⟩ := hs
  obtain ⟨q0, q1⟩ := hb.cells2
  obtain ⟨f0, f1⟩ := hb.free2
  have HB := Lib.hid hb; have HY := Lib.hid hy; have HM := Lib.hid hm; have HO := Lib.hid ho
  clear hb hy hm ho
  by_cases he : e0 = 0
  · subst he
    have kc := fun (w : World) (C : Array Value) (n c : Nat) => Lib.run_convert_bytes_const (P := Tryz.prog) w 32 5 C n c Tryz.underlying32 Tryz.underlying5
    go_enter Tryz.func19, Tryz.ntmps19
    go_wp2_with fail
    have hw1 := Bk.new w 5 #[.int .u8 13, .int .u8 10] (2, 3)
    have hG1 : Gr w (w.alloc (Obj.cells #[.int .u8 13, .int .u8 10] 5 (2, 3))) := Gr.al (Gr.refl w) _
    have HI := Lib.hid (m_index (HY.out.gr hG1) (HM.out.gr hG1) (by omega) w.heap.size 2 [13, 10] (by simp) (by simp) (fun i hi => by
      rw [hw1.cell i]
      match i, hi with
      | 0, _ => rfl
      | 1, _ => rfl))
    clear hw1
    rw [crlf_lib] at HI
    cases hcr : crlf l with
    | none =>
      rw [hcr] at HI
      refine HI.out.mono ?_
      rintro e w1 ⟨rfl, hG⟩
      have hG2 := Gr.tr hG1 hG
      have HB2 := Lib.hid (HB.out.gr hG2)
      obtain ⟨q0, q1⟩ := HB2.out.cells2
      obtain ⟨f0, f1⟩ := HB2.out.free2
      have hv := Lib.hid (show lineS l 0 = ([], l, 13) from by unfold lineS; rw [lnL_none hcr]; rfl)
      clear hG hG1 HI hcr
      go_wp2_with fail
      go_ret
      refine ⟨by rw [hv.out]; rfl, ?_, by_st (hG2.by _) _ _⟩
      rw [hv.out]
      exact ⟨A, c, by simpa using HB2.out.set 1 (.int .i64 13), (HY.out.gr hG2).stO HO.out (Nat.le_refl g) _ _, HO.out⟩
    | some i =>
      rw [hcr] at HI
      have hlt := crlf_lt hcr
      refine HI.out.mono ?_
      rintro e w1 ⟨rfl, hG⟩
      have hG2 := Gr.tr hG1 hG
      have HB2 := Lib.hid (HB.out.gr hG2)
      have HY2 := Lib.hid (HY.out.gr hG2)
      obtain ⟨q0, q1⟩ := HB2.out.cells2
      obtain ⟨f0, f1⟩ := HB2.out.free2
      have hv := Lib.hid (show lineS l 0 = (l.take i, l.drop (i + 2), 0) from by unfold lineS; rw [lnL_of hcr]; rfl)
      clear hG hG1 HI hcr
      go_wp2_with (first
        | (refine wpList_slHi _ _ rfl rfl rfl rfl HY2.out ?_ ?_ ?_; omega; omega; intro A2 hA2; have HA2 := Lib.hid hA2; clear hA2)
        | (refine wpList_slLoB _ _ rfl rfl rfl rfl HY2.out ?_ ?_ ?_; omega; omega; intro A3 hA3 hO3; have HA3 := Lib.hid hA3; have HO3 := Lib.hid hO3; clear hA3 hO3)
        | (refine wpList_toStr _ rfl rfl rfl HA2.out ?_))
      go_ret
      have ei : ((i : Int) + 2).toNat = i + 2 := by omega
      refine ⟨by rw [hv.out]; rfl, ?_, by_st (hG2.by _) _ _⟩
      rw [hv.out]
      have hx := HB2.out.set 0 (.slice A3 (l.length - ((i : Int) + 2).toNat) (c - ((i : Int) + 2).toNat))
      simp only [List.setIfInBounds_toArray, List.set_cons_zero] at hx
      have hne : l.drop ((i : Int) + 2).toNat = [] ∨ ∀ b, (Value.slice A3 (l.length - ((i : Int) + 2).toNat) (c - ((i : Int) + 2).toNat)).ownBlock = some b → b < g := by
        rcases HO.out with h | h
        · left; rw [h]; simp
        · right; rw [HO3.out]; exact h
      have hy3 := HA3.out.stO hne (Nat.le_refl g) 0 (.slice A3 (l.length - ((i : Int) + 2).toNat) (c - ((i : Int) + 2).toNat))
      rw [ei] at hx hy3 hne
      refine ⟨A3, c - (i + 2), ?_, ?_, ?_⟩
      · simp only [List.length_drop]; exact hx
      · simp only [List.length_drop]; exact hy3
      · simp only [List.length_drop]; exact hne
  · have hn : ((e0 : Int) != 0) = true := by simp; exact he
    have hv := Lib.hid (show lineS l e0 = ([], l, e0) from if_pos he)
    go_enter Tryz.func19, Tryz.ntmps19
    go_wp2_with fail
    go_ret
    refine ⟨by rw [hv.out]; rfl, ?_, (Gr.refl w).by _⟩
    rw [hv.out]
    exact ⟨A, c, HB.out, HY.out, HO.out⟩
def mustS (ok : Bool) (e : Nat) : Nat := if e = 0 ∧ ok = false then 2 else e
set_option maxHeartbeats 2000000 in
theorem scanMust_any (w : World) (g : Nat) (l : List UInt8) (e0 : Nat) (ok : Bool) (hs : Scan w g l e0) :
    Calls Tryz.prog 18 #[.pointer (some ⟨g, 0, none⟩), .bool ok] w fun e w' => e = .returned (.tuple #[]) ∧ Scan w' g l (mustS ok e0) ∧ w.grownBy w' (some g) := by
  obtain ⟨A, c, hb, hy, ho⟩ := hs
  obtain ⟨q0, q1⟩ := hb.cells2
  obtain ⟨f0, f1⟩ := hb.free2
  have HB := Lib.hid hb; have HY := Lib.hid hy; have HO := Lib.hid ho
  clear hb hy ho
  by_cases he : e0 = 0
  · subst he
    cases ok with
    | true =>
      go_enter Tryz.func18, Tryz.ntmps18
      go_wp2_with fail
      go_end0
      exact ⟨rfl, ⟨A, c, HB.out, HY.out, HO.out⟩, (Gr.refl w).by _⟩
    | false =>
      go_enter Tryz.func18, Tryz.ntmps18
      go_wp2_with fail
      go_end0
      exact ⟨rfl, ⟨A, c, by have := HB.out.set 1 (.int .i64 2); simpa [mustS] using this, HY.out.stO HO.out (Nat.le_refl g) _ _, HO.out⟩, by_st ((Gr.refl w).by _) _ _⟩
  · have hn : ((e0 : Int) == 0) = false := by simp; exact he
    have hv := Lib.hid (show mustS ok e0 = e0 from if_neg (fun h => he h.1))
    go_enter Tryz.func18, Tryz.ntmps18
    go_wp2_with fail
    go_end0
    exact ⟨rfl, by rw [hv.out]; exact ⟨A, c, HB.out, HY.out, HO.out⟩, (Gr.refl w).by _⟩
end Go.Proofs.YtnmfmcmokdoieaaGreatDoor
