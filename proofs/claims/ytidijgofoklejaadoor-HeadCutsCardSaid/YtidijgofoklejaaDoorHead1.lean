/- What the functions of layer 12 do with a head's first line: contracts. -/
import Derived.Test.YtidijgofoklejaaDoorBytes
import Derived.Test.YtidijgofoklejaaDoorHeadLaw
namespace Go.Proofs.YtidijgofoklejaaDoor
open Go.RowKit
theorem Byts.idx {w : World} {A : Option Addr} {n c : Nat} {l : List UInt8} (hb : Byts w (.slice A n c) l) (hm : Ml w) (hl : l.length < 4294967281) (b2 c2 : Nat) (sub : List UInt8) (hs2 : 2 ≤ sub.length) (hs3 : sub.length ≤ 1000)
    (h2 : ∀ (i : Nat) (hi : i < sub.length), w.cell? ⟨b2, i, none⟩ = some (byt sub[i])) :
    Calls Tryd.prog 36 #[.slice A n c, .slice (some ⟨b2, 0, none⟩) sub.length c2] w fun e w' => e = .returned (.int .i64 (Lib.index l sub)) ∧ Gr w w' := by
  obtain ⟨rfl, hc⟩ := hb.len
  obtain ⟨m, hm⟩ := hm
  cases A with
  | none =>
    have hl0 : l = [] := by
      cases l with
      | nil => rfl
      | cons x t => obtain ⟨b, o, hA, _⟩ := hb.cellAt 0 (by simp); cases hA
    subst hl0
    have h := Tryd.bytes_Index_longer none (some ⟨b2, 0, none⟩) 0 c sub.length c2 w hs2 (by omega) (by omega)
    refine h.mono fun e w' ⟨he, hw⟩ => ⟨?_, by rw [hw]; exact Gr.refl w⟩
    rw [he]
    cases sub with
    | nil => simp at hs2
    | cons x t => rfl
  | some ad =>
    have h := Tryd.bytes_Index_at ad ⟨b2, 0, none⟩ l.length c sub.length c2 (l.map fun c => (c.toNat : Int)) (sub.map fun c => (c.toNat : Int)) m w (by simp) (by simp)
      (fun x hx => by simp only [List.mem_map] at hx; obtain ⟨y, _, rfl⟩ := hx; have := y.toNat_lt; omega)
      (fun x hx => by simp only [List.mem_map] at hx; obtain ⟨y, _, rfl⟩ := hx; have := y.toNat_lt; omega)
      (fun i hi => by
        obtain ⟨b, o, hA, _, hcell⟩ := hb.cellAt i hi
        injection hA with hA
        subst hA
        have e1 : (Addr.mk b o none).add i = ⟨b, o + i, none⟩ := by unfold Addr.add; split <;> simp_all
        rw [e1, hcell, nums_at _ _ hi])
      (fun i hi => by
        have e1 : (Addr.mk b2 0 none).add i = ⟨b2, i, none⟩ := by unfold Addr.add; split <;> simp_all
        rw [e1, h2 i hi, nums_at _ _ hi]) hc hl (by omega) hm
    rw [bytesOf_nums, bytesOf_nums] at h
    exact h.mono fun e w' ⟨he, q, hw⟩ => ⟨he, by rw [hw]; exact Gr.drN (Gr.refl w) q⟩
set_option maxHeartbeats 1000000 in
theorem first_any (v : Value) (s : List UInt8) (w : World) (hb : Byts w v s) (hm : Ml w) (hs : s.length < 4294967000) :
    Calls Tryd.prog 23 #[v] w fun e w' => e = .returned (.tuple #[str (firstL s).1, .int .i64 (firstL s).2.1, .int .i64 (firstL s).2.2]) ∧ Gr w w' := by
  obtain ⟨A, c, rfl, hc, hm', ho⟩ := hb.open
  have HB := Lib.hid hb; have HM := Lib.hid hm; clear hb hm ho
  have kc := fun (w : World) (C : Array Value) (n c : Nat) => Lib.run_convert_bytes_const (P := Tryd.prog) w 22 5 C n c Tryd.underlying22 Tryd.underlying5
  go_enter Tryd.func23, Tryd.ntmps23
  go_wp2_with fail
  have hw1 := Bk.new w 5 #[.int .u8 13, .int .u8 10] (2, 3)
  have hG1 : Gr w (w.alloc (Obj.cells #[.int .u8 13, .int .u8 10] 5 (2, 3))) := Gr.al (Gr.refl w) _
  have HI := Lib.hid ((HB.out.gr hG1).idx (HM.out.gr hG1) (by omega) w.heap.size 2 [13, 10] (by simp) (by simp) (fun i hi => by
    rw [hw1.cell i]
    match i, hi with
    | 0, _ => rfl
    | 1, _ => rfl))
  clear hw1
  rw [crlf_lib] at HI
  cases hcr : crlf s with
  | none =>
    rw [hcr] at HI
    refine HI.out.mono ?_
    rintro e w1 ⟨rfl, hG⟩
    have hG2 := Gr.tr hG1 hG
    clear hG hG1 HI
    by_cases hl : s.length ≤ 400
    · have hf := Lib.hid (show firstL s = ([], 0, 3) from by unfold firstL; rw [hcr]; simp [hl])
      clear hcr
      go_wp2_with fail
      go_ret3
      exact ⟨by rw [hf.out]; rfl, hG2⟩
    · have hf := Lib.hid (show firstL s = ([], 0, 2) from by unfold firstL; rw [hcr]; simp [hl])
      clear hcr
      have hd : decide (s.length ≤ 400) = false := decide_eq_false hl
      go_wp2_with fail
      go_ret3
      exact ⟨by rw [hf.out]; rfl, hG2⟩
  | some i =>
    rw [hcr] at HI
    have hlt := crlf_lt hcr
    refine HI.out.mono ?_
    rintro e w1 ⟨rfl, hG⟩
    have hG2 := Gr.tr hG1 hG
    clear hG hG1 HI
    by_cases hl : 400 < i
    · have hf := Lib.hid (show firstL s = ([], 0, 2) from by unfold firstL; rw [hcr]; simp [hl])
      clear hcr
      have hd : decide (400 < (i : Int)) = true := decide_eq_true (by omega)
      go_wp2_with fail
      go_ret3
      exact ⟨by rw [hf.out]; rfl, hG2⟩
    · have hf := Lib.hid (show firstL s = (s.take i, i + 2, 0) from by unfold firstL; rw [hcr]; simp [hl])
      clear hcr
      have hd : decide (400 < (i : Int)) = false := decide_eq_false (by omega)
      have HB2 := Lib.hid (HB.out.gr hG2)
      go_wp2_with (first
        | (refine wpList_slHi _ _ rfl rfl rfl rfl HB2.out ?_ ?_ ?_; omega; omega; intro A2 hA2; have HA2 := Lib.hid hA2; clear hA2)
        | (refine wpList_toStr _ rfl rfl rfl HA2.out ?_))
      go_ret3
      exact ⟨by rw [hf.out]; rfl, hG2⟩
end Go.Proofs.YtidijgofoklejaaDoor
