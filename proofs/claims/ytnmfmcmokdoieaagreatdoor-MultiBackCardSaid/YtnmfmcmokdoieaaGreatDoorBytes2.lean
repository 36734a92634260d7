/- A text made into bytes. No conditions. -/
import Derived.Test.YtnmfmcmokdoieaaGreatDoorBytes
import Derived.Laws.IdiomStrings
set_option linter.unusedVariables false
set_option linter.unusedSimpArgs false
namespace Go.Proofs.YtnmfmcmokdoieaaGreatDoor
open Go.RowKit
theorem byts_row (w : World) (l : List UInt8) (cap n : Nat) (hc : l.length ≤ cap) (hl : l.length ≤ 9223372036854775807) : Byts (w.drew.alloc (.cells (bytesRow ⟨l.toArray⟩ cap) 5 (n, n + 1))) (.slice (some ⟨w.heap.size, 0, none⟩) l.length cap) l := by
  refine ⟨_, _, rfl, hc, hl, .inr ⟨w.heap.size, 0, rfl, (Bk.new w.drew 5 _ (n, n + 1)).lt, fun j u hu => ?_⟩⟩
  rw [Nat.zero_add]
  have h1 : (w.drew.alloc (.cells (bytesRow ⟨l.toArray⟩ cap) 5 (n, n + 1))).cell? ⟨w.heap.size, j, none⟩ = (bytesRow ⟨l.toArray⟩ cap)[j]? := (Bk.new w.drew 5 _ (n, n + 1)).cell j
  rw [h1]
  have hj := (List.getElem?_eq_some_iff.1 hu).1
  rw [List.length_map] at hj
  simp [bytesRow, Array.getElem?_append, hj]
  simpa [hj] using hu
/-- []byte(s) -/
theorem wpList_toByts {ops : Array Oper} {rest : List Oper} {o : Oper} {a : Act} {Q : Exit → Act → World → Prop} {w : World} {l : List UInt8} (x : Operand) (hgd : o.guard = none) (ho : o.op = .convert 9 32 x) (hx : a.eval x = str l) (hl : l.length ≤ 9223372036854775807)
    (h : ∀ A c w', Byts w' (.slice A l.length c) l → Gr w w' → Fresh w (.slice A l.length c) → wpList Tryz.prog ops Q rest (a.put o.dst (.slice A l.length c)) w') : wpList Tryz.prog ops Q (o :: rest) a w := by
  have hr := run_bytes_of_string (P := Tryz.prog) w 9 32 5 ⟨l.toArray⟩ Tryz.underlying9 Tryz.underlying32 Tryz.underlying5
  have hg := grownCap_ge w l.length 0 5
  refine wpList_run hgd (v := .slice (some ⟨w.heap.size, 0, none⟩) l.length (grownCap w l.length 0 5)) ?_ (h _ _ _ (byts_row w l _ (bytesRow ⟨l.toArray⟩ (grownCap w l.length 0 5)).size hg hl) (Gr.al (Gr.dr (Gr.refl w)) _) (fun b hb => ?_))
  · unfold execOp
    simp only [ho, hx, Sem.run_bind]
    rw [hr]
    rfl
  · have : w.heap.size = b := by simpa [Value.ownBlock] using hb
    omega
end Go.Proofs.YtnmfmcmokdoieaaGreatDoor
