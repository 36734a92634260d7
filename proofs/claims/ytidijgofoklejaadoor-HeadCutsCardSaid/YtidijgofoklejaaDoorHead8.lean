/- The chapter's example of layer 12. -/
import Derived.Test.YtidijgofoklejaaDoorHead5
import Derived.Test.YtidijgofoklejaaDoorHead6
import Derived.Test.YtidijgofoklejaaDoorHead7
namespace Go.Proofs.YtidijgofoklejaaDoor
open Go.RowKit
theorem byts_new (w : World) (l : List UInt8) (t : TypeId) (fr : Nat × Nat) (cs : Array Value) (hcs : cs = (l.map byt).toArray) (h : l.length ≤ 100000) : Byts (w.alloc (.cells cs t fr)) (.slice (some ⟨w.heap.size, 0, none⟩) l.length l.length) l := by
  subst hcs
  refine ⟨_, _, rfl, Nat.le_refl _, by omega, .inr ⟨w.heap.size, 0, rfl, (Bk.new w t _ fr).lt, fun j u hu => ?_⟩⟩
  rw [Nat.zero_add, (Bk.new w t _ fr).cell j]
  simpa using hu
def exB : List UInt8 := [72, 84, 84, 80, 47, 49, 46, 49, 32, 50, 48, 54, 32, 80, 97, 114, 116, 105, 97, 108, 32, 67, 111, 110, 116, 101, 110, 116, 13, 10, 13, 10, 120]
theorem exTell : tellR exB = (([], [], 206, []), 32, 0) := by kernel_rfl
theorem exObj : objB [47, 97] = true := by decide +kernel
theorem ml_of {W : World} (h : W.ShapedOpen Tryd.prog) : Ml W := Tryd.laysM143.s1_3 W h
set_option maxHeartbeats 2000000 in
theorem awake12_any (w : World) (hm : Ml w) : Calls Tryd.prog 9 #[] w fun e w' => e = .returned (.bool true) ∧ Gr w w' := by
  have kc := fun (w : World) (C : Array Value) (n c : Nat) => Lib.run_convert_bytes_const (P := Tryd.prog) w 22 5 C n c Tryd.underlying22 Tryd.underlying5
  have HM := Lib.hid hm; clear hm
  go_enter Tryd.func9, Tryd.ntmps9
  go_wp2_with fail
  have hb := byts_new w exB 5 (33, 34) _ rfl (by decide)
  have hG1 : Gr w (w.alloc (Obj.cells (exB.map byt).toArray 5 (33, 34))) := Gr.al (Gr.refl w) _
  have hT := tell_any _ exB _ hb (HM.out.gr hG1) (by decide)
  rw [exTell] at hT
  refine hT.mono ?_
  rintro e w1 ⟨A1, c1, rfl, hf1, hG2, _⟩
  have hG := Gr.tr hG1 hG2
  clear kc hb hT hf1 hG1 hG2
  have HO := Lib.hid (fun (w : World) => object_any [47, 97] w (by simp))
  rw [exObj] at HO
  go_wp2_with (go_at_call 14; refine (HO.out _).mono ?_; rintro e w2 ⟨rfl, hG3⟩)
  go_ret
  exact ⟨rfl, Gr.tr (Gr.al hG _) hG3⟩
end Go.Proofs.YtidijgofoklejaaDoor
