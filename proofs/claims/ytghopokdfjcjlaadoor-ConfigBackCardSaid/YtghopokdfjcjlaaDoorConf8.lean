/- Layer 39: the document's numbers, names, powers of two, how a node may work. No conditions. -/
import Derived.Test.YtghopokdfjcjlaaDoorConf5
import Derived.Test.YtghopokdfjcjlaaDoorDig
namespace Go.Proofs.YtghopokdfjcjlaaDoor
open Go.RowKit
set_option maxHeartbeats 2000000 in
theorem refDefault39_any (w : World) : Calls Tryd.prog 12 #[] w fun e w' => e = .returned (cfgV Cfg.dflt) ∧ Gr w w' := by
  unfold cfgV Cfg.dflt
  go_enter Tryd.func12, Tryd.ntmps12
  go_wp2_with fail
  refine bodyPost_ret (v := Value.agg #[.int .i64 65536, .int .i64 131072, .int .i64 8388608, .int .i64 16, .int .i64 2, .int .i64 2, .int .i64 262144, .int .i64 1073741824, .int .i64 536870912, .int .i64 32768]) (by simp [results, Tryd.results12, go_sem]) rfl ?_
  exact ⟨rfl, Gr.al (Gr.refl w) _⟩
/-- ten numbers in a new block -/
def TenAt (w : World) (c : Cfg) (e : Ending) (w' : World) : Prop := ∃ g, e = .returned (.slice (some ⟨g, 0, none⟩) 10 10) ∧ Gr w w' ∧ w.heap.size ≤ g ∧ Bk w' g 2 (c.nums.map (Value.int .i64)).toArray (0, 0)
set_option maxHeartbeats 2000000 in
theorem refNumbers39_any (c : Cfg) (w : World) : Calls Tryd.prog 22 #[cfgV c] w (TenAt w c) := by
  unfold cfgV
  go_enter Tryd.func22, Tryd.ntmps22
  go_wp2_with fail
  go_ret
  refine ⟨w.heap.size + 1, ?_, Gr.al (Gr.al (Gr.refl w) _) _, by omega, ?_⟩
  · simp
  · have := Bk.new (w.alloc (Obj.cells #[.int .i64 c.u, .int .i64 c.wa, .int .i64 c.mo, .int .i64 c.sp, .int .i64 c.re, .int .i64 c.rt, .int .i64 c.li, .int .i64 c.bu, .int .i64 c.sh, .int .i64 c.ch] 23)) 2 #[.int .i64 c.u, .int .i64 c.wa, .int .i64 c.mo, .int .i64 c.sp, .int .i64 c.re, .int .i64 c.rt, .int .i64 c.li, .int .i64 c.bu, .int .i64 c.sh, .int .i64 c.ch] (0, 0)
    simp only [World.size_alloc] at this
    exact this
/-- the ten names in a new block -/
def NamesAt (w : World) (e : Ending) (w' : World) : Prop := ∃ g, e = .returned (.slice (some ⟨g, 0, none⟩) 10 10) ∧ Gr w w' ∧ Bk w' g 9 (namesL.map str).toArray (0, 0)
set_option maxHeartbeats 2000000 in
theorem refNames39_any (w : World) : Calls Tryd.prog 33 #[] w (NamesAt w) := by
  go_enter Tryd.func33, Tryd.ntmps33
  go_wp2_with fail
  go_ret
  exact ⟨w.heap.size, rfl, Gr.al (Gr.refl w) _, Bk.new w _ _ _⟩
set_option maxHeartbeats 2000000 in
theorem refPlain39_any (i : Nat) (w : World) : Calls Tryd.prog 32 #[.int .i64 i] w fun e w' => e = .returned (.bool (!sizedI i)) ∧ w' = w := by
  have HS := Lib.hid (show sizedI i = (decide (i < 3) || decide (5 < i)) from rfl)
  by_cases h1 : 3 ≤ i
  · have k1 : decide (3 ≤ (i : Int)) = true := decide_eq_true (by omega)
    go_enter Tryd.func32, Tryd.ntmps32
    go_wp2_with fail
    go_ret
    refine ⟨?_, rfl⟩
    rw [HS.out, decide_eq_false (show ¬ i < 3 by omega), Bool.false_or]
    show Ending.returned (Value.bool (decide ((i : Int) ≤ 5))) = _
    congr 2
    by_cases h5 : 5 < i
    · rw [decide_eq_false (by omega), decide_eq_true h5]; rfl
    · rw [decide_eq_true (by omega), decide_eq_false h5]; rfl
  · have k1 : decide (3 ≤ (i : Int)) = false := decide_eq_false (by omega)
    go_enter Tryd.func32, Tryd.ntmps32
    go_wp2_with fail
    go_ret
    refine ⟨?_, rfl⟩
    rw [HS.out, decide_eq_true (show i < 3 by omega)]; rfl
theorem powB_form {n : Int} (h : powB n = true) : ∃ k, 2 ≤ k ∧ k ≤ 20 ∧ n = ((2 ^ k : Nat) : Int) := by
  have h4 : 4 ≤ n := by
    unfold powB powL at h
    simp only [List.contains_cons, List.contains_nil, Bool.or_false, Bool.or_eq_true, beq_iff_eq] at h
    omega
  obtain ⟨m, rfl⟩ : ∃ m : Nat, n = m := ⟨n.toNat, by omega⟩
  obtain ⟨k, hk, rfl⟩ := pow_form m h
  refine ⟨k, ?_, hk, rfl⟩
  apply Classical.byContradiction; intro hk2
  have : 2 ^ k ≤ 2 ^ 1 := Nat.pow_le_pow_right (by omega) (by omega)
  omega
set_option maxHeartbeats 2000000 in
theorem refPower39_any (n : Int) (w : World) : Calls Tryd.prog 23 #[.int .i64 n] w fun e w' => e = .returned (.bool (powB n)) ∧ w' = w := by
  go_enter Tryd.func23, Tryd.ntmps23
  go_wp2_with fail
  go_loop [3] (fun i => ∃ (u k : Nat), i = .int .i64 u ∧ u = 2 ^ k ∧ 2 ≤ k ∧ k ≤ 21 ∧ u ≤ 2097152 ∧ 4 ≤ u ∧ ∀ j, 2 ≤ j → j < k → n ≠ ((2 ^ j : Nat) : Int)) (fun i => 4194304 - (intOf i).toNat)
  case atStart => exact ⟨4, 2, rfl, rfl, by omega, by omega, by omega, by omega, fun j h1 h2 => by omega⟩
  case round =>
    obtain ⟨u, k, rfl, hu, hk2, hk, hu2, hu4, hno⟩ := hrel
    have HU := Lib.hid hu
    have HN := Lib.hid hno
    clear hu hno
    by_cases hle : u ≤ 1048576
    · have k1 : decide ((u : Int) ≤ 1048576) = true := decide_eq_true (by omega)
      have hk20 : k ≤ 20 := by
        have := HU.out
        apply Classical.byContradiction; intro hk'
        have : 2 ^ 21 ≤ 2 ^ k := Nat.pow_le_pow_right (by omega) (by omega)
        omega
      by_cases hn : (u : Int) = n
      · have e1 : ((u : Int) == n) = true := by simpa using hn
        have HP := Lib.hid (show powB n = true from by rw [← hn, HU.out]; exact pow_mem k hk2 hk20)
        clear hn
        go_wp2_with fail
        go_ret
        exact ⟨by rw [HP.out]; rfl, rfl⟩
      · have e1 : ((u : Int) == n) = false := by simpa using hn
        have HNE := Lib.hid hn
        clear hn
        go_wp2_with fail
        refine ⟨⟨u * 2, k + 1, by simp, by rw [HU.out, Nat.pow_succ], by omega, by omega, by omega, by omega, fun j h1 h2 => ?_⟩, by simp [intOf]; omega⟩
        rcases Nat.lt_or_ge j k with h | h
        · exact HN.out j h1 h
        · obtain rfl : j = k := by omega
          rw [← HU.out]; exact fun e => HNE.out e.symm
    · have k1 : decide ((u : Int) ≤ 1048576) = false := decide_eq_false (by omega)
      have HP := Lib.hid (show powB n = false from by
        cases hp : powB n with
        | false => rfl
        | true =>
          obtain ⟨j, h1, h2, h3⟩ := powB_form hp
          have hk21 : k = 21 := by
            have := HU.out
            apply Classical.byContradiction; intro hk'
            have : 2 ^ k ≤ 2 ^ 20 := Nat.pow_le_pow_right (by omega) (by omega)
            omega
          exact absurd h3 (HN.out j h1 (by omega)))
      go_wp2_with fail
      go_ret
      exact ⟨by rw [HP.out]; rfl, rfl⟩
end Go.Proofs.YtghopokdfjcjlaaDoor
