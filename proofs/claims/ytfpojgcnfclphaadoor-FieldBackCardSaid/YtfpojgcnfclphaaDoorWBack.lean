/- The walk of the law FieldBack. No conditions but the reach of the form. -/
import Derived.Test.YtfpojgcnfclphaaDoorBack0
namespace Go.Proofs.YtfpojgcnfclphaaDoor.lback
open Go.RowKit
theorem put_cases (l : List Fld) : (∃ n : Nat, n ≠ 0 ∧ put l = ([], n)) ∨ (put l = (block l, 0) ∧ l.all right = true ∧ l.length ≤ 100 ∧ (block l).length ≤ 65536) := by
  unfold put
  split
  · rename_i h
    split
    · exact .inl ⟨4, by decide, rfl⟩
    · rename_i h1; exact .inr ⟨rfl, h, by omega, by omega⟩
  · exact .inl ⟨2, by decide, rfl⟩
set_option maxHeartbeats 4000000 in
set_option maxRecDepth 100000 in
theorem walk (u : Value) (xs : List Fld) (m : List UInt8) (k : Int) (w : World) (hm : Ml w) (hu : Flds w u xs) (hs : Short2 xs) (_hm : m.length ≤ 140737488355328) (hk : 0 ≤ k ∧ k ≤ 65535) : Calls Tryd.prog 8 #[u, str m, .int .u16 k] w fun e w' => e = .returned (.bool true) ∧ Gr w w' := by
  have HM := Lib.hid hm; have HU := Lib.hid hu; have HS := Lib.hid hs; clear hm hu hs
  cases hg : great2 xs with
  | true =>
    go_enter Tryd.func8, Tryd.ntmps8
    go_wp2_with (first | (go_at_call 11; refine (alive_any _ HM.out).mono ?_; rintro e w1 ⟨rfl, hG1⟩) | (go_at_call 23; refine (great2_any _ _ _ (HU.out.gr hG1) HS.out).mono ?_; rintro e w2 ⟨rfl, hG2⟩))
    go_ret
    exact ⟨rfl, Gr.tr hG1 hG2⟩
  | false =>
    obtain ⟨hx1, hx2⟩ := small_of hg
    have hsn : Short [m] := by intro x hx; simp at hx; subst hx; assumption
    have HSN := Lib.hid hsn; clear hsn
    go_enter Tryd.func8, Tryd.ntmps8
    go_wp2_with (first | (go_at_call 11; refine (alive_any _ HM.out).mono ?_; rintro e w1 ⟨rfl, hG1⟩) | (go_at_call 23; refine (great2_any _ _ _ (HU.out.gr hG1) HS.out).mono ?_; rintro e w2 ⟨rfl, hG2⟩))
    refine (great1_any _ _ _ (strs_new w2 [m] 9 (by simp)) HSN.out).mono ?_
    rintro e w3 ⟨rfl, hG3⟩
    have hGb := Gr.tr (Gr.tr hG1 hG2) (Gr.tr (Gr.al (Gr.refl w2) _) hG3)
    have HU3 := Lib.hid (HU.out.gr hGb)
    have HM3 := Lib.hid (HM.out.gr hGb)
    clear hG1 hG2 hG3
    cases hg1 : great1 [m] with
    | true =>
      go_wp2_with fail
      go_ret
      exact ⟨rfl, hGb⟩
    | false =>
      have hml : m.length ≤ 10000 := by
        unfold great1 at hg1; simp [bulk1] at hg1; omega
      clear _hm
      have hP := Lib.hid (fun (w : World) (h : Flds w u xs) => put_any u xs w h HS.out hx1 hx2)
      rcases put_cases xs with ⟨n, hn, he⟩ | ⟨he, hr, hl, hb⟩
      · rw [he] at hP
        have hn1 : ((n : Int) != 0) = true := by simpa using hn
        go_wp2_with fail
        refine (hP.out _ HU3.out).mono ?_
        rintro e w4 ⟨rfl, hG4⟩
        go_wp2_with fail
        go_ret
        exact ⟨rfl, Gr.tr hGb hG4⟩
      · rw [he] at hP
        have hb1 : 0 < (block xs).length := by rw [block_len]; omega
        have hp1 := parse_back xs m hr hl hb
        obtain ⟨kn, rfl⟩ : ∃ kn : Nat, k = kn := ⟨k.toNat, by omega⟩
        have hkm : kn % (block xs).length < (block xs).length := Nat.mod_lt _ hb1
        have hp2 := parse_cut xs (kn % (block xs).length) hr hl hb hkm
        have hq1 := Lib.hid (fun (w : World) (hm : Ml w) => parse_any (block xs ++ m) w hm (by rw [List.length_append]; omega))
        have hq2 := Lib.hid (fun (w : World) (hm : Ml w) => parse_any ((block xs).take (kn % (block xs).length)) w hm (by rw [List.length_take]; omega))
        rw [hp1] at hq1
        rw [hp2] at hq2
        have hbb : (block xs).length ≤ 70000 := by omega
        clear hp1 hp2 he hb
        generalize block xs = b at *
        have hmod : ((kn : Int).tmod (b.length : Int)) = ((kn % b.length : Nat) : Int) := by rw [Int.tmod_eq_emod_of_nonneg (by omega)]; omega
        have hbz : ((b.length : Int) == 0) = false := by rw [beq_eq_false_iff_ne]; omega
        go_wp2_with fail
        refine (hP.out _ HU3.out).mono ?_
        rintro e w4 ⟨rfl, hG4⟩
        have HU4 := Lib.hid (HU3.out.gr hG4)
        have HM4 := Lib.hid (HM3.out.gr hG4)
        go_wp2_with fail
        refine (hq1.out _ HM4.out).mono ?_
        rintro e w5 ⟨v5, rfl, hv5, hG5⟩
        have HV5 := Lib.hid hv5; clear hv5
        have HU5 := Lib.hid (HU4.out.gr hG5)
        have HM5 := Lib.hid (HM4.out.gr hG5)
        go_wp2_with fail
        refine (hq2.out _ HM5.out).mono ?_
        rintro e w6 ⟨v6, rfl, hv6, hG6⟩
        have HV6 := Lib.hid (HV5.out.gr hG6)
        have HU6 := Lib.hid (HU5.out.gr hG6)
        have bb : ((b.length : Int) == (b.length : Int)) = true := by simp
        clear hv6
        go_wp2_with (go_at_call 22; refine (same_any _ _ _ _ _ HV6.out HU6.out).mono ?_; rintro e w7 ⟨rfl, hG7⟩)
        go_ret
        exact ⟨by simp, Gr.tr hGb (Gr.tr hG4 (Gr.tr hG5 (Gr.tr hG6 hG7)))⟩
end Go.Proofs.YtfpojgcnfclphaaDoor.lback
