/- Layer 11's law on parts that are filled and read again: the walk. Conditions: the library's own variables hold what their types allow, its table what it holds. -/
import Derived.Test.YtnmfmcmokdoieaaGreatDoorMulti14
import Derived.Test.YtnmfmcmokdoieaaGreatDoorMulti15
import Derived.Test.YtnmfmcmokdoieaaGreatDoorJMHex
import Derived.Test.YtnmfmcmokdoieaaGreatDoorMulti20
set_option linter.unusedVariables false
set_option linter.unusedSimpArgs false
namespace Go.Proofs.YtnmfmcmokdoieaaGreatDoor.lmback
open Go.RowKit
def plainK : List UInt8 := [116, 101, 120, 116, 47, 112, 108, 97, 105, 110]
theorem ok_of {l : List (Int × Int)} {bnd obj : List UInt8} (hb : boundB bnd = true) (hs : smallB11 l = true) (hp : partsOk 200 plainK bnd l = true) (ho : obj.length = 200) : BodyOk 200 plainK bnd obj l ∧ l ≠ [] ∧ l.length ≤ 20 := by
  unfold smallB11 at hs
  simp only [Bool.and_eq_true, List.all_eq_true, decide_eq_true_eq] at hs
  unfold partsOk at hp
  simp only [Bool.and_eq_true, List.all_eq_true] at hp
  refine ⟨⟨fun s hm => ⟨hp.2.1 s hm, ?_⟩, by decide, by decide, hb⟩, ?_, hs.2⟩
  · have := hs.1 s hm
    unfold smallS at this
    simp only [Bool.and_eq_true, decide_eq_true_eq] at this
    omega
  · rintro rfl; simp at hp
theorem bad_of {l : List (Int × Int)} {bnd : List UInt8} (hb : boundB bnd = true) (hs : smallB11 l = true) (hp : partsOk 200 plainK bnd l = false) (ha : ∀ s ∈ l, s.1 ≠ s.2) : l = [] := by
  rcases Decidable.em (l = []) with h | h
  · exact h
  · exfalso
    have hk : kindB plainK = true := by decide
    have hc : (l.all fun s => contB s.1 s.2 200) = true := by
      rw [List.all_eq_true]
      intro s hm
      unfold smallB11 at hs
      simp only [Bool.and_eq_true, List.all_eq_true, decide_eq_true_eq] at hs
      have := hs.1 s hm
      unfold smallS at this
      simp only [Bool.and_eq_true, decide_eq_true_eq] at this
      have hne := ha s hm
      unfold contB
      rw [this.1]
      simp
      omega
    rw [partsOk_rest h hc, hk, hb] at hp
    cases hp
theorem own_nil1 (w : World) (e : TypeId) : Own w (w.alloc (.cells #[] e)) e 1 (.slice (some ⟨w.heap.size, 0, none⟩) 0 0) 0 [] := by
  refine ⟨by simp, .inr ⟨w.heap.size, 0, #[], rfl, Nat.le_refl _, ?_, Nat.le_refl _, by unfold maxLen; omega, by simp, by simp⟩⟩
  show (w.heap.push _)[w.heap.size]? = _; simp
theorem at_pieces (obj : List UInt8) (l : List (Int × Int)) (k : Nat) (h : k < (piecesL 200 obj l).length) (h' : k < l.length) : (piecesL 200 obj l)[k] = ((l[k].1, l[k].2, 200), objL obj l[k]) := by
  simp only [piecesL, List.getElem_map]
set_option maxHeartbeats 8000000 in
set_option maxRecDepth 100000 in
theorem walk (u : Value) (l : List (Int × Int)) (n : Int) (q : Nat) (w : World) (hv : Vars w) (hz : Tz w) (hu : Spans w u l) (hok : ∀ s ∈ l, (-9223372036854775808 ≤ s.1 ∧ s.1 ≤ 9223372036854775807) ∧ (-9223372036854775808 ≤ s.2 ∧ s.2 ≤ 9223372036854775807)) (hq : q ≤ 255) :
    Calls Tryz.prog 3 #[u, .int .i64 n, .int .u8 q] w fun e w' => e = .returned (.bool true) ∧ Gr w w' := by
  have HV := Lib.hid (fun (x : World) (h : Gr w x) => hv.gr h); clear hv
  have HB := Lib.hid (fun (x : World) (h : Gr w x) => boundary_any n x (hz.gr h)); clear hz
  have hbl := boundN_len n
  have hbb := Lib.hid (boundN_ok n)
  generalize boundN n = bnd at *
  obtain ⟨A, c, rfl, hc, hmx, ho⟩ := hu.open
  have HU := Lib.hid hu; have HOK := Lib.hid hok; have HO := Lib.hid ho
  clear hu hok ho
  have HBL := Lib.hid hbl
  clear hbl
  have HAL := Lib.hid (alive11_any w (HV.out w (Gr.refl w)))
  have HSM := Lib.hid (fun (x : World) (h : Gr w x) => small11_any _ l x (HU.out.gr h))
  go_enter Tryz.func3, Tryz.ntmps3
  go_upto_region 3 with (go_at_call 4; refine HAL.out.mono ?_; rintro e w1 ⟨rfl, hG1⟩)
  cases hs : smallB11 l with
  | false =>
    rw [hs] at HSM
    go_wp2_with (go_at_call 5; refine (HSM.out _ hG1).mono ?_; rintro e w2 ⟨rfl, hG2⟩)
    go_ret
    exact ⟨rfl, Gr.tr hG1 hG2⟩
  | true =>
    rw [hs] at HSM
    have hl20 : l.length ≤ 20 := by unfold smallB11 at hs; simp only [Bool.and_eq_true, decide_eq_true_eq] at hs; exact hs.2
    have HPA := Lib.hid (fun (x : World) (h : Gr w x) => parts_any _ l 200 plainK bnd x (HV.out x h) (HU.out.gr h) (by omega) HOK.out (by decide) (by decide) (by have := HBL.out; omega))
    have HS := Lib.hid hs
    clear hs
    go_upto_region 5 with (go_at_call 5; refine (HSM.out _ hG1).mono ?_; rintro e w2 ⟨rfl, hG2⟩)
    have hGw2 := Gr.tr hG1 hG2
    clear hG1 hG2 HSM HAL
    cases hp : partsOk 200 plainK bnd l with
    | false =>
      rw [hp] at HPA
      have HBAD := Lib.hid (bad_of hbb.out HS.out hp)
      clear hp
      go_upto_region 8 with (first
        | (go_at_call 7; refine (HB.out _ hGw2).mono ?_; rintro e w3 ⟨rfl, hG3⟩; have hGw3 := Gr.tr hGw2 hG3)
        | (go_at_call 6; refine (HPA.out _ hGw3).mono ?_; rintro e w4 ⟨hG4, hend⟩; obtain rfl := (by simpa using hend : e = .returned (.tuple #[.slice none 0 0, .int .i64 1])); clear hend))
      have hGw4 := Gr.tr hGw3 hG4
      clear hGw2 hGw3 hG3 hG4 HPA
      go_loopw [10, 33] (fun x10 i wr => ∃ k : Nat, k ≤ l.length ∧ i = .int .i64 k ∧ Gr w wr ∧ ∀ s ∈ l.take k, s.1 ≠ s.2) (fun _ i _ => l.length - (intOf i).toNat)
      case atStart => exact ⟨0, Nat.zero_le _, rfl, hGw4, by simp⟩
      case round =>
        obtain ⟨k, hk, rfl, hG, hE⟩ := hrel
        have HE := Lib.hid hE; clear hE
        by_cases hlt : k < l.length
        · obtain ⟨b1, o1, rfl, hb1, p0, p1⟩ := HO.out k hlt
          have p0 := Gr.cell hG p0; have p1 := Gr.cell hG p1
          go_upto_region 10 with fail
          obtain ⟨hGb, cf0, cf1⟩ := box2 wr (.int .i64 l[k].1) (.int .i64 l[k].2) 31
          have hG := Gr.tr hG hGb
          generalize wr.alloc (Obj.cells #[.int .i64 l[k].1, .int .i64 l[k].2] 31) = wb at *
          clear hGb p0 p1
          by_cases he : l[k].1 = l[k].2
          · have de : (l[k].1 == l[k].2) = true := by simpa using he
            clear he
            go_wp2_with fail
            go_ret
            exact ⟨rfl, hG⟩
          · have de : (l[k].1 == l[k].2) = false := by simpa using he
            have HN := Lib.hid (show ∀ s ∈ l.take (k + 1), s.1 ≠ s.2 from by
              intro s hm
              rw [List.take_succ_eq_append_getElem hlt] at hm
              rcases List.mem_append.1 hm with h | h
              · exact HE.out s h
              · simp only [List.mem_singleton] at h; subst h; exact he)
            clear he
            go_wp2_with fail
            exact ⟨⟨k + 1, by omega, by go_num, hG, HN.out⟩, by simp [intOf]; omega⟩
        · have hkl : l.take k = l := List.take_of_length_le (by omega)
          have hn : l = [] := HBAD.out (by have := HE.out; rwa [hkl] at this)
          have hl0 : l.length = 0 := by rw [hn]; rfl
          clear hn hkl HE HO HU HOK HBAD HS
          go_wp2_with fail
          go_ret
          exact ⟨by simp [hl0], hG⟩
    | true =>
      rw [hp] at HPA
      have HBK := Lib.hid (fun (o : List UInt8) (h : o.length = 200) => ok_of hbb.out HS.out hp h)
      clear hp
      go_upto_region 14 with (first
        | (go_at_call 7; refine (HB.out _ hGw2).mono ?_; rintro e w3 ⟨rfl, hG3⟩; have hGw3 := Gr.tr hGw2 hG3)
        | (go_at_call 6; refine (HPA.out _ hGw3).mono ?_; rintro e w4 ⟨hG4, hend⟩; obtain ⟨v3, rfl, hp3⟩ := (by simpa using hend : ∃ v, e = .returned (.tuple #[v, .int .i64 0]) ∧ Parts w4 v (partsL 200 plainK bnd l)); clear hend))
      have hGw4 := Gr.tr hGw3 hG4
      have HP3 := Lib.hid hp3
      obtain ⟨A3, c3, rfl, -, -, -⟩ := hp3.open
      clear hp3 hG3 hG4 hGw2 hGw3 HPA
      have hpl : (partsL 200 plainK bnd l).length ≤ 1000 := by unfold partsL; rw [List.length_append, partsB_len]; simp; omega
      go_upto_region 15 with (go_at_call 8; refine (object11_any q _ hq).mono ?_; rintro e w5 ⟨v5, o, rfl, hol, hby5, hG5⟩)
      obtain ⟨hbo, hne, _⟩ := HBK.out o hol
      have hbl2 := body_len 200 plainK bnd o l [] (by simp)
      rw [show plainK.length = 10 from rfl] at hbl2
      have hbl3 : l.length * (o.length + bnd.length + 10 + 130) ≤ 20 * 361 := Nat.mul_le_mul hl20 (by have := HBL.out; omega)
      have hGw5 := Gr.tr hGw4 hG5
      have HFI := Lib.hid (fun (x : World) (h1 : Gr w4 x) (h2 : Byts x v5 o) => fill11_any _ _ _ o x (HP3.out.gr h1) h2 (parts_in hbo.span []) (by rw [fill_parts]; have := HBL.out; omega) (by omega) (by omega) (parts_text (by decide) (by have := HBL.out; omega) l [] (by simp)))
      have HRC := Lib.hid (multiL_body [] hbo hne)
      rw [List.append_nil, if_pos rfl] at HRC
      have HSZ := Lib.hid (fun (x : World) (h1 : Gr w4 x) => size_any _ _ o x (HP3.out.gr h1) (parts_in hbo.span []) (by rw [fill_parts]; have := HBL.out; omega) (by omega))
      have hbl4 : (bodyL 200 plainK bnd o l []).length ≤ 100000 := by have := HBL.out; omega
      have HIN := Lib.hid (fun k (h : k < l.length) => hbo.span _ (List.getElem_mem h))
      have HPL := Lib.hid (show (piecesL 200 o l).length = l.length from by unfold piecesL; rw [List.length_map])
      clear hbo hne HBK hbl2 hbl3
      rw [fill_parts] at HFI HSZ
      have HOB := Lib.hid hby5
      obtain ⟨A5, c5, hv5, hc5, -, -⟩ := hby5.open
      subst hv5
      clear hby5
      have HOL := Lib.hid hol; clear hol
      go_upto_region 16 with (go_at_call 9; refine (HFI.out _ hG5 HOB.out).mono ?_; rintro e w6 ⟨v6, rfl, hw6, hG6⟩)
      have hGw6 := Gr.tr hGw5 hG6
      have HB6 := Lib.hid (own_byts hw6)
      obtain ⟨A6, c6, hv6⟩ := hw6.form
      subst hv6
      clear hw6 HFI
      generalize bodyL 200 plainK bnd o l [] = B at *
      have HRD := Lib.hid (fun (x : World) (h : Gr w6 x) => read_any _ B bnd x (HV.out _ (Gr.tr hGw6 h)) (HB6.out.gr h) (by omega) (by have := HBL.out; omega))
      rw [HRC.out] at HRD
      go_upto_region 17 with (first
        | (go_at_call 7; refine (HB.out _ hGw6).mono ?_; rintro e w7 ⟨rfl, hG7⟩)
        | (go_at_call 10; refine (HRD.out _ hG7).mono ?_; rintro e w8 ⟨hG8, v8, rfl, hp8⟩))
      have hG68 := Gr.tr hG7 hG8
      have hGw8 := Gr.tr hGw6 hG68
      have HP8 := Lib.hid hp8
      obtain ⟨A8, c8, hv8, hc8, -, hpo⟩ := hp8.open
      have HPO := Lib.hid hpo
      rw [HPL.out] at hv8 hc8
      subst hv8
      clear hp8 hpo HRD HRC
      have hG48 := Gr.tr (Gr.tr hG5 hG6) hG68
      go_upto_region 19 with (go_at_call 11; refine (HSZ.out _ hG48).mono ?_; rintro e w9 ⟨rfl, hG9⟩)
      have hGw9 := Gr.tr hGw8 hG9
      have HP9 := Lib.hid (fun k (hk : k < l.length) => HPO.out k (by rw [HPL.out]; exact hk))
      have HAT := Lib.hid (fun k (hk : k < l.length) => at_pieces o l k (by rw [HPL.out]; exact hk) hk)
      have HG59 := Lib.hid (Gr.tr hG6 (Gr.tr hG68 hG9))
      clear HPO HP8 HP3 HSZ HS hG5 hG6 hG7 hG8 hG68 hG48 hGw4 hGw5 hGw6 hGw8 HB HV HOK HB6
      go_wp2_with fail
      go_loopw [15, 16, 79] (fun x15 x16 i wr => ∃ k : Nat, k ≤ l.length ∧ i = .int .i64 k ∧ Gr w9 wr) (fun _ _ i _ => l.length - (intOf i).toNat)
      case atStart => exact ⟨0, Nat.zero_le _, rfl, Gr.refl _⟩
      case round =>
        obtain ⟨k, hk, rfl, hG⟩ := hrel
        by_cases hlt : k < l.length
        · obtain ⟨b1, o1, rfl, hb1, p0, p1⟩ := HO.out k hlt
          have p0 := Gr.cell (Gr.tr hGw9 hG) p0; have p1 := Gr.cell (Gr.tr hGw9 hG) p1
          go_upto_region 22 with fail
          obtain ⟨hGb, cf0, cf1⟩ := box2 wr (.int .i64 l[k].1) (.int .i64 l[k].2) 31
          have hG := Gr.tr hG hGb
          generalize wr.alloc (Obj.cells #[.int .i64 l[k].1, .int .i64 l[k].2] 31) = wb at *
          generalize wr.heap.size = gb at *
          clear hGb p0 p1
          obtain ⟨b2, o2, u2, rfl, d1, d2, d3, d4, hy⟩ := HP9.out k hlt
          rw [HAT.out k hlt] at d1 d2 d3 hy
          simp only at d1 d2 d3 hy
          obtain ⟨hcb, hto⟩ := HIN.out k hlt
          obtain ⟨hf0, hft⟩ : 0 ≤ l[k].1 ∧ l[k].1 ≤ l[k].2 := by
            unfold contB spanB at hcb; simp only [Bool.and_eq_true, decide_eq_true_eq] at hcb; omega
          have hG89 := Gr.tr hG9 hG
          have t1 := fun i => (hy.gr (Gr.tr hG89 (gw_gr wb i))).toStr
          obtain ⟨A4, n4, rfl, -, -, -⟩ := hy.open
          obtain ⟨A5', hse, hs5⟩ := HOB.out.sliced l[k].1.toNat l[k].2.toNat c5 (by omega) (by omega) (by omega) (Nat.le_refl _)
          have he : objL o l[k] = (o.drop l[k].1.toNat).take (l[k].2.toNat - l[k].1.toNat) := by unfold objL; congr 1; omega
          rw [← he] at hs5
          have t2 := fun i => (hs5.gr (Gr.tr (Gr.tr HG59.out hG) (gw_gr wb i))).toStr
          have gc1 := fun i => (gw_gr wb i).cell (Gr.cell hG89 d1)
          have gc2 := fun i => (gw_gr wb i).cell (Gr.cell hG89 d2)
          have gc3 := fun i => (gw_gr wb i).cell (Gr.cell hG89 d3)
          have gc4 := fun i => (gw_gr wb i).cell (Gr.cell hG89 d4)
          have gd1 := fun i => (gw_gr wb i).cell cf0
          have gd2 := fun i => (gw_gr wb i).cell cf1
          clear d1 d2 d3 d4 cf0 cf1 hy hs5 he hcb
          have hto' : l[k].2 ≤ (c5 : Int) := by omega
          have t3 := t2
          rw [← hse] at t3
          simp only [sliced, Nat.mul_one] at t3
          clear hse hto
          refine wp_region_gw (by kernel_rfl) (by kernel_rfl) ?_
          repeat (first | go_big_quiet_step (fail) | quiet_step (fail))
          refine wpQuiet_nil ?_; intro wq hwq; obtain ⟨iq, rfl⟩ := hwq
          have hGq := gw_gr wb iq
          generalize gw wb iq = wx at *
          clear t1 t2 t3 gc1 gc2 gc3 gc4 gd1 gd2
          go_wp2_with fail
          exact ⟨⟨k + 1, by omega, by go_num, Gr.tr hG hGq⟩, by simp [intOf]; omega⟩
        · go_wp2_with fail
          go_ret
          exact ⟨rfl, Gr.tr hGw9 hG⟩
theorem walkZ (u : Value) (l : List (Int × Int)) (n k : Int) (w : World) (hv : Vars w) (hz : Tz w) (hu : Spans w u l) (hok : ∀ s ∈ l, (-9223372036854775808 ≤ s.1 ∧ s.1 ≤ 9223372036854775807) ∧ (-9223372036854775808 ≤ s.2 ∧ s.2 ≤ 9223372036854775807)) (hk : 0 ≤ k ∧ k ≤ 255) :
    Calls Tryz.prog 3 #[u, .int .i64 n, .int .u8 k] w fun e w' => e = .returned (.bool true) ∧ Gr w w' := by
  obtain ⟨q, rfl⟩ : ∃ q : Nat, k = q := ⟨k.toNat, by omega⟩
  exact walk u l n q w hv hz hu hok (by omega)
end Go.Proofs.YtnmfmcmokdoieaaGreatDoor.lmback
