/- Several texts in one (their own heads say what each is). No conditions but those that each theorem names. -/
import Derived.Test.YtcfefflnebkjnaaGreatDoorJField2
import Derived.Test.YtcfefflnebkjnaaGreatDoorJLawA
set_option linter.unusedVariables false
set_option linter.unusedSimpArgs false
/- XField8 -/
namespace Go.Proofs.YtcfefflnebkjnaaGreatDoor
open Go.RowKit
theorem Strs.cellAt {w : World} {A : Option Addr} {n c : Nat} {xs : List (List UInt8)} (h : Strs w (.slice A n c) xs) (k : Nat) (hk : k < xs.length) : ∃ b o, A = some ⟨b, o, none⟩ ∧ b < w.heap.size ∧ w.cell? ⟨b, o + k, none⟩ = some (str xs[k]) := by
  obtain ⟨A', c', e, _, _, hh⟩ := h.open
  obtain ⟨rfl, _, _⟩ : A = A' ∧ n = xs.length ∧ c = c' := by simpa using e
  exact hh k hk
end Go.Proofs.YtcfefflnebkjnaaGreatDoor
/- XField9 -/
namespace Go.Proofs.YtcfefflnebkjnaaGreatDoor
open Go.RowKit
theorem tell_cons (go : List (List UInt8) → List UInt8 → Bool) (done : List (List UInt8)) (x : List UInt8) (r : List (List UInt8)) : tell go done (x :: r) = if go done x then tell go (done ++ [x]) r else done ++ [x] := rfl
set_option maxHeartbeats 2000000 in
/-- the inner function: S says what the told items have made of the world -/
theorem tellItems_any (S : List (List UInt8) → World → Prop) (go : List (List UInt8) → List UInt8 → Bool) (fy : Nat) (hcf : ∀ (args : Array Value) (w : World), (callFunc fy args).run Tryz.prog w = .ok (.enter fy args) w) (caps : Array Value) (pc : Addr) (av : Value) (vs : List (List UInt8))
    (hgr : ∀ ys w w', S ys w → Gr w w' → S ys w') (hall : ∀ ys w, S ys w → w.cell? pc = some av ∧ Strs w av vs)
    (hy : ∀ ys x w, S ys w → ys.length < (itemsAll vs).length → Calls Tryz.prog fy (#[str x] ++ caps) w fun e w' => e = .returned (.bool (go ys x)) ∧ S (ys ++ [x]) w')
    (hs : ∀ x ∈ vs, x.length ≤ 1000000) (_hv : vs.length ≤ 1000000) (w : World) (h0 : S [] w) :
    Calls Tryz.prog 136 #[.func (.func fy) #[] caps, .pointer (some pc)] w fun e w' => e = .returned (.tuple #[]) ∧ S (tell go [] (itemsAll vs)) w' := by
  obtain ⟨hp, hst⟩ := hall _ _ h0
  obtain ⟨A, c, rfl, hc, hx, hA⟩ := hst.open
  have HS := Lib.hid hs; have HG := Lib.hid hgr; have HALL := Lib.hid hall; have HY := Lib.hid hy; have H0 := Lib.hid h0
  clear hs hgr hall hy h0 hA hst
  go_enter Tryz.func136, Tryz.ntmps136
  go_wp2_with fail
  go_loopw [4, 5, 6, 7, 10] (fun a4 a5 a6 a7 i wr => ∃ (k : Nat) (ys : List (List UInt8)), k ≤ vs.length ∧ i = .int .i64 k ∧ S ys wr ∧ ys.length + (itemsAll (vs.drop k)).length = (itemsAll vs).length ∧ tell go ys (itemsAll (vs.drop k)) = tell go [] (itemsAll vs)) (fun _ _ _ _ i _ => vs.length - (intOf i).toNat)
  case atStart => exact ⟨0, [], Nat.zero_le _, rfl, H0.out, by simp, rfl⟩
  case round =>
    clear H0 hp
    obtain ⟨k, ys, hk, rfl, hS, hN, hT⟩ := hrel
    have HSS := Lib.hid hS; have HT := Lib.hid hT; have HN := Lib.hid hN
    clear hS hT hN
    obtain ⟨wo, hwo⟩ : ∃ wo : World, wo = wr := ⟨_, rfl⟩
    subst hwo
    by_cases hlt : k < vs.length
    · obtain ⟨b1, o1, rfl, hb1, hc1⟩ := (HALL.out _ _ HSS.out).2.cellAt k hlt
      have hB1 := HS.out _ (List.getElem_mem hlt)
      rw [itemsAll_drop vs k hlt] at HT HN
      go_upto_region 4 with fail
      generalize hv : vs[k] = v at *
      have HV := Lib.hid hv; clear hv
      go_loopw [5, 6, 7] (fun bv a6 a7 wr => ∃ (b : Nat) (ys : List (List UInt8)), b ≤ v.length + 1 ∧ bv = .int .i64 b ∧ S ys wr ∧ ys.length + ((remI v b ++ itemsAll (vs.drop (k + 1))).length) = (itemsAll vs).length ∧ tell go ys (remI v b ++ itemsAll (vs.drop (k + 1))) = tell go [] (itemsAll vs)) (fun bv _ _ _ => v.length + 1 - (intOf bv).toNat)
      case atStart => exact ⟨0, ys, by omega, rfl, HSS.out, by rw [remI_zero]; exact HN.out, by rw [remI_zero]; exact HT.out⟩
      case round =>
        clear HSS HN HT hc1 hb1
        obtain ⟨b, ys, hb, rfl, hS, hN, hT⟩ := hrel
        have HSS := Lib.hid hS
        clear hS
        by_cases hbl : b ≤ v.length
        · rw [remI_step v b hbl] at hN hT
          have hie := iendAt_le v b hbl
          have hib : b ≤ iendAt v b := by unfold iendAt; omega
          have HT := Lib.hid hT; have HN := Lib.hid hN
          clear hN hT
          have hlx : ((v.drop b).take (iendAt v b - b)).length ≤ 1000000 := by rw [List.length_take, List.length_drop]; omega
          have HIT := Lib.hid (fun (w' : World) => itemEnd_any v b w' (by omega) hbl)
          generalize hen : iendAt v b = en at *
          clear hen
          cases he : (trim ((v.drop b).take (en - b))).isEmpty with
          | true =>
            rw [he] at HT HN
            go_wp2_with (first
              | (go_at_call 137; refine (HIT.out _).mono ?_; rintro e w1 ⟨rfl, hG1⟩)
              | (go_at_call 96; refine (trim_any _ _ (by omega)).mono ?_; rintro e w2 ⟨rfl, hG2⟩))
            exact ⟨⟨en + 1, ys, by omega, by go_num, HG.out _ _ _ HSS.out (Gr.tr hG1 hG2), by simpa using HN.out, by simpa using HT.out⟩, by simp [intOf]; omega⟩
          | false =>
            have hT := HT.out
            have hHN := HN.out
            rw [he, if_neg (by simp), List.append_assoc, List.singleton_append] at hT hHN
            simp only [List.length_cons] at hHN
            have HT2 := Lib.hid hT
            clear hT HT HN
            go_wp2_with (first
              | (go_at_call 137; refine (HIT.out _).mono ?_; rintro e w1 ⟨rfl, hG1⟩)
              | (go_at_call 96; refine (trim_any _ _ (by omega)).mono ?_; rintro e w2 ⟨rfl, hG2⟩))
            refine (HY.out ys _ w2 (HG.out _ _ _ HSS.out (Gr.tr hG1 hG2)) (by omega)).mono ?_
            rintro e w3 ⟨rfl, hS3⟩
            have HS3 := Lib.hid hS3; clear hS3
            have hT := HT2.out
            rw [tell_cons] at hT
            cases hgo : go ys (trim ((v.drop b).take (en - b))) with
            | true =>
              rw [hgo, if_pos rfl] at hT
              have HT3 := Lib.hid hT; clear hT HT2
              go_wp2_with fail
              exact ⟨⟨en + 1, ys ++ [trim ((v.drop b).take (en - b))], by omega, by go_num, HS3.out, by rw [List.length_append, List.length_singleton]; omega, HT3.out⟩, by simp [intOf]; omega⟩
            | false =>
              rw [hgo, if_neg (by simp)] at hT
              have HT3 := Lib.hid hT; clear hT HT2
              go_wp2_with fail
              refine bodyPost_ret (results_none rfl _ _ _) rfl ?_
              exact ⟨rfl, by rw [← HT3.out]; exact HS3.out⟩
        · rw [remI_past v b hbl] at hN hT
          have HT := Lib.hid hT; have HN := Lib.hid hN
          clear hN hT
          go_wp2_with fail
          exact ⟨⟨k + 1, ys, by omega, by go_num, HSS.out, by simpa using HN.out, by simpa using HT.out⟩, by simp [intOf]; omega⟩
    · have he : vs.drop k = [] := List.drop_of_length_le (by omega)
      rw [he] at HT
      have HT2 := Lib.hid (show ys = tell go [] (itemsAll vs) from HT.out)
      go_wp2_with fail
      go_end0
      exact ⟨rfl, by rw [← HT2.out]; exact HSS.out⟩
/-- what field.Items makes: a cell that holds a copy of the values, and a function over it -/
def ItemsEnd (w : World) (vs : List (List UInt8)) (e : Ending) (w' : World) : Prop :=
  ∃ g av, e = .returned (.func (.func 136) #[] #[.pointer (some ⟨g, 0, none⟩)]) ∧ w'.cell? ⟨g, 0, none⟩ = some av ∧ Strs w' av vs ∧ Gr w w' ∧ w.heap.size ≤ g ∧ (av.ownBlock = none ∨ ∃ b, av.ownBlock = some b ∧ w.heap.size ≤ b)
set_option maxHeartbeats 2000000 in
theorem items_any (u : Value) (vs : List (List UInt8)) (w : World) (hu : Strs w u vs) (_hv : vs.length ≤ 1000000) : Calls Tryz.prog 78 #[u] w (ItemsEnd w vs) := by
  obtain ⟨A, c, rfl, hc, hx, hA⟩ := hu.open
  have HU := Lib.hid hu
  clear hu hA
  go_enter Tryz.func78, Tryz.ntmps78
  go_wp2_with (at_builtin; refine wpList_appS elemStr rfl _ _ rfl rfl rfl (Nat.le_refl _) (Own.nil w w _ _) HU.out (by simp) (by intro u hu; simp at hu; obtain ⟨x, _, rfl⟩ := hu; rfl) (by omega) (by omega) ?_; intro v' w' hown' happ; rw [Nat.zero_add] at hown'; obtain ⟨A', c', rfl⟩ := hown'.form)
  go_ret
  have hG := happ.gr (Gr.refl w) (Own.nil w w 9 1)
  have hb := Bk.new w' 83 #[.slice A' vs.length c'] (0, 0)
  refine ⟨w'.heap.size, _, rfl, hb.cell 0, (own_str hown' (by simp) (by simp)).gr (Gr.al (Gr.refl _) _), Gr.al hG _, hG.size, ?_⟩
  cases he : (Value.slice A' vs.length c').ownBlock with
  | none => exact .inl he
  | some b => exact .inr ⟨b, he, (World.ownsRow.lt hown' b he).1⟩
end Go.Proofs.YtcfefflnebkjnaaGreatDoor
/- XField10 -/
namespace Go.Proofs.YtcfefflnebkjnaaGreatDoor
open Go.RowKit
theorem Own.set {W0 w : World} {e : TypeId} {size n g : Nat} {v : Value} {xs : List Value} (h : Own W0 w e size v n xs) (hne : v.ownBlock ≠ some g) (i : Nat) (u : Value) : Own W0 (w.setCell ⟨g, i, none⟩ u) e size v n xs := by
  refine ⟨h.1, ?_⟩
  rcases h.2 with hn | ⟨b, cap, cur, hv, hb, hh, r⟩
  · exact .inl hn
  · subst hv
    exact .inr ⟨b, cap, cur, rfl, hb, by rw [Below.heap_setCell _ _ _ _ (by rintro rfl; exact hne rfl)]; exact hh, r⟩
theorem by_app {W0 w w' : World} {e : TypeId} {size n : Nat} {v v' : Value} {xs : List Value} {r : Option Nat} (h : W0.grownBy w r) (ho : Own W0 w e size v n xs) (a : App v v' w w') : W0.grownBy w' r :=
  ⟨a.grown.os.trans h.os, a.grown.tape.trans h.tape, a.grown.output.trans h.output, Nat.le_trans h.size a.grown.size, fun k hk hr => (a.grown.block k (Nat.lt_of_lt_of_le hk h.size) (fun e => by
    have := (World.ownsRow.lt ho k e.symm).1; omega)).trans (h.block k hk hr)⟩
theorem Bk.app {w w' : World} {g t cs fr} {v v' : Value} (h : Bk w g t cs fr) (a : App v v' w w') (hne : v.ownBlock ≠ some g) : Bk w' g t cs fr := (a.grown.block g h.lt (Ne.symm hne)).trans h
/-- what the told items have made: the list that the cell of block g holds -/
def Told (w2 : World) (g : Nat) (ys : List (List UInt8)) (w : World) : Prop := w2.grownBy w (some g) ∧ ∃ v, Bk w g 83 #[v] (0, 0) ∧ Own w2 w 9 1 v ys.length (ys.map str)
theorem Told.gr {w2 : World} {g : Nat} {ys : List (List UInt8)} {w w' : World} (h : Told w2 g ys w) (k : Gr w w') : Told w2 g ys w' := by
  obtain ⟨h1, v, h2, h3⟩ := h
  exact ⟨by_tr h1 k, v, h2.gr k, h3.gr k⟩
theorem ml_of {W : World} (h : W.ShapedOpen Tryz.prog) : Ml W := Tryz.laysM143.s1_3 W h
end Go.Proofs.YtcfefflnebkjnaaGreatDoor
