/- Parts. No conditions but those that each theorem names. -/
import Derived.Test.YtflepnkpihfidaaGreatDoorJClientL
import Derived.Test.YtflepnkpihfidaaGreatDoorJMulti
import Derived.Sort.LotA
import Derived.Shelf.SlSortCmp.Insertion
set_option linter.unusedVariables false
set_option linter.unusedSimpArgs false
namespace Go.Proofs.YtflepnkpihfidaaGreatDoor
open Go.Sort
/-- what is known of a version -/
structure MetaT where
  tag : TagT
  mod : Int
  len : Int
  hv : Int
  fr : Int
  wh : Int
  er : Int
  keys : List (List UInt8)
  ten : List UInt8
  keep : Bool
/-! ### validators, conditions -/
def weakT (a b : TagT) : Bool := tagB a.1 && (tagB b.1 && a.1 == b.1)
def strongT (a b : TagT) : Bool := !a.2 && (!b.2 && weakT a b)
def inT (l : List TagT) (t : TagT) (s : Bool) : Bool := l.any fun x => if s then strongT x t else weakT x t
/-- what the ranges' condition comes to -/
def checkR (q : ReqT) (m : MetaT) : Nat := if q.2.2.1 ≠ [] ∧ q.2.2.2.rg ≠ ([], false) ∧ strongT m.tag q.2.2.2.rg = false then 2 else 1
def checkN (q : ReqT) (m : MetaT) : Nat :=
  if q.2.2.2.no ≠ [] ∨ q.2.2.2.an = true then (if q.2.2.2.an || inT q.2.2.2.no m.tag false then 3 else checkR q m)
  else if 0 ≤ q.2.2.2.si ∧ m.len ≠ -1 ∧ 0 ≤ m.mod ∧ m.mod ≤ q.2.2.2.si then 3 else checkR q m
/-- what a request's conditions come to, of a version that there is -/
def checkL (q : ReqT) (m : MetaT) : Nat :=
  if q.2.2.2.mt ≠ [] ∨ q.2.2.2.am = true then (if q.2.2.2.am || inT q.2.2.2.mt m.tag true then checkN q m else 4)
  else if 0 ≤ q.2.2.2.un ∧ 0 ≤ m.mod ∧ q.2.2.2.un < m.mod then 4 else checkN q m
theorem checkR_le (q : ReqT) (m : MetaT) : 1 ≤ checkR q m ∧ checkR q m ≤ 2 := by unfold checkR; split <;> omega
theorem checkN_le (q : ReqT) (m : MetaT) : 1 ≤ checkN q m ∧ checkN q m ≤ 3 := by
  have := checkR_le q m
  unfold checkN
  repeat' split
  all_goals omega
theorem checkL_le (q : ReqT) (m : MetaT) : 1 ≤ checkL q m ∧ checkL q m ≤ 4 := by
  have := checkN_le q m
  unfold checkL
  repeat' split
  all_goals omega
/-! ### what may be known -/
def keyC (c : UInt8) : Bool := decide (33 ≤ c.toNat) && decide (c.toNat ≤ 126)
def keyB (k : List UInt8) : Bool := decide (1 ≤ k.length) && (decide (k.length ≤ 200) && k.all keyC)
/-- keys, none of them twice -/
def keysB (acc : List (List UInt8)) : List (List UInt8) → Bool
  | [] => true
  | k :: r => (keyB k && !acc.contains k) && keysB (acc ++ [k]) r
def tenC (c : UInt8) : Bool := letterC c || (c == 45 || c == 95)
def tenB (t : List UInt8) : Bool := decide (t.length ≤ 40) && (!([45].isPrefixOf t) && t.all tenC)
def ticksB (n : Int) : Bool := decide (0 ≤ n) && decide (n ≤ 1099511627776)
def metaNum (m : MetaT) : Bool := (decide (-1 ≤ m.mod) && decide (m.mod ≤ 253402300799) && decide (-1 ≤ m.len) && decide (m.len ≤ 1099511627776)) && ((decide (0 ≤ m.hv) && decide (m.hv ≤ 1099511627776) && (decide (m.len = -1) || decide (m.hv = m.len))) && (ticksB m.fr && ticksB m.wh && ticksB m.er))
def metaB (m : MetaT) : Bool := (decide (m.tag = ([], false)) || tagB m.tag.1) && (metaNum m && ((decide (m.keys.length ≤ 32) && tenB m.ten) && keysB [] m.keys))
theorem ticksB_iff {n : Int} : ticksB n = true ↔ 0 ≤ n ∧ n ≤ 1099511627776 := by unfold ticksB; simp
structure MetaOk (m : MetaT) : Prop where
  tag : m.tag = ([], false) ∨ tagB m.tag.1 = true
  mod : -1 ≤ m.mod ∧ m.mod ≤ 253402300799
  len : -1 ≤ m.len ∧ m.len ≤ 1099511627776
  hv : 0 ≤ m.hv ∧ m.hv ≤ 1099511627776
  hl : m.len = -1 ∨ m.hv = m.len
  fr : 0 ≤ m.fr ∧ m.fr ≤ 1099511627776
  wh : 0 ≤ m.wh ∧ m.wh ≤ 1099511627776
  er : 0 ≤ m.er ∧ m.er ≤ 1099511627776
  few : m.keys.length ≤ 32
  ten : tenB m.ten = true
  keys : keysB [] m.keys = true
theorem metaB_iff {m : MetaT} : metaB m = true ↔ MetaOk m := by
  unfold metaB metaNum
  simp only [Bool.and_eq_true, Bool.or_eq_true, decide_eq_true_eq, ticksB_iff, and_assoc]
  constructor
  · rintro ⟨h1, h2, h3, h4, h5, h6, h7, h8, h9, h10, h11, h12, h13, h14, h15, h16, h17⟩
    exact ⟨h1, ⟨h2, h3⟩, ⟨h4, h5⟩, ⟨h6, h7⟩, h8, ⟨h9, h10⟩, ⟨h11, h12⟩, ⟨h13, h14⟩, h15, h16, h17⟩
  · rintro ⟨h1, ⟨h2, h3⟩, ⟨h4, h5⟩, ⟨h6, h7⟩, h8, ⟨h9, h10⟩, ⟨h11, h12⟩, ⟨h13, h14⟩, h15, h16, h17⟩
    exact ⟨h1, h2, h3, h4, h5, h6, h7, h8, h9, h10, h11, h12, h13, h14, h15, h16, h17⟩
/-! ### as fields -/
def etagN : List UInt8 := [69, 84, 97, 103]
def lmodN : List UInt8 := [76, 97, 115, 116, 45, 77, 111, 100, 105, 102, 105, 101, 100]
def ccN : List UInt8 := [67, 97, 99, 104, 101, 45, 67, 111, 110, 116, 114, 111, 108]
def ageN : List UInt8 := [65, 103, 101]
def skeyN : List UInt8 := [83, 117, 114, 114, 111, 103, 97, 116, 101, 45, 75, 101, 121]
def xtenN : List UInt8 := [88, 45, 84, 101, 110, 97, 110, 116]
def xlenN : List UInt8 := [88, 45, 76, 101, 110, 103, 116, 104]
def xhavN : List UInt8 := [88, 45, 72, 97, 118, 101]
def noStN : List UInt8 := [110, 111, 45, 115, 116, 111, 114, 101]
def sMaxN : List UInt8 := [115, 45, 109, 97, 120, 97, 103, 101, 61]
def sWhN : List UInt8 := [115, 116, 97, 108, 101, 45, 119, 104, 105, 108, 101, 45, 114, 101, 118, 97, 108, 105, 100, 97, 116, 101, 61]
def sErN : List UInt8 := [115, 116, 97, 108, 101, 45, 105, 102, 45, 101, 114, 114, 111, 114, 61]
/-- the directives -/
def ctlP (m : MetaT) : List (List UInt8) :=
  (if m.keep then [] else [noStN]) ++ ([sMaxN ++ Lib.itoa m.fr] ++ ((if m.wh = 0 then [] else [sWhN ++ Lib.itoa m.wh]) ++ (if m.er = 0 then [] else [sErN ++ Lib.itoa m.er])))
/-- texts with blanks between -/
def joinB : List (List UInt8) → List UInt8
  | [] => []
  | [t] => t
  | t :: u :: r => t ++ (32 :: joinB (u :: r))
def tagF (m : MetaT) : List Fld := if m.tag = ([], false) then [] else [(etagN, tagTxt m.tag)]
def modF (m : MetaT) : List Fld := if m.mod = -1 then [] else [(lmodN, dateT m.mod.toNat)]
def keyF (m : MetaT) : List Fld := if m.keys = [] then [] else [(skeyN, joinB m.keys)]
def tenF (m : MetaT) : List Fld := if m.ten = [] then [] else [(xtenN, m.ten)]
def lenF (m : MetaT) : List Fld := if m.len = -1 then [(xlenN, [42]), (xhavN, Lib.itoa m.hv)] else [(xlenN, Lib.itoa m.len)]
/-- the fields that say it -/
def metaF (m : MetaT) : List Fld := tagF m ++ (modF m ++ ([(ccN, joinV (ctlP m)), (ageN, [48])] ++ (keyF m ++ (tenF m ++ lenF m))))
/-! ### spans -/
/-- what a range has of so many bytes -/
def bytesS (x : SpecT) (have_ : Int) : Option (Int × Int) :=
  if specB x = true then
    (if x.1 < 0 then (if max (have_ - x.2) 0 < have_ then some (max (have_ - x.2) 0, have_) else none)
     else if 0 ≤ x.2 then (if x.1 < min (x.2 + 1) have_ then some (x.1, min (x.2 + 1) have_) else none)
     else (if x.1 < have_ then some (x.1, have_) else none))
  else none
def resL (l : List SpecT) (have_ : Int) : List (Int × Int) := l.filterMap fun x => bytesS x have_
def sumS (l : List (Int × Int)) : Int := (l.map fun s => s.2 - s.1).sum
def costL (l : List SpecT) (have_ most : Int) : Bool := decide (most < (l.length : Int)) || decide (2 * have_ < sumS (resL l have_))
abbrev FoT := (Int × Int) × Int
def cfFrom (a b : FoT) : Int := Lib.compareInt a.1.1 b.1.1
def cfPlace (a b : FoT) : Int := Lib.compareInt a.2 b.2
/-- a span more: it meets the last one, or stands apart -/
def foldStep (one : List FoT) (f : FoT) : List FoT := match one.getLast? with
  | none => [f]
  | some g => if f.1.1 ≤ g.1.2 then one.dropLast ++ [((g.1.1, max g.1.2 f.1.2), min g.2 f.2)] else one ++ [f]
def placed (l : List (Int × Int)) : List FoT := l.zipIdx.map fun p => (p.1, (p.2 : Int))
def sortBy (cf : FoT → FoT → Int) (l : List FoT) : List FoT := (Go.Sort.insertionSort (ltOf cf) l.toArray 0 l.length).toList
/-- spans made fewer -/
def foldL (l : List (Int × Int)) : List (Int × Int) := (sortBy cfPlace ((sortBy cfFrom (placed l)).foldl foldStep [])).map (·.1)
/-! ### the answer -/
abbrev AnsT := Int × List Fld × List PartT × Int
def kindO : List UInt8 := [97, 112, 112, 108, 105, 99, 97, 116, 105, 111, 110, 47, 111, 99, 116, 101, 116, 45, 115, 116, 114, 101, 97, 109]
def starN : List UInt8 := [98, 121, 116, 101, 115, 32, 42, 47]
/-- the bytes of parts -/
def partLen (p : PartT) : Int := if p.1 = [] then p.2.2 - p.2.1 else (p.1.length : Int)
def sizePs (ps : List PartT) : Int := (ps.map partLen).sum
def partsOf (sp : List (Int × Int)) (m : MetaT) (seed : Int) : List Fld × List PartT := match sp with
  | [s] => ([(crN, contentL s.1 s.2 m.len)], [([], s.1, s.2)])
  | _ => ([(ctN, sevN ++ boundN seed)], partsL m.len kindO (boundN seed) sp)
def rangedL (l : List SpecT) (m : MetaT) (seed : Int) : AnsT :=
  if resL l m.hv = [] then (416, metaF m ++ [(crN, starN ++ Lib.itoa (if m.len = -1 then m.hv else m.len))], [], 0)
  else (206, metaF m ++ (partsOf (foldL (resL l m.hv)) m seed).1, (partsOf (foldL (resL l m.hv)) m seed).2, sizePs (partsOf (foldL (resL l m.hv)) m seed).2)
/-- the whole -/
def fullL (head : Bool) (m : MetaT) : AnsT := (200, metaF m, if head = true ∨ m.len = 0 then [] else [([], 0, if m.len = -1 then 4611686018427387904 else m.len)], m.len)
def shapeL (q : ReqT) (m : MetaT) (oc : Nat) (most seed : Int) : AnsT :=
  if oc = 3 then (304, metaF m, [], 0) else if oc = 4 then (412, metaF m, [], 0)
  else if oc = 1 ∧ q.1 = false ∧ q.2.2.1 ≠ [] ∧ costL q.2.2.1 m.hv most = false then rangedL q.2.2.1 m seed else fullL q.1 m
/-- the spans that a body has -/
def spansP (ps : List PartT) : List (Int × Int) := (ps.filter fun p => p.1.isEmpty).map (·.2)
/-! ### what holds of spans -/
structure InS (n : Int) (s : Int × Int) : Prop where
  lo : 0 ≤ s.1
  lt : s.1 < s.2
  hi : s.2 ≤ n
theorem bytesS_in {x : SpecT} {n : Int} {s : Int × Int} (h : bytesS x n = some s) : InS n s := by
  unfold bytesS at h
  by_cases hx : specB x = true
  · rw [if_pos hx] at h
    have hi := specB_lo hx
    by_cases h1 : x.1 < 0
    · rw [if_pos h1] at h
      split at h
      · cases h; exact ⟨by simp only; omega, by assumption, by simp⟩
      · cases h
    · rw [if_neg h1] at h
      by_cases h2 : 0 ≤ x.2
      · rw [if_pos h2] at h
        split at h
        · cases h; exact ⟨by simp only; omega, by assumption, by simp only; omega⟩
        · cases h
      · rw [if_neg h2] at h
        split at h
        · cases h; exact ⟨by simp only; omega, by assumption, by simp⟩
        · cases h
  · rw [if_neg hx] at h; cases h
theorem resL_in {l : List SpecT} {n : Int} : ∀ s ∈ resL l n, InS n s := fun s hs => by
  obtain ⟨x, _, h⟩ := List.mem_filterMap.1 hs
  exact bytesS_in h
theorem resL_len (l : List SpecT) (n : Int) : (resL l n).length ≤ l.length := List.length_filterMap_le _ _
theorem swoFrom : SWO (ltOf cfFrom) where
  irrefl x := by unfold ltOf cfFrom Lib.compareInt; simp
  trans x y z h1 h2 := by
    unfold ltOf cfFrom Lib.compareInt at *
    simp only [decide_eq_true_eq] at *
    repeat' split at h1
    all_goals repeat' split at h2
    all_goals repeat' split
    all_goals omega
  ntrans x y z h1 h2 := by
    unfold ltOf cfFrom Lib.compareInt at *
    simp only [decide_eq_false_iff_not] at *
    repeat' split at h1
    all_goals repeat' split at h2
    all_goals repeat' split
    all_goals omega
theorem swoPlace : SWO (ltOf cfPlace) where
  irrefl x := by unfold ltOf cfPlace Lib.compareInt; simp
  trans x y z h1 h2 := by
    unfold ltOf cfPlace Lib.compareInt at *
    simp only [decide_eq_true_eq] at *
    repeat' split at h1
    all_goals repeat' split at h2
    all_goals repeat' split
    all_goals omega
  ntrans x y z h1 h2 := by
    unfold ltOf cfPlace Lib.compareInt at *
    simp only [decide_eq_false_iff_not] at *
    repeat' split at h1
    all_goals repeat' split at h2
    all_goals repeat' split
    all_goals omega
theorem sortBy_perm {cf : FoT → FoT → Int} (h : SWO (ltOf cf)) (l : List FoT) : (sortBy cf l).Perm l := by
  have := (insertionSort_holds (lt := ltOf cf) h l.toArray 0 l.length (Nat.zero_le _) (by simp)).1
  obtain ⟨h1, _, h3⟩ := this
  unfold sortBy
  have e : ∀ a : Array FoT, a.size = l.length → (a.extract 0 l.length).toList = a.toList := fun a ha => by rw [← ha]; simp
  rw [e _ (by rw [h1]; simp), e _ (by simp)] at h3
  simpa using h3
theorem placed_fst (l : List (Int × Int)) : (placed l).map (·.1) = l := by
  unfold placed; rw [List.map_map]; simp [Function.comp_def]
theorem foldStep_in {n : Int} {one : List FoT} {f : FoT} (h : ∀ g ∈ one, InS n g.1) (hf : InS n f.1) : ∀ g ∈ foldStep one f, InS n g.1 := by
  unfold foldStep
  rcases nil_or_snoc one with rfl | ⟨t, g, rfl⟩
  · intro x hx; simp at hx; rw [hx]; exact hf
  · rw [List.getLast?_concat]
    simp only
    have hg := h g (by simp)
    split
    · intro x hx
      rw [List.dropLast_concat] at hx
      rcases List.mem_append.1 hx with hx | hx
      · exact h x (by simp [hx])
      · simp at hx; rw [hx]
        exact ⟨hg.lo, by simp only; have := hg.lt; omega, by simp only; have := hg.hi; have := hf.hi; omega⟩
    · intro x hx
      rcases List.mem_append.1 hx with hx | hx
      · exact h x hx
      · simp at hx; rw [hx]; exact hf
theorem foldStep_ne (one : List FoT) (f : FoT) : foldStep one f ≠ [] ∧ (foldStep one f).length ≤ one.length + 1 := by
  unfold foldStep
  rcases nil_or_snoc one with rfl | ⟨t, g, rfl⟩
  · simp
  · rw [List.getLast?_concat]
    simp only
    split
    · rw [List.dropLast_concat]; simp
    · simp
theorem foldAll_in {n : Int} : ∀ (l one : List FoT), (∀ g ∈ one, InS n g.1) → (∀ g ∈ l, InS n g.1) → (∀ g ∈ l.foldl foldStep one, InS n g.1) ∧ (l.foldl foldStep one).length ≤ one.length + l.length ∧ ((one ≠ [] ∨ l ≠ []) → l.foldl foldStep one ≠ [])
  | [], one, h, _ => ⟨h, by simp, fun h => by rcases h with h | h; exact h; exact absurd rfl h⟩
  | f :: l, one, h, hl => by
    have hs := foldStep_ne one f
    obtain ⟨h1, h2, h3⟩ := foldAll_in l (foldStep one f) (foldStep_in h (hl f (by simp))) (fun g hg => hl g (by simp [hg]))
    refine ⟨h1, ?_, fun _ => h3 (.inl hs.1)⟩
    simp only [List.foldl_cons, List.length_cons]; omega
theorem foldL_in {n : Int} {l : List (Int × Int)} (h : ∀ s ∈ l, InS n s) : (∀ s ∈ foldL l, InS n s) ∧ (foldL l).length ≤ l.length ∧ (l ≠ [] → foldL l ≠ []) := by
  have p1 := sortBy_perm swoFrom (placed l)
  have hp : ∀ g ∈ sortBy cfFrom (placed l), InS n g.1 := fun g hg => h _ (by
    have : g.1 ∈ (placed l).map (·.1) := List.mem_map.2 ⟨g, p1.mem_iff.1 hg, rfl⟩
    rwa [placed_fst] at this)
  have hl1 : (sortBy cfFrom (placed l)).length = l.length := by rw [p1.length_eq]; have := congrArg List.length (placed_fst l); simpa using this
  obtain ⟨h1, h2, h3⟩ := foldAll_in (n := n) (sortBy cfFrom (placed l)) [] (by simp) hp
  have p2 := sortBy_perm swoPlace ((sortBy cfFrom (placed l)).foldl foldStep [])
  unfold foldL
  refine ⟨fun s hs => ?_, ?_, fun hl => ?_⟩
  · obtain ⟨g, hg, rfl⟩ := List.mem_map.1 hs
    exact h1 g (p2.mem_iff.1 hg)
  · rw [List.length_map, p2.length_eq]; simp only [List.length_nil, Nat.zero_add] at h2; omega
  · have hne : sortBy cfFrom (placed l) ≠ [] := fun e => by rw [e] at hl1; exact hl (List.eq_nil_of_length_eq_zero hl1.symm)
    have h4 := h3 (.inr hne)
    intro e
    have := congrArg List.length e
    rw [List.length_map, p2.length_eq] at this
    exact h4 (List.eq_nil_of_length_eq_zero this)
theorem sumS_app (a b : List (Int × Int)) : sumS (a ++ b) = sumS a + sumS b := by unfold sumS; simp
theorem sumS_pos {n : Int} {l : List (Int × Int)} (h : ∀ s ∈ l, InS n s) : 0 ≤ sumS l ∧ sumS l ≤ l.length * n := by
  induction l with
  | nil => simp [sumS]
  | cons s l ih =>
    have := ih (fun x hx => h x (List.mem_cons_of_mem _ hx))
    have hs := h s (by simp)
    have h1 := hs.lt; have h2 := hs.lo; have h3 := hs.hi
    simp only [sumS, List.map_cons, List.sum_cons, List.length_cons] at *
    rw [Int.natCast_add, Int.add_mul]
    omega
end Go.Proofs.YtflepnkpihfidaaGreatDoor
namespace Go.Proofs.YtflepnkpihfidaaGreatDoor
theorem spans_parts (tot : Int) (kind bnd : List UInt8) : ∀ (l : List (Int × Int)) (ah : List UInt8), spansP (partsB tot kind bnd l ah ++ [(endL bnd, 0, 0)]) = l
  | [], ah => by simp [partsB, spansP, endL]
  | s :: l, ah => by
    have ih := spans_parts tot kind bnd l [13, 10]
    unfold spansP at *
    have hne : (ptext tot kind bnd ah s).isEmpty = false := by
      have := ptext_ne tot kind bnd ah s
      cases h : ptext tot kind bnd ah s with
      | nil => exact absurd h this
      | cons _ _ => rfl
    simp only [partsB, List.cons_append, List.filter_cons, hne, Bool.false_eq_true, if_false, List.isEmpty_nil, if_true, List.map_cons, ih]
theorem kindO_ok : kindB kindO = true ∧ ∀ c ∈ kindO, c ≠ 13 := by decide
/-! ### of an object's bytes -/
def mS (n : Int) : MetaT := ⟨([118], false), -1, n, n, 5, 0, 0, [], [], true⟩
theorem mS_ok {n : Int} (h : 0 ≤ n) (h2 : n ≤ 80) : MetaOk (mS n) :=
  ⟨.inr (show tagB [118] = true by decide), show (-1 : Int) ≤ -1 ∧ (-1 : Int) ≤ 253402300799 by decide, ⟨by unfold mS; simp only; omega, by unfold mS; simp only; omega⟩, ⟨h, by unfold mS; simp only; omega⟩, .inr rfl, show (0 : Int) ≤ 5 ∧ (5 : Int) ≤ 1099511627776 by decide, show (0 : Int) ≤ 0 ∧ (0 : Int) ≤ 1099511627776 by decide, show (0 : Int) ≤ 0 ∧ (0 : Int) ≤ 1099511627776 by decide, show ([] : List (List UInt8)).length ≤ 32 by decide, show tenB [] = true by decide, rfl⟩
/-- the parts' bytes, and how many they are -/
theorem sizePs_fill {obj : List UInt8} : ∀ {ps : List PartT}, (∀ p ∈ ps, p.1 = [] → 0 ≤ p.2.1 ∧ p.2.1 ≤ p.2.2 ∧ p.2.2 ≤ obj.length) → sizePs ps = ((fillL obj ps).length : Int)
  | [], _ => rfl
  | p :: ps, h => by
    have ih := sizePs_fill (fun q hq => h q (List.mem_cons_of_mem _ hq))
    have hp := h p (by simp)
    unfold sizePs fillL at *
    simp only [List.map_cons, List.sum_cons, List.flatMap_cons, List.length_append, ih]
    unfold partLen
    by_cases h1 : p.1 = []
    · obtain ⟨a, b, c⟩ := hp h1
      rw [if_pos h1, if_pos h1]
      have : (objL obj p.2).length = (p.2.2 - p.2.1).toNat := by unfold objL; rw [List.length_take, List.length_drop]; omega
      rw [this]; omega
    · rw [if_neg h1, if_neg h1]; omega
theorem partsL_in {obj : List UInt8} {tot : Int} {kind bnd : List UInt8} {l : List (Int × Int)} (h : ∀ s ∈ l, InS obj.length s) : ∀ (ah : List UInt8), ∀ p ∈ partsB tot kind bnd l ah ++ [(endL bnd, 0, 0)], p.1 = [] → 0 ≤ p.2.1 ∧ p.2.1 ≤ p.2.2 ∧ p.2.2 ≤ (obj.length : Int) := by
  induction l with
  | nil =>
    intro ah p hp h1
    simp [partsB] at hp
    subst hp
    exact absurd h1 (endL_ne bnd)
  | cons s l ih =>
    intro ah p hp h1
    simp only [partsB, List.cons_append, List.mem_cons] at hp
    rcases hp with rfl | rfl | hp
    · exact absurd h1 (ptext_ne tot kind bnd ah s)
    · have := h s (by simp)
      exact ⟨this.lo, by have := this.lt; simp only; omega, this.hi⟩
    · exact ih (fun x hx => h x (List.mem_cons_of_mem _ hx)) [13, 10] p hp h1
theorem bodyL_len {tot : Int} {kind bnd obj : List UInt8} : ∀ (l : List (Int × Int)) (ah : List UInt8), (bodyL tot kind bnd obj l ah).length ≤ l.length * (obj.length + bnd.length + kind.length + 200) + ah.length + bnd.length + 20
  | [], ah => by rw [bodyL_nil]; unfold endT; simp; omega
  | s :: l, ah => by
    have ih := bodyL_len (tot := tot) (kind := kind) (bnd := bnd) (obj := obj) l [13, 10]
    have hc := cont_len s.1 s.2 tot
    have ho : (objL obj s).length ≤ obj.length := by unfold objL; rw [List.length_take, List.length_drop]; omega
    rw [bodyL_cons]
    unfold segH
    simp only [List.length_append, List.length_cons, List.length_nil, Nat.add_mul, Nat.one_mul] at ih ⊢
    have ht : typeN.length ≤ 20 := by decide
    have hr : rangeN.length ≤ 20 := by decide
    omega
theorem contB_in {n : Int} {s : Int × Int} (h : InS n s) (hn : n ≤ 1000000) : contB s.1 s.2 n = true := by
  have h1 := h.lo; have h2 := h.lt; have h3 := h.hi
  unfold contB spanB
  simp; omega
end Go.Proofs.YtflepnkpihfidaaGreatDoor
namespace Go.Proofs.YtflepnkpihfidaaGreatDoor
/-- the place of the first span that ends behind a byte, as a search by halves finds it -/
def behindG (S : List (Int × Int)) (at_ : Int) : Nat → Nat → Nat → Nat
  | 0, lo, _ => lo
  | f + 1, lo, hi => if lo < hi then (if at_ < (S.getD (lo + (hi - lo) / 2) (0, 0)).2 then behindG S at_ f lo (lo + (hi - lo) / 2) else behindG S at_ f (lo + (hi - lo) / 2 + 1) hi) else lo
def behindL (S : List (Int × Int)) (at_ : Int) : Nat := behindG S at_ S.length 0 S.length
theorem behindG_fuel (S : List (Int × Int)) (a : Int) : ∀ (f g lo hi : Nat), hi - lo ≤ f → hi - lo ≤ g → behindG S a f lo hi = behindG S a g lo hi
  | 0, 0, _, _, _, _ => rfl
  | 0, g + 1, lo, hi, h, _ => by
    have : ¬ lo < hi := by omega
    rw [behindG, behindG, if_neg this]
  | f + 1, 0, lo, hi, _, h => by
    have : ¬ lo < hi := by omega
    rw [behindG, behindG, if_neg this]
  | f + 1, g + 1, lo, hi, h1, h2 => by
    rw [behindG, behindG]
    by_cases h : lo < hi
    · rw [if_pos h, if_pos h]
      split
      · exact behindG_fuel S a f g _ _ (by omega) (by omega)
      · exact behindG_fuel S a f g _ _ (by omega) (by omega)
    · rw [if_neg h, if_neg h]
theorem behindG_ok (S : List (Int × Int)) (a : Int) : ∀ (f lo hi : Nat), hi - lo ≤ f → lo ≤ hi → hi ≤ S.length → (hi = S.length ∨ a < (S.getD hi (0, 0)).2) → behindG S a f lo hi ≤ S.length ∧ (behindG S a f lo hi = S.length ∨ a < (S.getD (behindG S a f lo hi) (0, 0)).2)
  | 0, lo, hi, h, h1, h2, h3 => by
    have : lo = hi := by omega
    subst this
    exact ⟨h2, h3⟩
  | f + 1, lo, hi, h, h1, h2, h3 => by
    rw [behindG]
    by_cases hl : lo < hi
    · rw [if_pos hl]
      split
      · exact behindG_ok S a f _ _ (by omega) (by omega) (by omega) (.inr (by assumption))
      · exact behindG_ok S a f _ _ (by omega) (by omega) h2 h3
    · rw [if_neg hl]
      have : lo = hi := by omega
      subst this
      exact ⟨h2, h3⟩
theorem behindL_ok (S : List (Int × Int)) (a : Int) : behindL S a ≤ S.length ∧ (behindL S a = S.length ∨ a < (S.getD (behindL S a) (0, 0)).2) :=
  behindG_ok S a S.length 0 S.length (by omega) (by omega) (Nat.le_refl _) (.inl rfl)
/-- the first span of a set from a byte on -/
def firstS (S : List (Int × Int)) (a : Int) : Option (Int × Int) := if behindL S a < S.length then some (max a (S.getD (behindL S a) (0, 0)).1, (S.getD (behindL S a) (0, 0)).2) else none
/-- is all of a span in a set? -/
def holdsL (S : List (Int × Int)) (x : Int × Int) : Bool := spanB x.1 x.2 && (decide (x.1 = x.2) || (decide (behindL S x.1 < S.length) && (decide ((S.getD (behindL S x.1) (0, 0)).1 ≤ x.1) && decide (x.2 ≤ (S.getD (behindL S x.1) (0, 0)).2))))
/-- as much of a part, from its beginning on, as is there -/
def readyL (S : List (Int × Int)) (p : PartT) : Option PartT := if p.1 ≠ [] then some p else match firstS S p.2.1 with
  | none => none
  | some run => if run.1 ≠ p.2.1 then none else some ([], p.2.1, min p.2.2 run.2)
/-- what can be told next: it, what is left, how many bytes -/
def nextL (l : List PartT) (S : List (Int × Int)) (most : Int) : Option (PartT × List PartT × Int) := match l with
  | [] => none
  | p :: r => match readyL S p with
    | none => none
    | some t => if p.1 ≠ [] then some ((p.1.take (min (p.1.length : Int) most).toNat, p.2), (if p.1.drop (min (p.1.length : Int) most).toNat = [] then r else (p.1.drop (min (p.1.length : Int) most).toNat, p.2) :: r), min (p.1.length : Int) most)
      else some (([], t.2.1, t.2.1 + min (t.2.2 - t.2.1) most), (if t.2.1 + min (t.2.2 - t.2.1) most = p.2.2 then r else ([], t.2.1 + min (t.2.2 - t.2.1) most, p.2.2) :: r), min (t.2.2 - t.2.1) most)
/-- parts of an object's bytes -/
def PartsIn (obj : List UInt8) (l : List PartT) : Prop := ∀ p ∈ l, p.1 = [] → 0 ≤ p.2.1 ∧ p.2.1 < p.2.2 ∧ p.2.2 ≤ obj.length
def toldB (obj : List UInt8) (t : PartT) : List UInt8 := if t.1 = [] then objL obj t.2 else t.1
theorem fillL_cons (obj : List UInt8) (p : PartT) (l : List PartT) : fillL obj (p :: l) = toldB obj p ++ fillL obj l := rfl
theorem objL_split (obj : List UInt8) {f m t : Int} (h0 : 0 ≤ f) (h1 : f ≤ m) (h2 : m ≤ t) : objL obj (f, t) = objL obj (f, m) ++ objL obj (m, t) := by
  unfold objL
  simp only
  have e : (t - f).toNat = (m - f).toNat + (t - m).toNat := by omega
  have e2 : m.toNat = f.toNat + (m - f).toNat := by omega
  rw [e, List.take_add, List.drop_drop, e2]
structure NextOk (obj : List UInt8) (l : List PartT) (S : List (Int × Int)) (t : PartT) (l' : List PartT) (n : Int) : Prop where
  bytes : fillL obj l = toldB obj t ++ fillL obj l'
  len : ((toldB obj t).length : Int) = n
  left : PartsIn obj l'
  few : l'.length ≤ l.length
  span : t.1 = [] → holdsL S t.2 = true ∧ 0 ≤ t.2.1 ∧ t.2.1 < t.2.2 ∧ t.2.2 ≤ obj.length
theorem readyL_span {S : List (Int × Int)} {p t : PartT} (h : readyL S p = some t) (hp : p.1 = []) : t.1 = [] ∧ t.2.1 = p.2.1 ∧ t.2.2 ≤ p.2.2 ∧ behindL S p.2.1 < S.length ∧ (S.getD (behindL S p.2.1) (0, 0)).1 ≤ p.2.1 ∧ t.2.2 ≤ (S.getD (behindL S p.2.1) (0, 0)).2 ∧ (p.2.1 < p.2.2 → p.2.1 < t.2.2) := by
  unfold readyL at h
  rw [if_neg (by simp [hp])] at h
  unfold firstS at h
  by_cases hb : behindL S p.2.1 < S.length
  · rw [if_pos hb] at h
    simp only at h
    have hk := (behindL_ok S p.2.1).2
    split at h
    · cases h
    · rename_i hr
      cases h
      have hk' : p.2.1 < (S.getD (behindL S p.2.1) (0, 0)).2 := by rcases hk with hk | hk; omega; exact hk
      have hr2 : max p.2.1 (S.getD (behindL S p.2.1) (0, 0)).1 = p.2.1 := Decidable.not_not.1 hr
      show _ ∧ _ ∧ min p.2.2 (S.getD (behindL S p.2.1) (0, 0)).2 ≤ p.2.2 ∧ _ ∧ _ ∧ min p.2.2 (S.getD (behindL S p.2.1) (0, 0)).2 ≤ _ ∧ (_ → p.2.1 < min p.2.2 (S.getD (behindL S p.2.1) (0, 0)).2)
      refine ⟨rfl, rfl, by omega, hb, by omega, by omega, fun h => by omega⟩
  · rw [if_neg hb] at h; cases h
theorem nextL_ok {obj : List UInt8} {l : List PartT} {S : List (Int × Int)} {most : Int} {t : PartT} {l' : List PartT} {n : Int} (hl : PartsIn obj l) (hm : 1 ≤ most) (ho : obj.length ≤ 1000000) (h : nextL l S most = some (t, l', n)) : NextOk obj l S t l' n := by
  cases l with
  | nil => cases h
  | cons p r =>
    unfold nextL at h
    simp only at h
    have hr : PartsIn obj r := fun x hx => hl x (List.mem_cons_of_mem _ hx)
    cases hy : readyL S p with
    | none => rw [hy] at h; cases h
    | some y =>
      rw [hy] at h
      simp only at h
      by_cases hp : p.1 = []
      · rw [if_neg (by simp [hp])] at h
        obtain ⟨y1, y2, y3, y4, y5, y6, y7⟩ := readyL_span hy hp
        obtain ⟨i0, i1, i2⟩ := hl p (by simp) hp
        have y7 := y7 i1
        simp only [Option.some.injEq, Prod.mk.injEq] at h
        obtain ⟨rfl, rfl, rfl⟩ := h
        rw [y2]
        generalize hm2 : min (y.2.2 - p.2.1) most = k
        have hk1 : 1 ≤ k := by omega
        have hk2 : k ≤ y.2.2 - p.2.1 := by omega
        clear hm2
        have e1 : toldB obj ([], p.2.1, p.2.1 + k) = objL obj (p.2.1, p.2.1 + k) := by unfold toldB; rw [if_pos rfl]
        have e2 : toldB obj p = objL obj (p.2.1, p.2.2) := by unfold toldB; rw [if_pos hp]
        have hsp := objL_split obj (f := p.2.1) (m := p.2.1 + k) (t := p.2.2) i0 (by omega) (by omega)
        have hlen : ((objL obj (p.2.1, p.2.1 + k)).length : Int) = k := by
          unfold objL; rw [List.length_take, List.length_drop]; simp only; omega
        refine ⟨?_, by rw [e1]; exact hlen, ?_, ?_, fun _ => ⟨?_, by simp only; omega, by simp only; omega, by simp only; omega⟩⟩
        · rw [fillL_cons, e1, e2, hsp, List.append_assoc]
          congr 1
          split
          · rename_i he
            have : objL obj (p.2.1 + k, p.2.2) = [] := by unfold objL; simp only; rw [he]; simp
            rw [this]; rfl
          · rw [fillL_cons]; unfold toldB; rw [if_pos rfl]
        · split
          · exact hr
          · intro x hx hx1
            rcases List.mem_cons.1 hx with rfl | hx
            · simp only at *; omega
            · exact hr x hx hx1
        · split <;> simp
        · unfold holdsL spanB
          simp only [Bool.and_eq_true, Bool.or_eq_true, decide_eq_true_eq]
          exact ⟨⟨by omega, by omega, by omega⟩, .inr ⟨y4, y5, by omega⟩⟩
      · rw [if_pos hp] at h
        simp only [Option.some.injEq, Prod.mk.injEq] at h
        obtain ⟨rfl, rfl, rfl⟩ := h
        have hpl : 0 < p.1.length := List.length_pos_iff.2 hp
        generalize hm2 : min (p.1.length : Int) most = k
        have hk1 : 1 ≤ k := by omega
        have hk2 : k ≤ p.1.length := by omega
        obtain ⟨K, rfl⟩ : ∃ K : Nat, k = K := ⟨k.toNat, by omega⟩
        clear hm2
        simp only [Int.toNat_natCast]
        have hne : p.1.take K ≠ [] := by
          intro e
          have := congrArg List.length e
          rw [List.length_take] at this; simp only [List.length_nil] at this; omega
        have e1 : toldB obj (p.1.take K, p.2) = p.1.take K := by unfold toldB; rw [if_neg hne]
        have e2 : toldB obj p = p.1 := by unfold toldB; rw [if_neg hp]
        have hk3 : K ≤ p.1.length := by exact_mod_cast hk2
        have e3 : (p.1.take K).length = K := by rw [List.length_take, Nat.min_eq_left hk3]
        refine ⟨?_, by rw [e1, e3], ?_, ?_, fun h => absurd h hne⟩
        · rw [fillL_cons, e1, e2]
          conv => lhs; rw [← List.take_append_drop K p.1, List.append_assoc]
          congr 1
          split
          · rename_i he; rw [he]; rfl
          · rename_i he; rw [fillL_cons]; unfold toldB; rw [if_neg he]
        · split
          · exact hr
          · rename_i he
            intro x hx hx1
            rcases List.mem_cons.1 hx with rfl | hx
            · exact absurd hx1 he
            · exact hr x hx hx1
        · split <;> simp
/-- spans, one behind the other, each two that touch made one -/
def gatherStep (out : List (Int × Int)) (x : Int × Int) : List (Int × Int) := match out.getLast? with
  | none => [x]
  | some g => if x.1 ≤ g.2 then out.dropLast ++ [(g.1, max g.2 x.2)] else out ++ [x]
def gatherL (l : List (Int × Int)) : List (Int × Int) := l.foldl gatherStep []
theorem gatherStep_len (out : List (Int × Int)) (x : Int × Int) : (gatherStep out x).length ≤ out.length + 1 := by
  unfold gatherStep
  rcases nil_or_snoc out with rfl | ⟨t, g, rfl⟩
  · simp
  · rw [List.getLast?_concat]
    simp only
    split
    · rw [List.dropLast_concat]; simp
    · simp
theorem gather_len : ∀ (l out : List (Int × Int)), (l.foldl gatherStep out).length ≤ out.length + l.length
  | [], out => by simp
  | x :: l, out => by
    have := gather_len l (gatherStep out x)
    have := gatherStep_len out x
    simp only [List.foldl_cons, List.length_cons]; omega
end Go.Proofs.YtflepnkpihfidaaGreatDoor
namespace Go.Proofs.YtflepnkpihfidaaGreatDoor
end Go.Proofs.YtflepnkpihfidaaGreatDoor
namespace Go.Proofs.YtflepnkpihfidaaGreatDoor
/-- what a Cache-Control value says; -1: nothing -/
structure RuleT where
  mx : Int
  sh : Int
  wh : Int
  er : Int
  ns : Bool
  nc : Bool
  pv : Bool
def maxAN : List UInt8 := [109, 97, 120, 45, 97, 103, 101]
def shAN : List UInt8 := [115, 45, 109, 97, 120, 97, 103, 101]
def whAN : List UInt8 := [115, 116, 97, 108, 101, 45, 119, 104, 105, 108, 101, 45, 114, 101, 118, 97, 108, 105, 100, 97, 116, 101]
def erAN : List UInt8 := [115, 116, 97, 108, 101, 45, 105, 102, 45, 101, 114, 114, 111, 114]
/-! ### numbers -/
/-! ### the directives of a version -/
theorem sMax_eq (x : Int) : sMaxN ++ Lib.itoa x = shAN ++ 61 :: Lib.itoa x := rfl
theorem sWh_eq (x : Int) : sWhN ++ Lib.itoa x = whAN ++ 61 :: Lib.itoa x := rfl
theorem sEr_eq (x : Int) : sErN ++ Lib.itoa x = erAN ++ 61 :: Lib.itoa x := rfl
/-- the rule of a version's ticks -/
def ruleM (m : MetaT) : RuleT := ⟨-1, m.fr, if m.wh = 0 then -1 else m.wh, if m.er = 0 then -1 else m.er, !m.keep, false, false⟩
/-! ### what the fields say -/
/-! ### keys -/
theorem keysB_all : ∀ (l acc : List (List UInt8)), keysB acc l = true → ∀ k ∈ l, keyB k = true
  | [], _, _, k, hk => by cases hk
  | x :: l, acc, h, k, hk => by
    rw [keysB] at h
    simp only [Bool.and_eq_true] at h
    rcases List.mem_cons.1 hk with rfl | hk
    · exact h.1.1
    · exact keysB_all l _ h.2 k hk
end Go.Proofs.YtflepnkpihfidaaGreatDoor
