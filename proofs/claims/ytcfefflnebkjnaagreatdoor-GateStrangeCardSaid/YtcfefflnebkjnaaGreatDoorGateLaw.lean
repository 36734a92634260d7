/- Plain mathematics of layer 45: requests as bytes, read back, cut off, and strange ones. No conditions. -/
import Derived.Test.YtcfefflnebkjnaaGreatDoorJHead3
import Derived.Test.YtcfefflnebkjnaaGreatDoorJReq
import Derived.Test.YtcfefflnebkjnaaGreatDoorGate1
set_option linter.unusedVariables false
set_option linter.unusedSimpArgs false
namespace Go.Proofs.YtcfefflnebkjnaaGreatDoor
def rngN : List UInt8 := [82, 97, 110, 103, 101]
abbrev ReqT := Bool × List UInt8 × List SpecT × CondT
def ReqT.zero : ReqT := (false, [], [], CondT.zero)
/-- the ranges that are heeded of the values of a name -/
def rngV (vs : List (List UInt8)) : List SpecT := match vs with
  | [v] => if (specP v).2 = 0 then (specP v).1 else []
  | _ => []
/-- the request of a head -/
def askF (T : HeadT) (n : Nat) : ReqT × Nat × Nat :=
  if ofN T.2.2.2 codingN ≠ [] then (ReqT.zero, 0, 2)
  else if (ofN T.2.2.2 lengthN).all (· == [48]) = false then (ReqT.zero, 0, 2)
  else if (condP T.2.2.2).2 ≠ 0 then (ReqT.zero, 0, (condP T.2.2.2).2)
  else ((T.1 == headB, T.2.1, rngV (ofN T.2.2.2 rngN), (condP T.2.2.2).1), n, 0)
/-- the request of bytes -/
def askQ (s : List UInt8) : ReqT × Nat × Nat := if (askR s).2.2 = 0 then askF (askR s).1 (askR s).2.1 else (ReqT.zero, 0, (askR s).2.2)
/-- may a request be? -/
def reqB (q : ReqT) : Bool := ((objB q.2.1 && decide (q.2.2.1.length ≤ 64)) && condB q.2.2.2) && q.2.2.1.all specB
def fldsS (l : List SpecT) : List Fld := if l = [] then [] else [(rngN, specTx l)]
def reqF (q : ReqT) : List Fld := fldsS q.2.2.1 ++ condF q.2.2.2
def reqH (q : ReqT) : HeadT := (if q.1 then headB else getB, q.2.1, 0, reqF q)
/-- a request's bytes -/
def putQ (q : ReqT) : List UInt8 × Nat := if reqB q then putH (reqH q) else ([], 1)
theorem reqB_iff {q : ReqT} : reqB q = true ↔ objB q.2.1 = true ∧ q.2.2.1.length ≤ 64 ∧ condB q.2.2.2 = true ∧ q.2.2.1.all specB = true := by
  unfold reqB; simp only [Bool.and_eq_true, decide_eq_true_eq, and_assoc]
theorem ofN_fldsS (l : List SpecT) (n : List UInt8) : ofN (fldsS l) n = if alike rngN n = true ∧ l ≠ [] then [specTx l] else [] := by
  unfold fldsS
  by_cases h : l = []
  · rw [if_pos h, if_neg (fun h' => h'.2 h)]; rfl
  · rw [if_neg h, ofN_one]
    simp [h]
theorem reqF_other (q : ReqT) (n : List UInt8) (h0 : alike rngN n = false) (h1 : alike nMatch n = false) (h2 : alike nNone n = false) (h3 : alike nUnmod n = false) (h4 : alike nMod n = false) (h5 : alike nIfR n = false) : ofN (reqF q) n = [] := by
  unfold reqF
  rw [ofN_app, ofN_fldsS, condF_other q.2.2.2 n h1 h2 h3 h4 h5, h0]; simp
theorem reqF_cond (q : ReqT) (n : List UInt8) (h0 : alike rngN n = false) : ofN (reqF q) n = ofN (condF q.2.2.2) n := by
  unfold reqF
  rw [ofN_app, ofN_fldsS, h0]; simp
theorem reqF_range (q : ReqT) : ofN (reqF q) rngN = if q.2.2.1 = [] then [] else [specTx q.2.2.1] := by
  unfold reqF
  rw [ofN_app, ofN_fldsS, condF_other q.2.2.2 rngN (by decide) (by decide) (by decide) (by decide) (by decide), show alike rngN rngN = true by decide]
  by_cases h : q.2.2.1 = []
  · simp [h]
  · simp [h]
theorem rngV_back {l : List SpecT} (h : l.all specB = true) (hl : l.length ≤ 64) : rngV (if l = [] then [] else [specTx l]) = l := by
  by_cases hn : l = []
  · rw [if_pos hn, hn]; rfl
  · rw [if_neg hn]
    show (if (specP (specTx l)).2 = 0 then (specP (specTx l)).1 else []) = l
    rw [specP_back hn (fun t ht => List.all_eq_true.1 h t ht) hl]
    rfl
/-- a head whose fields hold a request's conditions, and no body -/
theorem askF_of {c : CondT} {T : HeadT} {n : Nat} (hc : condB c = true) (h1 : ofN T.2.2.2 codingN = []) (h2 : (ofN T.2.2.2 lengthN).all (· == [48]) = true)
    (k1 : ofN T.2.2.2 nMatch = ofN (condF c) nMatch) (k2 : ofN T.2.2.2 nNone = ofN (condF c) nNone) (k3 : ofN T.2.2.2 nUnmod = ofN (condF c) nUnmod) (k4 : ofN T.2.2.2 nMod = ofN (condF c) nMod) (k5 : ofN T.2.2.2 nIfR = ofN (condF c) nIfR) :
    askF T n = ((T.1 == headB, T.2.1, rngV (ofN T.2.2.2 rngN), c), n, 0) := by
  unfold askF
  rw [condP_of hc k1 k2 k3 k4 k5, h1, h2]
  simp
theorem askF_back {q : ReqT} (h : reqB q = true) (n : Nat) : askF (reqH q) n = (q, n, 0) := by
  obtain ⟨h1, h2, h3, h4⟩ := reqB_iff.1 h
  rw [askF_of (T := reqH q) h3 (reqF_other q codingN (by decide) (by decide) (by decide) (by decide) (by decide) (by decide)) (by show (ofN (reqF q) lengthN).all _ = true; rw [reqF_other q lengthN (by decide) (by decide) (by decide) (by decide) (by decide) (by decide)]; rfl)
    (reqF_cond q _ (by decide)) (reqF_cond q _ (by decide)) (reqF_cond q _ (by decide)) (reqF_cond q _ (by decide)) (reqF_cond q _ (by decide))]
  show ((_ == headB, q.2.1, rngV (ofN (reqF q) rngN), q.2.2.2), n, 0) = (q, n, 0)
  rw [reqF_range, rngV_back h4 h2]
  obtain ⟨b, o, l, c⟩ := q
  cases b <;> rfl
theorem putQ_ok {q : ReqT} (h : (putQ q).2 = 0) : reqB q = true ∧ putQ q = putH (reqH q) ∧ (putH (reqH q)).2 = 0 := by
  unfold putQ at *
  cases hb : reqB q with
  | false => rw [hb] at h; cases h
  | true => rw [hb] at h; exact ⟨rfl, rfl, h⟩
theorem putQ_bad {q : ReqT} (h : (putQ q).2 ≠ 0) : (putQ q).1 = [] := by
  unfold putQ at *
  cases hb : reqB q with
  | false => rfl
  | true =>
    rw [hb, if_pos rfl] at h
    rw [if_pos rfl]
    cases hT : (tellsB (reqH q).1 (reqH q).2.1 (reqH q).2.2.1 || asksB (reqH q).1 (reqH q).2.1 (reqH q).2.2.1) with
    | false => rw [Bool.or_eq_false_iff] at hT; rw [putH_none hT.1 hT.2]
    | true =>
      by_cases hz : (put (reqH q).2.2.2).2 = 0
      · rw [putH_good hT hz] at h; exact absurd rfl h
      · rw [putH_bad hT hz]
/-- what is put is read as it was -/
theorem askQ_back {q : ReqT} (h : (putQ q).2 = 0) (more : List UInt8) : askQ ((putQ q).1 ++ more) = (q, (putQ q).1.length, 0) := by
  obtain ⟨hb, he, hz⟩ := putQ_ok h
  have hk := back_eq (reqH q) more hz
  rw [if_pos (show (reqH q).2.2.1 = 0 from rfl)] at hk
  unfold askQ
  rw [he, hk]
  exact askF_back hb _
/-- cut off, it needs more -/
theorem askQ_cut {q : ReqT} (h : (putQ q).2 = 0) (k : Nat) (hk : k < (putQ q).1.length) : askQ ((putQ q).1.take k) = (ReqT.zero, 0, 3) := by
  obtain ⟨hb, he, hz⟩ := putQ_ok h
  rw [he] at hk
  have hk := cut_eq (reqH q) k hz hk
  rw [if_pos (show (reqH q).2.2.1 = 0 from rfl)] at hk
  unfold askQ
  rw [he, hk]
  rfl
theorem lines_app (a b : List Fld) : lines (a ++ b) = lines a ++ lines b := by unfold lines; rw [List.flatMap_append]
theorem bulk2_app (a b : List Fld) : bulk2 (a ++ b) = bulk2 a + bulk2 b := by unfold bulk2; simp
/-- further fields ahead of a head's end -/
theorem askR_more {T : HeadT} (h : (putH T).2 = 0) (h0 : T.2.2.1 = 0) (X : List Fld) (hr : X.all right = true) (hn : T.2.2.2.length + X.length ≤ 100) (hb : bulk2 T.2.2.2 + bulk2 X ≤ 60000) :
    askR ((putH T).1.take ((putH T).1.length - 2) ++ (lines X ++ [13, 10])) = ((T.1, T.2.1, T.2.2.1, T.2.2.2 ++ X), (putH T).1.length + (lines X).length, 0) := by
  obtain ⟨hb', he, hrT, hnT, hlT⟩ := putH_ok h
  rw [he]
  have e1 : (lineP T ++ 13 :: 10 :: block T.2.2.2) = (lineP T ++ 13 :: 10 :: lines T.2.2.2) ++ [13, 10] := by unfold block; simp
  have e2 : (lineP T ++ 13 :: 10 :: block T.2.2.2).take ((lineP T ++ 13 :: 10 :: block T.2.2.2).length - 2) = lineP T ++ 13 :: 10 :: lines T.2.2.2 := by
    rw [e1, List.length_append, show ([13, 10] : List UInt8).length = 2 from rfl, Nat.add_sub_cancel, List.take_left]
  have e3 : (lineP T ++ 13 :: 10 :: lines T.2.2.2) ++ (lines X ++ [13, 10]) = lineP T ++ 13 :: 10 :: (block (T.2.2.2 ++ X) ++ []) := by
    unfold block; rw [lines_app]; simp
  have hbl : (block (T.2.2.2 ++ X)).length ≤ 65536 := by rw [block_len, lines_len, bulk2_app, List.length_append]; omega
  simp only
  rw [e2, e3]
  have ht : tellsB T.1 T.2.1 T.2.2.1 = false := by
    cases hq : tellsB T.1 T.2.1 T.2.2.1 with
    | false => rfl
    | true => have := (tells_of hq).2.2.1; omega
  have ha : asksB T.1 T.2.1 T.2.2.1 = true := by rw [ht, Bool.false_or] at hb'; exact hb'
  rw [askR_some (line_first hb' _) (ask_line ht ha), rest_back _ _ _ _ _ _ (by rw [List.all_append, hrT, hr]; rfl) (by rw [List.length_append]; omega) hbl, h0]
  have e5 : (lineP T).length + 2 + (block (T.2.2.2 ++ X)).length = (lineP T ++ 13 :: 10 :: block T.2.2.2).length + (lines X).length := by
    rw [block_len, lines_app]; unfold block; simp; omega
  rw [e5]
theorem ofN_coding (v : List UInt8) : ofN [(codingN, v)] codingN = [v] := by rw [ofN_one]; rfl
/-- a request with more fields -/
theorem askQ_more {q : ReqT} (h : (putQ q).2 = 0) (X : List Fld) (hr : X.all right = true) (hn : (reqF q).length + X.length ≤ 100) (hb : bulk2 (reqF q) + bulk2 X ≤ 60000) :
    askQ ((putQ q).1.take ((putQ q).1.length - 2) ++ (lines X ++ [13, 10])) = askF ((reqH q).1, q.2.1, 0, reqF q ++ X) ((putQ q).1.length + (lines X).length) := by
  obtain ⟨hq, he, hz⟩ := putQ_ok h
  have hk := askR_more (T := reqH q) hz rfl X hr hn hb
  unfold askQ
  rw [he, hk]
  rfl
theorem askF_coding (m o : List UInt8) (q : ReqT) (v : List UInt8) (n : Nat) : askF (m, o, 0, reqF q ++ [(codingN, v)]) n = (ReqT.zero, 0, 2) := by
  unfold askF
  rw [if_pos]
  rw [ofN_app, ofN_coding]; simp
theorem askF_length (m o : List UInt8) (q : ReqT) (nm v : List UInt8) (n : Nat) (h1 : alike nm lengthN = true) (h2 : alike nm codingN = false) (hv : v ≠ [48]) : askF (m, o, 0, reqF q ++ [(nm, v)]) n = (ReqT.zero, 0, 2) := by
  unfold askF
  simp only
  rw [if_neg, if_pos]
  · rw [ofN_app, ofN_one, if_pos h1, List.all_append]; simp [hv]
  · rw [ofN_app, ofN_one, h2, reqF_other q codingN (by decide) (by decide) (by decide) (by decide) (by decide) (by decide)]; simp
theorem askF_ranges (q : ReqT) (v1 v2 : List UInt8) (n : Nat) (h : reqB q = true) : askF ((reqH q).1, q.2.1, 0, reqF q ++ [(rngN, v1), (rngN, v2), (lengthN, [48])]) n = ((q.1, q.2.1, [], q.2.2.2), n, 0) := by
  obtain ⟨h1, h2, h3, h4⟩ := reqB_iff.1 h
  have ho : ∀ m : List UInt8, ofN [(rngN, v1), (rngN, v2), (lengthN, [48])] m = (if alike rngN m then [v1, v2] else []) ++ (if alike lengthN m then [[48]] else []) := by
    intro m; unfold ofN
    cases e1 : alike rngN m <;> cases e2 : alike lengthN m <;> simp [e1, e2]
  have hc : ∀ m : List UInt8, alike rngN m = false → alike lengthN m = false → ofN (reqF q ++ [(rngN, v1), (rngN, v2), (lengthN, [48])]) m = ofN (condF q.2.2.2) m := by
    intro m k1 k2; rw [ofN_app, ho, k1, k2, reqF_cond q m k1]; simp
  rw [askF_of (c := q.2.2.2) (T := ((reqH q).1, q.2.1, 0, reqF q ++ [(rngN, v1), (rngN, v2), (lengthN, [48])])) h3
    (by show ofN (reqF q ++ _) codingN = []; rw [hc codingN (by decide) (by decide)]; exact condF_other _ _ (by decide) (by decide) (by decide) (by decide) (by decide))
    (by show (ofN (reqF q ++ _) lengthN).all _ = true; rw [ofN_app, ho, reqF_other q lengthN (by decide) (by decide) (by decide) (by decide) (by decide) (by decide)]; rfl)
    (hc _ (by decide) (by decide)) (hc _ (by decide) (by decide)) (hc _ (by decide) (by decide)) (hc _ (by decide) (by decide)) (hc _ (by decide) (by decide))]
  show (((reqH q).1 == headB, q.2.1, rngV (ofN (reqF q ++ _) rngN), q.2.2.2), n, 0) = _
  have hr : rngV (ofN (reqF q ++ [(rngN, v1), (rngN, v2), (lengthN, [48])]) rngN) = [] := by
    rw [ofN_app, ho, reqF_range, show alike rngN rngN = true by decide, show alike lengthN rngN = false by decide]
    by_cases hn : q.2.2.1 = []
    · rw [if_pos hn]; rfl
    · rw [if_neg hn]; rfl
  rw [hr]
  have : ((reqH q).1 == headB) = q.1 := by obtain ⟨b, o, l, c⟩ := q; cases b <;> rfl
  rw [this]
theorem listB_len {l : List TagT} {any : Bool} (h : listB l any = true) : l.length ≤ 32 := by
  unfold listB at h; simp only [Bool.and_eq_true, decide_eq_true_eq] at h; exact h.1.1
theorem textsT_len {l : List TagT} {any : Bool} (h : l.length ≤ 32) : (textsT l any).length ≤ 3392 := by
  unfold textsT
  have := joinT_len l
  split
  · simp
  · split
    · omega
    · simp
theorem condF_size {c : CondT} (h : condB c = true) : (condF c).length ≤ 5 ∧ bulk2 (condF c) ≤ 7100 := by
  unfold condB at h
  simp only [Bool.and_eq_true] at h
  obtain ⟨b1, b2, b3, b4, b5⟩ := h
  have t1 := textsT_len (any := c.am) (listB_len b1)
  have t2 := textsT_len (any := c.an) (listB_len b2)
  have t3 := tagTxt_len c.rg
  have d1 := dateT_len c.un.toNat
  have d2 := dateT_len c.si.toNat
  have one : ∀ (n v : List UInt8), bulk2 [(n, v)] = n.length + v.length := fun n v => by simp [bulk2]
  have a1 : (fldsT nMatch c.mt c.am).length ≤ 1 ∧ bulk2 (fldsT nMatch c.mt c.am) ≤ 3400 := by
    unfold fldsT; split
    · rw [one]; exact ⟨by simp, by have : nMatch.length = 8 := rfl; omega⟩
    · exact ⟨by simp, by simp [bulk2]⟩
  have a2 : (fldsT nNone c.no c.an).length ≤ 1 ∧ bulk2 (fldsT nNone c.no c.an) ≤ 3405 := by
    unfold fldsT; split
    · rw [one]; exact ⟨by simp, by have : nNone.length = 13 := rfl; omega⟩
    · exact ⟨by simp, by simp [bulk2]⟩
  have a3 : (fldsD nUnmod c.un).length ≤ 1 ∧ bulk2 (fldsD nUnmod c.un) ≤ 48 := by
    unfold fldsD; split
    · rw [one]; exact ⟨by simp, by have : nUnmod.length = 19 := rfl; omega⟩
    · exact ⟨by simp, by simp [bulk2]⟩
  have a4 : (fldsD nMod c.si).length ≤ 1 ∧ bulk2 (fldsD nMod c.si) ≤ 46 := by
    unfold fldsD; split
    · rw [one]; exact ⟨by simp, by have : nMod.length = 17 := rfl; omega⟩
    · exact ⟨by simp, by simp [bulk2]⟩
  have a5 : (fldsR c.rg).length ≤ 1 ∧ bulk2 (fldsR c.rg) ≤ 112 := by
    unfold fldsR; split
    · exact ⟨by simp, by simp [bulk2]⟩
    · rw [one]; exact ⟨by simp, by have : nIfR.length = 8 := rfl; omega⟩
  unfold condF
  simp only [List.length_append, bulk2_app]
  omega
theorem specTx_len {l : List SpecT} (h : l.all specB = true) (hl : l.length ≤ 64) : (specTx l).length ≤ 2438 := by
  have := joinS_len l (fun t ht => List.all_eq_true.1 h t ht)
  unfold specTx
  rw [List.length_append, show bytesEq.length = 6 from rfl]; omega
theorem reqF_size {q : ReqT} (h : reqB q = true) : (reqF q).length ≤ 6 ∧ bulk2 (reqF q) ≤ 9600 := by
  obtain ⟨h1, h2, h3, h4⟩ := reqB_iff.1 h
  have hc := condF_size h3
  have hs := specTx_len h4 h2
  unfold reqF
  rw [List.length_append, bulk2_app]
  have hf : (fldsS q.2.2.1).length ≤ 1 ∧ bulk2 (fldsS q.2.2.1) ≤ 2443 := by
    unfold fldsS; split
    · exact ⟨by simp, by simp [bulk2]⟩
    · exact ⟨by simp, by simp [bulk2, rngN]; omega⟩
  omega
theorem bulk2_short {l : List Fld} {n : Nat} (h : bulk2 l ≤ n) : ∀ f ∈ l, f.1.length + f.2.length ≤ n := by
  induction l with
  | nil => intro f hf; cases hf
  | cons x r ih =>
    have e : bulk2 (x :: r) = x.1.length + x.2.length + bulk2 r := by simp [bulk2]
    rw [e] at h
    intro f hf
    rcases List.mem_cons.1 hf with rfl | hf
    · omega
    · exact ih (by omega) f hf
theorem fieldR_right {l : List UInt8} (h : (fieldR l).2 = true) : right (fieldR l).1 = true := by
  unfold fieldR at *
  cases hc : cutC l with
  | none => rw [hc] at h; cases h
  | some p => rw [hc] at h; exact h
theorem parseGo_right (s : List UInt8) (fuel k : Nat) (acc : List Fld) (h : acc.all right = true) : (parseGo s fuel k acc).1.all right = true := by
  induction fuel generalizing k acc with
  | zero => rfl
  | succ fuel ih =>
    cases hc : crlf (s.drop k) with
    | none => rw [parseGo_none hc]; split <;> rfl
    | some j =>
      rw [parseGo_some hc]
      split
      · rfl
      · split
        · exact h
        · split
          · rfl
          · split
            · rename_i hr
              exact ih _ _ (by rw [List.all_append, h]; simpa using fieldR_right hr)
            · rfl
theorem parse_right (s : List UInt8) : (parse s).1.all right = true := parseGo_right s _ _ _ rfl
theorem restL_right (m o : List UInt8) (st : Int) (s : List UInt8) (n : Nat) : (restL m o st s n).1.2.2.2.all right = true ∧ (restL m o st s n).1.2.2.2.length ≤ 100 := by
  unfold restL
  simp only
  split
  · exact ⟨parse_right _, parse_few _⟩
  · exact ⟨rfl, by simp [noHead]⟩
theorem askR_right (s : List UInt8) : (askR s).1.2.2.2.all right = true ∧ (askR s).1.2.2.2.length ≤ 100 := by
  unfold askR
  split
  · split
    · exact ⟨rfl, by simp [noHead]⟩
    · exact restL_right _ _ _ _ _
  · exact ⟨rfl, by simp [noHead]⟩
theorem tellR_right (s : List UInt8) : (tellR s).1.2.2.2.all right = true ∧ (tellR s).1.2.2.2.length ≤ 100 := by
  unfold tellR
  split
  · split
    · exact ⟨rfl, by simp [noHead]⟩
    · exact restL_right _ _ _ _ _
  · exact ⟨rfl, by simp [noHead]⟩
theorem right_len {f : Fld} (h : right f = true) : f.1.length ≤ 200 ∧ f.2.length ≤ 8192 := by
  unfold right at h
  simp only [Bool.and_eq_true, decide_eq_true_eq] at h
  exact ⟨h.1.1.1.2, h.1.1.2⟩
end Go.Proofs.YtcfefflnebkjnaaGreatDoor
