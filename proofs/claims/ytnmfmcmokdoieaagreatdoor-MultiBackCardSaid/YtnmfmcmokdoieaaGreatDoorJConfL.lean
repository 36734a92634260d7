/- Several texts in one (their own heads say what each is). No conditions but those that each theorem names. -/
import Derived.Lib.ItoaNum
import Derived.Test.YtnmfmcmokdoieaaGreatDoorHeadLaw
set_option linter.unusedVariables false
set_option linter.unusedSimpArgs false
/- XConfLaw1 -/
namespace Go.Proofs.YtnmfmcmokdoieaaGreatDoor
/-- the powers of two from 4 to 2^20 -/
def powL : List Int := [4, 8, 16, 32, 64, 128, 256, 512, 1024, 2048, 4096, 8192, 16384, 32768, 65536, 131072, 262144, 524288, 1048576]
def powB (u : Int) : Bool := powL.contains u
theorem pow_mem (k : Nat) (h1 : 2 ≤ k) (h2 : k ≤ 20) : powB ((2 ^ k : Nat) : Int) = true := by
  have : ∀ j : Fin 21, 2 ≤ j.val → powB ((2 ^ j.val : Nat) : Int) = true := by decide
  exact this ⟨k, by omega⟩ h1
theorem pow_form (n : Nat) (h : powB (n : Int) = true) : ∃ k, k ≤ 20 ∧ n = 2 ^ k := by
  unfold powB powL at h
  simp only [List.contains_cons, List.contains_nil, Bool.or_false, Bool.or_eq_true, beq_iff_eq] at h
  rcases h with h | h | h | h | h | h | h | h | h | h | h | h | h | h | h | h | h | h | h
  · exact ⟨2, by omega, by omega⟩
  · exact ⟨3, by omega, by omega⟩
  · exact ⟨4, by omega, by omega⟩
  · exact ⟨5, by omega, by omega⟩
  · exact ⟨6, by omega, by omega⟩
  · exact ⟨7, by omega, by omega⟩
  · exact ⟨8, by omega, by omega⟩
  · exact ⟨9, by omega, by omega⟩
  · exact ⟨10, by omega, by omega⟩
  · exact ⟨11, by omega, by omega⟩
  · exact ⟨12, by omega, by omega⟩
  · exact ⟨13, by omega, by omega⟩
  · exact ⟨14, by omega, by omega⟩
  · exact ⟨15, by omega, by omega⟩
  · exact ⟨16, by omega, by omega⟩
  · exact ⟨17, by omega, by omega⟩
  · exact ⟨18, by omega, by omega⟩
  · exact ⟨19, by omega, by omega⟩
  · exact ⟨20, by omega, by omega⟩
theorem pow_and (n : Nat) (h1 : 4 ≤ n) (h2 : n ≤ 1048576) : ((n &&& (n - 1) : Nat) = 0) ↔ powB (n : Int) = true := by
  rw [Nat.and_sub_one_eq_zero_iff_isPowerOfTwo (by omega)]
  constructor
  · rintro ⟨k, rfl⟩
    refine pow_mem k ?_ ?_
    · apply Classical.byContradiction; intro hk
      have : 2 ^ k ≤ 2 ^ 1 := Nat.pow_le_pow_right (by omega) (by omega)
      omega
    · apply Classical.byContradiction; intro hk
      have : 2 ^ 21 ≤ 2 ^ k := Nat.pow_le_pow_right (by omega) (by omega)
      omega
  · intro h
    obtain ⟨k, _, rfl⟩ := pow_form n h
    exact ⟨k, rfl⟩
/-- how a node works: ten numbers -/
structure Cfg where
  u : Int
  wa : Int
  mo : Int
  sp : Int
  re : Int
  rt : Int
  li : Int
  bu : Int
  sh : Int
  ch : Int
def Cfg.nums (c : Cfg) : List Int := [c.u, c.wa, c.mo, c.sp, c.re, c.rt, c.li, c.bu, c.sh, c.ch]
def inB (n a b : Int) : Bool := decide (a ≤ n) && decide (n ≤ b)
def Cfg.right (c : Cfg) : Bool :=
  inB c.u 4 1048576 && powB c.u && inB c.wa 0 1099511627776 && inB c.mo c.u 1099511627776 && inB c.sp 1 64 && inB c.re 0 100 && inB c.rt 0 100 && inB c.li 0 1099511627776 && inB c.bu c.u 1125899906842624 && inB c.sh c.u c.bu && inB c.ch 1 1099511627776
def Cfg.dflt : Cfg := ⟨65536, 131072, 8388608, 16, 2, 2, 262144, 1073741824, 536870912, 32768⟩
/-- a size, written -/
def sizedL (n : Int) : List UInt8 :=
  if n < 0 then [] else if n = 0 then [48] else if n % 1073741824 = 0 then Lib.itoa (n / 1073741824) ++ [103] else if n % 1048576 = 0 then Lib.itoa (n / 1048576) ++ [109] else if n % 1024 = 0 then Lib.itoa (n / 1024) ++ [107] else Lib.itoa n
/-- the number of up to 18 digits -/
def numberL (s : List UInt8) : Option Nat := if 1 ≤ s.length ∧ s.length ≤ 18 ∧ s.all digC = true then some (numB s) else none
/-- by which letter a size ends: what it is times -/
def unitL (s : List UInt8) : Nat := if s.getLast? = some 107 then 1024 else if s.getLast? = some 109 then 1048576 else if s.getLast? = some 103 then 1073741824 else 1
def kindL (s : List UInt8) : Option Nat := match numberL (if unitL s = 1 then s else s.dropLast) with
  | none => none
  | some n => if n ≤ 1125899906842624 / unitL s then some (n * unitL s) else none
def sizeL (s : List UInt8) : Option Nat := match kindL s with
  | none => none
  | some n => if sizedL n = s then some n else none
theorem dec_all (n : Nat) : (Lib.decDigits n).all digC = true ∧ numB (Lib.decDigits n) = n := by
  induction n using Nat.strongRecOn with
  | _ n ih =>
    rw [Lib.decDigits]
    split
    · rename_i h
      have h1 : (UInt8.ofNat (48 + n)).toNat = 48 + n := by rw [UInt8.toNat_ofNat']; omega
      refine ⟨by simp only [List.all_cons, List.all_nil, Bool.and_true]; exact digC_yes _ (by omega), ?_⟩
      show 0 * 10 + ((UInt8.ofNat (48 + n)).toNat - 48) = n
      omega
    · rename_i h
      obtain ⟨i1, i2⟩ := ih (n / 10) (by omega)
      have h1 : (UInt8.ofNat (48 + n % 10)).toNat = 48 + n % 10 := by rw [UInt8.toNat_ofNat']; omega
      refine ⟨?_, ?_⟩
      · rw [List.all_append, i1]; simp only [List.all_cons, List.all_nil, Bool.and_true, Bool.true_and]; exact digC_yes _ (by omega)
      · rw [numB_snoc, i2, h1]; omega
theorem dec_len (n k : Nat) (hk : 1 ≤ k) (h : n < 10 ^ k) : 1 ≤ (Lib.decDigits n).length ∧ (Lib.decDigits n).length ≤ k := by
  induction k generalizing n with
  | zero => omega
  | succ k ih =>
    rw [Lib.decDigits]
    split
    · simp
    · rename_i h10
      rcases Nat.eq_zero_or_pos k with hk0 | hk0
      · subst hk0; omega
      · have := ih (n / 10) hk0 (by rw [Nat.pow_succ] at h; omega)
        simp; omega
theorem dec_long (n k : Nat) (h : 10 ^ k ≤ n) : k < (Lib.decDigits n).length := by
  induction k generalizing n with
  | zero => rw [Lib.decDigits]; split <;> simp
  | succ k ih =>
    rw [Lib.decDigits, dif_neg (by have : 10 ^ 1 ≤ 10 ^ (k + 1) := Nat.pow_le_pow_right (by omega) (by omega)
                                   omega)]
    have := ih (n / 10) (by rw [Nat.pow_succ] at h; omega)
    simp; omega
theorem number_dec (n : Nat) : numberL (Lib.decDigits n) = if n < 10 ^ 18 then some n else none := by
  unfold numberL
  rw [(dec_all n).1, (dec_all n).2]
  by_cases h : n < 10 ^ 18
  · have := dec_len n 18 (by omega) h
    rw [if_pos h, if_pos ⟨this.1, this.2, rfl⟩]
  · have := dec_long n 18 (by omega)
    rw [if_neg h, if_neg (by omega)]
theorem itoa_nat (n : Nat) : Lib.itoa (n : Int) = Lib.decDigits n := by unfold Lib.itoa; rw [if_neg (by omega)]; congr 1
theorem dec_last (n : Nat) : ∃ c, (Lib.decDigits n).getLast? = some c ∧ digC c = true := by
  have h := (dec_all n).1
  have hl : Lib.decDigits n ≠ [] := by rw [Lib.decDigits]; split <;> simp
  refine ⟨(Lib.decDigits n).getLast hl, List.getLast?_eq_some_getLast hl, ?_⟩
  exact List.all_eq_true.1 h _ (List.getLast_mem hl)
theorem unit_dec (n : Nat) : unitL (Lib.decDigits n) = 1 := by
  obtain ⟨c, hc, hd⟩ := dec_last n
  unfold unitL
  rw [hc]
  have h1 : c ≠ 107 := by rintro rfl; exact absurd hd (by decide)
  have h2 : c ≠ 109 := by rintro rfl; exact absurd hd (by decide)
  have h3 : c ≠ 103 := by rintro rfl; exact absurd hd (by decide)
  simp [h1, h2, h3]
theorem kind_dec (n : Nat) : kindL (Lib.decDigits n) = if n ≤ 1125899906842624 then some n else none := by
  unfold kindL
  rw [unit_dec, if_pos rfl, number_dec]
  by_cases h : n < 10 ^ 18
  · rw [if_pos h]; simp
  · rw [if_neg h, if_neg (by omega)]
theorem kind_unit (n : Nat) (c : UInt8) (k : Nat) (hc : (c = 107 ∧ k = 1024) ∨ (c = 109 ∧ k = 1048576) ∨ (c = 103 ∧ k = 1073741824)) : kindL (Lib.decDigits n ++ [c]) = if n * k ≤ 1125899906842624 then some (n * k) else none := by
  have hu : unitL (Lib.decDigits n ++ [c]) = k := by
    unfold unitL
    rw [List.getLast?_concat]
    rcases hc with ⟨rfl, rfl⟩ | ⟨rfl, rfl⟩ | ⟨rfl, rfl⟩ <;> rfl
  unfold kindL
  have hk : k ≠ 1 := by omega
  rw [hu, if_neg hk, List.dropLast_concat, number_dec]
  by_cases h : n < 10 ^ 18
  · rw [if_pos h]
    simp only
    have e : (n ≤ 1125899906842624 / k) ↔ n * k ≤ 1125899906842624 := by
      rw [Nat.le_div_iff_mul_le (by omega)]
    by_cases h2 : n * k ≤ 1125899906842624
    · rw [if_pos (e.2 h2), if_pos h2]
    · rw [if_neg (fun h => h2 (e.1 h)), if_neg h2]
  · rw [if_neg h, if_neg]
    rcases hc with ⟨_, rfl⟩ | ⟨_, rfl⟩ | ⟨_, rfl⟩ <;> omega
/-- what is written is read as it was -/
theorem kind_sized (n : Nat) : kindL (sizedL n) = if n ≤ 1125899906842624 then some n else none := by
  unfold sizedL
  rw [if_neg (by omega)]
  by_cases h0 : n = 0
  · subst h0; rfl
  · rw [if_neg (by omega)]
    by_cases h1 : (n : Int) % 1073741824 = 0
    · rw [if_pos h1, show (n : Int) / 1073741824 = ((n / 1073741824 : Nat) : Int) from by omega, itoa_nat, kind_unit _ _ _ (.inr (.inr ⟨rfl, rfl⟩)), show n / 1073741824 * 1073741824 = n from by omega]
    · rw [if_neg h1]
      by_cases h2 : (n : Int) % 1048576 = 0
      · rw [if_pos h2, show (n : Int) / 1048576 = ((n / 1048576 : Nat) : Int) from by omega, itoa_nat, kind_unit _ _ _ (.inr (.inl ⟨rfl, rfl⟩)), show n / 1048576 * 1048576 = n from by omega]
      · rw [if_neg h2]
        by_cases h3 : (n : Int) % 1024 = 0
        · rw [if_pos h3, show (n : Int) / 1024 = ((n / 1024 : Nat) : Int) from by omega, itoa_nat, kind_unit _ _ _ (.inl ⟨rfl, rfl⟩), show n / 1024 * 1024 = n from by omega]
        · rw [if_neg h3, itoa_nat, kind_dec]
theorem size_sized (n : Int) : sizeL (sizedL n) = if 0 ≤ n ∧ n ≤ 1125899906842624 then some n.toNat else none := by
  unfold sizeL
  by_cases h0 : n < 0
  · rw [if_neg (by omega)]
    have : sizedL n = [] := by unfold sizedL; rw [if_pos h0]
    rw [this]; rfl
  · obtain ⟨k, rfl⟩ : ∃ k : Nat, n = k := ⟨n.toNat, by omega⟩
    rw [kind_sized]
    by_cases h1 : k ≤ 1125899906842624
    · rw [if_pos h1, if_pos (by omega)]; simp
    · rw [if_neg h1, if_neg (by omega)]
end Go.Proofs.YtnmfmcmokdoieaaGreatDoor
/- XConfLaw2 -/
namespace Go.Proofs.YtnmfmcmokdoieaaGreatDoor
def namesL : List (List UInt8) := [[117, 110, 105, 116], [119, 97, 115, 116, 101], [109, 111, 115, 116], [115, 112, 101, 99, 115], [114, 101, 115, 116, 97, 114, 116, 115], [114, 101, 116, 114, 105, 101, 115], [108, 105, 110, 103, 101, 114], [98, 117, 100, 103, 101, 116], [115, 104, 97, 114, 101], [99, 104, 117, 110, 107]]
def nodeL : List UInt8 := [110, 111, 100, 101]
def sizedI (i : Nat) : Bool := decide (i < 3) || decide (5 < i)
def valL (i : Nat) (n : Int) : List UInt8 := if sizedI i then sizedL n else Lib.itoa n
/-- the line of a number, if it is not the usual one -/
def numLine (i : Nat) (name : List UInt8) (n d : Int) : List (List UInt8) := if n = d then [] else [name ++ 32 :: valL i n]
def numLines (c : Cfg) : List (List UInt8) := (List.range 10).flatMap fun i => numLine i (namesL.getD i []) (c.nums.getD i 0) (Cfg.dflt.nums.getD i 0)
def linesOf (l : List Cfg) : List (List UInt8) := l.flatMap fun c => nodeL :: numLines c
def textL (l : List Cfg) : List UInt8 := (linesOf l).flatMap (· ++ [10])
/-- a text, cut at its line ends -/
def splitN : List UInt8 → List (List UInt8)
  | [] => [[]]
  | c :: t => if c == 10 then [] :: splitN t else match splitN t with
    | [] => [[c]]
    | x :: r => (c :: x) :: r
theorem splitN_ne (s : List UInt8) : splitN s ≠ [] := by
  cases s with
  | nil => simp [splitN]
  | cons c t => unfold splitN; split <;> (try split) <;> simp
theorem splitN_none (a : List UInt8) (h : ∀ c ∈ a, c ≠ 10) : splitN a = [a] := by
  induction a with
  | nil => rfl
  | cons c t ih =>
    have hc : (c == 10) = false := by simpa using h c (by simp)
    unfold splitN
    rw [hc, ih (fun x hx => h x (by simp [hx]))]
    rfl
theorem splitN_cut (a b : List UInt8) (h : ∀ c ∈ a, c ≠ 10) : splitN (a ++ 10 :: b) = a :: splitN b := by
  induction a with
  | nil => rfl
  | cons c t ih =>
    have hc : (c == 10) = false := by simpa using h c (by simp)
    rw [List.cons_append]
    conv => lhs; unfold splitN
    rw [hc, ih (fun x hx => h x (by simp [hx]))]
    rfl
/-- what stands ahead of a sign -/
def upto (b : UInt8) (s : List UInt8) : List UInt8 := s.takeWhile (· != b)
/-- a line without what is left out -/
def cleanL (s : List UInt8) : List UInt8 := trim (upto 35 s)
/-- where the first blank stands -/
def blankAt (s : List UInt8) : Option Nat := s.findIdx? blk
def nameIx (x : List UInt8) : Option Nat := namesL.findIdx? (· == x)
def readL (i : Nat) (s : List UInt8) : Option Nat := if sizedI i then kindL s else numberL s
/-- what a line says of a number -/
def sayL (t : List UInt8) : Option (Nat × Nat) := match blankAt t with
  | none => none
  | some k => match nameIx (t.take k) with
    | none => none
    | some i => (readL i (trim (t.drop k))).map fun n => (i, n)
/-- all configurations by now: their numbers, the lines with which they begin, what is said of the last, how many lines -/
structure PSt where
  all : List (List Int)
  begins : List Nat
  said : List Bool
  no : Nat
def PSt.start : PSt := ⟨[], [], List.replicate 10 false, 0⟩
def setLast (l : List (List Int)) (i : Nat) (n : Int) : List (List Int) := l.dropLast ++ [(l.getLast?.getD []).set i n]
/-- one line more; or what is wrong -/
def stepC (s : PSt) (t : List UInt8) : PSt ⊕ Nat :=
  if cleanL t = [] then .inl { s with no := s.no + 1 }
  else if cleanL t = nodeL then (if s.all.length = 16 then .inr 4 else .inl ⟨s.all ++ [Cfg.dflt.nums], s.begins ++ [s.no + 1], List.replicate 10 false, s.no + 1⟩)
  else match sayL (cleanL t) with
    | none => .inr 2
    | some p => if s.said.getD p.1 false = true ∨ s.all = [] then .inr 2 else .inl ⟨setLast s.all p.1 p.2, s.begins, s.said.set p.1 true, s.no + 1⟩
def runC (s : PSt) : List (List UInt8) → PSt ⊕ (Nat × Nat)
  | [] => .inl s
  | t :: r => match stepC s t with
    | .inl s' => runC s' r
    | .inr e => .inr (s.no + 1, e)
def ofNums (l : List Int) : Cfg := ⟨l.getD 0 0, l.getD 1 0, l.getD 2 0, l.getD 3 0, l.getD 4 0, l.getD 5 0, l.getD 6 0, l.getD 7 0, l.getD 8 0, l.getD 9 0⟩
/-- the first configuration that isn't right: where it begins -/
def wrongAt : List (List Int) → List Nat → Option Nat
  | [], _ => none
  | n :: r, b => if (ofNums n).right then wrongAt r b.tail else some (b.headD 0)
/-- the configurations of a text, the first line that is wrong, what is wrong -/
def parseC (s : List UInt8) : List Cfg × Nat × Nat := match runC PSt.start (splitN s) with
  | .inr (k, e) => ([], k, e)
  | .inl p => match wrongAt p.all p.begins with
    | some k => ([], k, 1)
    | none => (p.all.map ofNums, 0, 0)
end Go.Proofs.YtnmfmcmokdoieaaGreatDoor
/- XConfLaw3 -/
namespace Go.Proofs.YtnmfmcmokdoieaaGreatDoor
/-- what a line is -/
inductive Ev where
  | blank
  | node
  | num (i n : Nat)
def asc (s : List UInt8) : Bool := s.all fun c => decide (c.toNat < 128)
def Is (t : List UInt8) : Ev → Prop
  | .blank => cleanL t = []
  | .node => cleanL t = nodeL
  | .num i n => cleanL t ≠ [] ∧ cleanL t ≠ nodeL ∧ sayL (cleanL t) = some (i, n) ∧ asc (cleanL t) = true
inductive Says : List (List UInt8) → List Ev → Prop where
  | nil : Says [] []
  | cons {t : List UInt8} {e : Ev} {ts : List (List UInt8)} {es : List Ev} : Is t e → Says ts es → Says (t :: ts) (e :: es)
def stepP (s : List (List Int) × List Bool) : Ev → Option (List (List Int) × List Bool)
  | .blank => some s
  | .node => if s.1.length = 16 then none else some (s.1 ++ [Cfg.dflt.nums], List.replicate 10 false)
  | .num i n => if s.2.getD i false = true ∨ s.1 = [] then none else some (setLast s.1 i n, s.2.set i true)
def runP (s : List (List Int) × List Bool) : List Ev → Option (List (List Int) × List Bool)
  | [] => some s
  | e :: r => match stepP s e with
    | none => none
    | some s' => runP s' r
theorem runP_append (s : List (List Int) × List Bool) (a b : List Ev) : runP s (a ++ b) = (runP s a).bind fun s' => runP s' b := by
  induction a generalizing s with
  | nil => rfl
  | cons e a ih =>
    rw [List.cons_append]
    show (match stepP s e with | none => none | some s' => runP s' (a ++ b)) = (match stepP s e with | none => none | some s' => runP s' a).bind fun s' => runP s' b
    cases stepP s e with
    | none => rfl
    | some s' => exact ih s'
theorem step_of {s : PSt} {t : List UInt8} {e : Ev} (h : Is t e) {p : List (List Int) × List Bool} (hp : stepP (s.all, s.said) e = some p) : ∃ s', stepC s t = .inl s' ∧ s'.all = p.1 ∧ s'.said = p.2 := by
  cases e with
  | blank =>
    simp only [stepP, Option.some.injEq] at hp
    subst hp
    refine ⟨{ s with no := s.no + 1 }, ?_, rfl, rfl⟩
    have h' : cleanL t = [] := h
    unfold stepC; rw [if_pos h']
  | node =>
    simp only [stepP] at hp
    split at hp
    · cases hp
    · rename_i hl
      simp only [Option.some.injEq] at hp
      subst hp
      refine ⟨⟨s.all ++ [Cfg.dflt.nums], s.begins ++ [s.no + 1], List.replicate 10 false, s.no + 1⟩, ?_, rfl, rfl⟩
      have h' : cleanL t = nodeL := h
      have hl' : ¬ s.all.length = 16 := hl
      unfold stepC
      rw [if_neg (by rw [h']; decide), if_pos h', if_neg hl']
  | num i n =>
    obtain ⟨h1, h2, h3, _⟩ := h
    simp only [stepP] at hp
    split at hp
    · cases hp
    · rename_i hl
      simp only [Option.some.injEq] at hp
      subst hp
      refine ⟨⟨setLast s.all i n, s.begins, s.said.set i true, s.no + 1⟩, ?_, rfl, rfl⟩
      unfold stepC
      rw [if_neg h1, if_neg h2, h3]
      simp only
      rw [if_neg hl]
theorem is_asc {t : List UInt8} {e : Ev} (h : Is t e) : asc (cleanL t) = true := by
  cases e with
  | blank => rw [show cleanL t = [] from h]; rfl
  | node => rw [show cleanL t = nodeL from h]; decide
  | num i n => exact h.2.2.2
theorem says_asc {ts : List (List UInt8)} {es : List Ev} (h : Says ts es) : ∀ t ∈ ts, asc (cleanL t) = true := by
  induction h with
  | nil => intro t ht; simp at ht
  | cons h0 _ ih =>
    intro t ht
    rcases List.mem_cons.1 ht with rfl | ht
    · exact is_asc h0
    · exact ih t ht
theorem run_of {ts : List (List UInt8)} {es : List Ev} (h : Says ts es) (s : PSt) {p : List (List Int) × List Bool} (hp : runP (s.all, s.said) es = some p) : ∃ s', runC s ts = .inl s' ∧ s'.all = p.1 ∧ s'.said = p.2 := by
  induction h generalizing s p with
  | nil =>
    simp only [runP, Option.some.injEq] at hp
    subst hp
    exact ⟨s, rfl, rfl, rfl⟩
  | cons h0 _ ih =>
    unfold runP at hp
    split at hp
    · cases hp
    · rename_i s1 h1
      obtain ⟨s', e1, e2, e3⟩ := step_of h0 h1
      obtain ⟨s'', f1, f2, f3⟩ := ih s' (p := p) (by rw [e2, e3]; exact hp)
      exact ⟨s'', by unfold runC; rw [e1]; exact f1, f2, f3⟩
def isBlank : Ev → Bool
  | .blank => true
  | _ => false
theorem runP_filter (s : List (List Int) × List Bool) (es : List Ev) : runP s es = runP s (es.filter (!isBlank ·)) := by
  induction es generalizing s with
  | nil => rfl
  | cons e r ih =>
    cases e with
    | blank => rw [List.filter_cons]; simp only [isBlank, Bool.not_true, Bool.false_eq_true, if_false]; exact ih s
    | node =>
      rw [List.filter_cons]; simp only [isBlank, Bool.not_false, if_true]
      unfold runP
      cases stepP s .node with
      | none => rfl
      | some s' => exact ih s'
    | num i n =>
      rw [List.filter_cons]; simp only [isBlank, Bool.not_false, if_true]
      unfold runP
      cases stepP s (.num i n) with
      | none => rfl
      | some s' => exact ih s'
/-- what a configuration's lines say -/
def evNum (c : Cfg) (i : Nat) : List Ev := if c.nums.getD i 0 = Cfg.dflt.nums.getD i 0 then [] else [.num i (c.nums.getD i 0).toNat]
def evOf (c : Cfg) : List Ev := .node :: (List.range 10).flatMap (evNum c)
theorem nums_len (c : Cfg) : c.nums.length = 10 := rfl
theorem setLast_snoc (a : List (List Int)) (x : List Int) (i : Nat) (n : Int) : setLast (a ++ [x]) i n = a ++ [x.set i n] := by
  unfold setLast; simp
theorem mix_set (c d : List Int) (hc : c.length = 10) (hd : d.length = 10) (k : Nat) (hk : k < 10) : (c.take k ++ d.drop k).set k (c.getD k 0) = c.take (k + 1) ++ d.drop (k + 1) := by
  apply List.ext_getElem?
  intro j
  rw [List.getElem?_set]
  simp only [List.getElem?_append, List.length_take, List.length_append, List.length_drop, List.getElem?_take, List.getElem?_drop, List.getD_eq_getElem?_getD]
  by_cases h : k = j
  · subst h
    rw [if_pos rfl, if_pos (by omega), if_pos (by omega), if_pos (by omega), List.getElem?_eq_getElem (by omega)]
    simp
  · rw [if_neg h]
    by_cases h1 : j < min k c.length
    · rw [if_pos h1, if_pos (by omega), if_pos (by omega), if_pos (by omega)]
    · rw [if_neg h1]
      rw [if_neg (by omega)]
      congr 1; omega
theorem mix_same (c d : List Int) (hc : c.length = 10) (hd : d.length = 10) (k : Nat) (hk : k < 10) (he : c.getD k 0 = d.getD k 0) : c.take k ++ d.drop k = c.take (k + 1) ++ d.drop (k + 1) := by
  rw [← mix_set c d hc hd k hk]
  apply List.ext_getElem?
  intro j
  rw [List.getElem?_set]
  by_cases h : k = j
  · subst h
    rw [if_pos rfl, if_pos (by simp; omega), List.getElem?_append_right (by simp; omega), List.length_take, List.getElem?_drop, he]
    rw [List.getD_eq_getElem?_getD, show k + (k - min k c.length) = k from by omega, List.getElem?_eq_getElem (by omega)]
    simp
  · rw [if_neg h]
theorem run_nums (c : Cfg) (a : List (List Int)) (h0 : ∀ k, k < 10 → 0 ≤ c.nums.getD k 0) (k : Nat) (hk : k ≤ 10) :
    ∃ sd : List Bool, sd.length = 10 ∧ (∀ j, k ≤ j → sd.getD j false = false) ∧ runP (a ++ [Cfg.dflt.nums], List.replicate 10 false) ((List.range k).flatMap (evNum c)) = some (a ++ [c.nums.take k ++ Cfg.dflt.nums.drop k], sd) := by
  induction k with
  | zero => exact ⟨List.replicate 10 false, rfl, fun j _ => by rw [List.getD_eq_getElem?_getD, List.getElem?_replicate]; split <;> rfl, rfl⟩
  | succ k ih =>
    obtain ⟨sd, hl, hs, hr⟩ := ih (by omega)
    rw [List.range_succ, List.flatMap_append, runP_append, hr]
    simp only [Option.bind_some, List.flatMap_cons, List.flatMap_nil, List.append_nil]
    unfold evNum
    split
    · rename_i he
      refine ⟨sd, hl, fun j hj => hs j (by omega), ?_⟩
      simp only [runP]
      rw [mix_same c.nums Cfg.dflt.nums rfl rfl k (by omega) he]
    · refine ⟨sd.set k true, by simpa using hl, fun j hj => ?_, ?_⟩
      · rw [List.getD_eq_getElem?_getD, List.getElem?_set_ne (by omega), ← List.getD_eq_getElem?_getD]; exact hs j (by omega)
      · have hnn : ((c.nums.getD k 0).toNat : Int) = c.nums.getD k 0 := by have := h0 k (by omega); omega
        simp only [runP, stepP]
        rw [if_neg (by rw [hs k (Nat.le_refl _)]; simp)]
        simp only [hnn, setLast_snoc]
        rw [mix_set c.nums Cfg.dflt.nums rfl rfl k (by omega)]
theorem run_cfg (c : Cfg) (a : List (List Int)) (sd : List Bool) (h0 : ∀ k, k < 10 → 0 ≤ c.nums.getD k 0) (hl : a.length < 16) : ∃ sd', runP (a, sd) (evOf c) = some (a ++ [c.nums], sd') := by
  obtain ⟨sd', _, _, hr⟩ := run_nums c a h0 10 (Nat.le_refl _)
  refine ⟨sd', ?_⟩
  unfold evOf runP
  simp only [stepP]
  rw [if_neg (by omega)]
  simp only
  rw [hr, List.take_of_length_le (by rw [nums_len]; omega), List.drop_of_length_le (by decide), List.append_nil]
theorem run_cfgs (l : List Cfg) (a : List (List Int)) (sd : List Bool) (h0 : ∀ c ∈ l, ∀ k, k < 10 → 0 ≤ c.nums.getD k 0) (hl : a.length + l.length ≤ 16) : ∃ sd', runP (a, sd) (l.flatMap evOf) = some (a ++ l.map Cfg.nums, sd') := by
  induction l generalizing a sd with
  | nil => exact ⟨sd, by simp [runP]⟩
  | cons c l ih =>
    simp only [List.length_cons] at hl
    obtain ⟨sd1, h1⟩ := run_cfg c a sd (h0 c (by simp)) (by omega)
    obtain ⟨sd2, h2⟩ := ih (a ++ [c.nums]) sd1 (fun x hx => h0 x (by simp [hx])) (by simp; omega)
    refine ⟨sd2, ?_⟩
    rw [List.flatMap_cons, runP_append, h1]
    simp only [Option.bind_some]
    rw [h2]; simp
theorem ofNums_nums (c : Cfg) : ofNums c.nums = c := rfl
theorem wrong_none (l : List Cfg) (h : ∀ c ∈ l, c.right = true) (b : List Nat) : wrongAt (l.map Cfg.nums) b = none := by
  induction l generalizing b with
  | nil => rfl
  | cons c l ih =>
    rw [List.map_cons]
    unfold wrongAt
    rw [ofNums_nums, h c (by simp), if_pos rfl]
    exact ih (fun x hx => h x (by simp [hx])) _
theorem right_nonneg {c : Cfg} (h : c.right = true) : ∀ k, k < 10 → 0 ≤ c.nums.getD k 0 := by
  unfold Cfg.right inB at h
  simp only [Bool.and_eq_true, decide_eq_true_eq] at h
  intro k hk
  unfold Cfg.nums
  match k, hk with
  | 0, _ => simp only [List.getD_cons_zero]; omega
  | 1, _ => simp only [List.getD_cons_succ, List.getD_cons_zero]; omega
  | 2, _ => simp only [List.getD_cons_succ, List.getD_cons_zero]; omega
  | 3, _ => simp only [List.getD_cons_succ, List.getD_cons_zero]; omega
  | 4, _ => simp only [List.getD_cons_succ, List.getD_cons_zero]; omega
  | 5, _ => simp only [List.getD_cons_succ, List.getD_cons_zero]; omega
  | 6, _ => simp only [List.getD_cons_succ, List.getD_cons_zero]; omega
  | 7, _ => simp only [List.getD_cons_succ, List.getD_cons_zero]; omega
  | 8, _ => simp only [List.getD_cons_succ, List.getD_cons_zero]; omega
  | 9, _ => simp only [List.getD_cons_succ, List.getD_cons_zero]; omega
/-- lines that say what configurations' lines say, with blank ones between -/
theorem parse_says (s : List UInt8) (l : List Cfg) (es : List Ev) (hr : ∀ c ∈ l, c.right = true) (hl : l.length ≤ 16) (hs : Says (splitN s) es) (he : es.filter (!isBlank ·) = l.flatMap evOf) : parseC s = (l, 0, 0) := by
  obtain ⟨sd, h1⟩ := run_cfgs l [] PSt.start.said (fun c hc => right_nonneg (hr c hc)) (by simpa using hl)
  obtain ⟨s', e1, e2, _⟩ := run_of hs PSt.start (p := ([] ++ l.map Cfg.nums, sd)) (by rw [runP_filter, he]; exact h1)
  unfold parseC
  rw [e1]
  simp only
  rw [e2]
  simp only [List.nil_append]
  rw [wrong_none l hr]
  simp only [List.map_map]
  congr 1
  exact (List.map_congr_left fun c _ => ofNums_nums c).trans (List.map_id l)
end Go.Proofs.YtnmfmcmokdoieaaGreatDoor
/- XConfLaw4 -/
namespace Go.Proofs.YtnmfmcmokdoieaaGreatDoor
theorem drop_blk (p m : List UInt8) (h : p.all blk = true) : (p ++ m).dropWhile blk = m.dropWhile blk := by
  induction p with
  | nil => rfl
  | cons c p ih =>
    simp only [List.all_cons, Bool.and_eq_true] at h
    rw [List.cons_append, List.dropWhile_cons_of_pos h.1, ih h.2]
/-- begins and ends with no blank -/
structure Core (m : List UInt8) : Prop where
  first : ∃ c t, m = c :: t ∧ blk c = false
  last : ∃ t c, m = t ++ [c] ∧ blk c = false
theorem trim_core (p m x : List UInt8) (hp : p.all blk = true) (hx : x.all blk = true) (hm : Core m) : trim (p ++ (m ++ x)) = m := by
  obtain ⟨⟨c, t, hc, hcb⟩, ⟨t', c', hc', hcb'⟩⟩ := hm
  unfold trim trimR trimL
  rw [show (p ++ (m ++ x)).reverse = x.reverse ++ (p ++ m).reverse from by simp, drop_blk _ _ (by simpa using hx)]
  have e1 : (p ++ m).reverse.dropWhile blk = (p ++ m).reverse := by
    rw [hc', ← List.append_assoc, List.reverse_append]
    simp [hcb']
  rw [e1, List.reverse_reverse, drop_blk _ _ hp, hc, List.dropWhile_cons_of_neg (by simp [hcb])]
theorem trim_blank_all (p : List UInt8) (h : p.all blk = true) : trim p = [] := by
  unfold trim trimR
  have : p.reverse.dropWhile blk = [] := by
    have := drop_blk p.reverse [] (by simpa using h)
    simpa using this
  rw [this]; rfl
/-- what may stand behind a line: blanks, and a remark -/
def Behind (x : List UInt8) : Prop := x.all blk = true ∨ ∃ b w, x = b ++ 35 :: w ∧ b.all blk = true
theorem upto_app (a b : List UInt8) (h : ∀ c ∈ a, c ≠ 35) : upto 35 (a ++ b) = a ++ upto 35 b := by
  induction a with
  | nil => rfl
  | cons c a ih =>
    have hc : (c != 35) = true := by simpa using h c (by simp)
    rw [List.cons_append]
    unfold upto at *
    rw [List.takeWhile_cons_of_pos (p := fun x => x != 35) hc, ih (fun x hx => h x (by simp [hx])), List.cons_append]
theorem blk_ne {c : UInt8} (h : blk c = true) : c ≠ 35 ∧ c ≠ 10 := by
  constructor <;> (rintro rfl; exact absurd h (by decide))
theorem all_ne {p : List UInt8} (h : p.all blk = true) : ∀ c ∈ p, c ≠ 35 := fun c hc => (blk_ne (List.all_eq_true.1 h c hc)).1
theorem upto_none (a : List UInt8) (h : ∀ c ∈ a, c ≠ 35) : upto 35 a = a := by
  have := upto_app a [] h
  simpa [upto] using this
theorem behind_upto {x : List UInt8} (h : Behind x) : (upto 35 x).all blk = true := by
  rcases h with h | ⟨b, w, rfl, hb⟩
  · rw [upto_none x (all_ne h)]; exact h
  · rw [upto_app b _ (all_ne hb), show upto 35 (35 :: w) = [] from rfl, List.append_nil]; exact hb
theorem clean_core (p m x : List UInt8) (hp : p.all blk = true) (hm : Core m) (hn : ∀ c ∈ m, c ≠ 35) (hx : Behind x) : cleanL (p ++ (m ++ x)) = m := by
  unfold cleanL
  rw [upto_app p _ (all_ne hp), upto_app m _ hn]
  exact trim_core p m _ hp (behind_upto hx) hm
theorem clean_blank (x : List UInt8) (hx : Behind x) : cleanL x = [] := trim_blank_all _ (behind_upto hx)
theorem is_blank {x : List UInt8} (hx : Behind x) : Is x .blank := clean_blank x hx
theorem node_core : Core nodeL := ⟨⟨110, [111, 100, 101], rfl, by decide⟩, ⟨[110, 111, 100], 101, rfl, by decide⟩⟩
theorem is_node (p x : List UInt8) (hp : p.all blk = true) (hx : Behind x) : Is (p ++ (nodeL ++ x)) .node := clean_core p nodeL x hp node_core (by decide) hx
/-- a sign of a number's text -/
def valC (c : UInt8) : Bool := digC c || c == 107 || c == 109 || c == 103
theorem valC_ok {c : UInt8} (h : valC c = true) : blk c = false ∧ c ≠ 35 ∧ c ≠ 10 := by
  have hb : ∀ d : UInt8, blk d = true → valC d = false := by
    intro d hd
    rw [blk_iff] at hd
    have : d = 32 ∨ d = 9 := by
      rcases hd with hd | hd
      · left; apply UInt8.toNat_inj.1; show d.toNat = 32; omega
      · right; apply UInt8.toNat_inj.1; show d.toNat = 9; omega
    rcases this with rfl | rfl <;> decide
  refine ⟨?_, ?_, ?_⟩
  · cases hc : blk c with
    | false => rfl
    | true => rw [hb c hc] at h; cases h
  · rintro rfl; exact absurd h (by decide)
  · rintro rfl; exact absurd h (by decide)
theorem dec_val (n : Nat) : (Lib.decDigits n).all valC = true := by
  rw [List.all_eq_true]
  intro c hc
  have := List.all_eq_true.1 (dec_all n).1 c hc
  unfold valC; rw [this]; rfl
theorem dec_ne (n : Nat) : Lib.decDigits n ≠ [] := by rw [Lib.decDigits]; split <;> simp
theorem sized_val (n : Nat) : (sizedL n).all valC = true ∧ sizedL n ≠ [] := by
  unfold sizedL
  rw [if_neg (by omega)]
  split
  · exact ⟨by decide, by simp⟩
  · split
    · rw [show (n : Int) / 1073741824 = ((n / 1073741824 : Nat) : Int) from by omega, itoa_nat, List.all_append, dec_val]; exact ⟨by decide, by simp⟩
    · split
      · rw [show (n : Int) / 1048576 = ((n / 1048576 : Nat) : Int) from by omega, itoa_nat, List.all_append, dec_val]; exact ⟨by decide, by simp⟩
      · split
        · rw [show (n : Int) / 1024 = ((n / 1024 : Nat) : Int) from by omega, itoa_nat, List.all_append, dec_val]; exact ⟨by decide, by simp⟩
        · rw [itoa_nat]; exact ⟨dec_val n, dec_ne n⟩
theorem valL_ok (i n : Nat) : (valL i (n : Int)).all valC = true ∧ valL i (n : Int) ≠ [] := by
  unfold valL
  split
  · exact sized_val n
  · rw [itoa_nat]; exact ⟨dec_val n, dec_ne n⟩
theorem read_val (i n : Nat) (h : n ≤ 1125899906842624) : readL i (valL i (n : Int)) = some n := by
  unfold readL valL
  cases sizedI i with
  | true => simp only [if_true]; rw [kind_sized, if_pos h]
  | false => simp only [Bool.false_eq_true, if_false]; rw [itoa_nat, number_dec, if_pos (by omega)]
theorem name_ok (i : Nat) (h : i < 10) : (namesL.getD i []).all (fun c => !blk c && c != 35 && c != 10) = true ∧ namesL.getD i [] ≠ [] ∧ nameIx (namesL.getD i []) = some i := by
  have : ∀ j : Fin 10, (namesL.getD j.val []).all (fun c => !blk c && c != 35 && c != 10) = true ∧ namesL.getD j.val [] ≠ [] ∧ nameIx (namesL.getD j.val []) = some j.val := by decide
  exact this ⟨i, h⟩
theorem name_at {i : Nat} (h : i < 10) : ∀ c ∈ namesL.getD i [], blk c = false ∧ c ≠ 35 ∧ c ≠ 10 := by
  intro c hc
  have := List.all_eq_true.1 (name_ok i h).1 c hc
  simp only [Bool.and_eq_true, Bool.not_eq_true', bne_iff_ne, ne_eq] at this
  exact ⟨this.1.1, this.1.2, this.2⟩
theorem blankAt_app (a : List UInt8) (c : UInt8) (t : List UInt8) (h : ∀ x ∈ a, blk x = false) (hc : blk c = true) : blankAt (a ++ c :: t) = some a.length := by
  unfold blankAt
  induction a with
  | nil => simp [List.findIdx?_cons, hc]
  | cons x a ih =>
    rw [List.cons_append, List.findIdx?_cons, h x (by simp)]
    rw [ih (fun y hy => h y (by simp [hy]))]
    rfl
theorem val_core {v : List UInt8} (h : v.all valC = true) (hn : v ≠ []) : Core v := by
  constructor
  · cases v with
    | nil => exact absurd rfl hn
    | cons c t => exact ⟨c, t, rfl, (valC_ok (List.all_eq_true.1 h c (by simp))).1⟩
  · rcases nil_or_snoc v with rfl | ⟨t, c, rfl⟩
    · exact absurd rfl hn
    · exact ⟨t, c, rfl, (valC_ok (List.all_eq_true.1 h c (by simp))).1⟩
theorem say_num (i n : Nat) (y : List UInt8) (hi : i < 10) (hy : y.all blk = true) (hn : n ≤ 1125899906842624) : sayL (namesL.getD i [] ++ 32 :: (y ++ valL i (n : Int))) = some (i, n) := by
  unfold sayL
  rw [blankAt_app _ 32 _ (fun c hc => (name_at hi c hc).1) (by decide)]
  simp only
  rw [List.take_left, (name_ok i hi).2.2]
  simp only
  rw [List.drop_left]
  have ht : trim (32 :: (y ++ valL i (n : Int))) = valL i (n : Int) := by
    have := trim_core (32 :: y) (valL i (n : Int)) [] (by rw [List.all_cons, hy]; decide) rfl (val_core (valL_ok i n).1 (valL_ok i n).2)
    simpa using this
  rw [ht, read_val i n hn]
  rfl
theorem num_core (i n : Nat) (y : List UInt8) (hi : i < 10) : Core (namesL.getD i [] ++ 32 :: (y ++ valL i (n : Int))) := by
  constructor
  · have h := (name_ok i hi).2.1
    have h2 := name_at hi
    generalize namesL.getD i [] = nm at *
    cases nm with
    | nil => exact absurd rfl h
    | cons c t => exact ⟨c, _, rfl, (h2 c (by simp)).1⟩
  · obtain ⟨t, c, he, hc⟩ := (val_core (valL_ok i n).1 (valL_ok i n).2).last
    exact ⟨namesL.getD i [] ++ 32 :: (y ++ t), c, by rw [he]; simp, hc⟩
theorem num_ne (i n : Nat) (y : List UInt8) (hi : i < 10) (hy : y.all blk = true) : ∀ c ∈ namesL.getD i [] ++ 32 :: (y ++ valL i (n : Int)), c ≠ 35 ∧ c ≠ 10 := by
  intro c hc
  simp only [List.mem_append, List.mem_cons] at hc
  rcases hc with hc | rfl | hc | hc
  · exact (name_at hi c hc).2
  · decide
  · exact blk_ne (List.all_eq_true.1 hy c hc)
  · exact (valC_ok (List.all_eq_true.1 (valL_ok i n).1 c hc)).2
set_option maxRecDepth 100000 in
theorem valC_asc {c : UInt8} (h : valC c = true) : c.toNat < 128 := by
  have : ∀ k : Fin 256, valC (UInt8.ofNat k.val) = true → k.val < 128 := by decide
  have h2 := this ⟨c.toNat, c.toNat_lt⟩ (by rw [UInt8.ofNat_toNat]; exact h)
  exact h2
set_option maxRecDepth 100000 in
theorem blk_asc {c : UInt8} (h : blk c = true) : c.toNat < 128 := by
  have : ∀ k : Fin 256, blk (UInt8.ofNat k.val) = true → k.val < 128 := by decide
  have h2 := this ⟨c.toNat, c.toNat_lt⟩ (by rw [UInt8.ofNat_toNat]; exact h)
  exact h2
theorem name_asc (i : Nat) (h : i < 10) : asc (namesL.getD i []) = true := by
  have : ∀ j : Fin 10, asc (namesL.getD j.val []) = true := by decide
  exact this ⟨i, h⟩
theorem num_asc (i n : Nat) (y : List UInt8) (hi : i < 10) (hy : y.all blk = true) : asc (namesL.getD i [] ++ 32 :: (y ++ valL i (n : Int))) = true := by
  have h1 := name_asc i hi
  unfold asc at h1 ⊢
  rw [List.all_append, h1, List.all_cons, List.all_append]
  have h2 : (y.all fun c => decide (c.toNat < 128)) = true := by
    rw [List.all_eq_true]; exact fun c hc => decide_eq_true (blk_asc (List.all_eq_true.1 hy c hc))
  have h3 : ((valL i (n : Int)).all fun c => decide (c.toNat < 128)) = true := by
    rw [List.all_eq_true]; exact fun c hc => decide_eq_true (valC_asc (List.all_eq_true.1 (valL_ok i n).1 c hc))
  rw [h2, h3]; rfl
theorem is_num (p y x : List UInt8) (i n : Nat) (hp : p.all blk = true) (hy : y.all blk = true) (hx : Behind x) (hi : i < 10) (hn : n ≤ 1125899906842624) : Is (p ++ ((namesL.getD i [] ++ 32 :: (y ++ valL i (n : Int))) ++ x)) (.num i n) := by
  have hc := clean_core p _ x hp (num_core i n y hi) (fun c hc => (num_ne i n y hi hy c hc).1) hx
  have h32 : (32 : UInt8) ∈ namesL.getD i [] ++ 32 :: (y ++ valL i (n : Int)) := by simp
  refine ⟨?_, ?_, ?_, ?_⟩ <;> rw [hc]
  · intro h; rw [h] at h32; simp at h32
  · intro h; rw [h] at h32; exact absurd h32 (by decide)
  · exact say_num i n y hi hy hn
  · exact num_asc i n y hi hy
end Go.Proofs.YtnmfmcmokdoieaaGreatDoor
/- XConfLaw5 -/
namespace Go.Proofs.YtnmfmcmokdoieaaGreatDoor
def lineEv : Ev → List UInt8
  | .blank => []
  | .node => nodeL
  | .num i n => namesL.getD i [] ++ 32 :: valL i (n : Int)
def OkEv : Ev → Prop
  | .blank => False
  | .node => True
  | .num i n => i < 10 ∧ n ≤ 1125899906842624
def evText (es : List Ev) : List UInt8 := es.flatMap fun e => lineEv e ++ [10]
theorem line_ne {e : Ev} (h : OkEv e) : ∀ c ∈ lineEv e, c ≠ 10 := by
  cases e with
  | blank => exact h.elim
  | node => decide
  | num i n => exact fun c hc => (num_ne i n [] h.1 rfl c hc).2
theorem is_line {e : Ev} (h : OkEv e) : Is (lineEv e) e := by
  cases e with
  | blank => exact h.elim
  | node => have := is_node [] [] rfl (.inl rfl); rw [List.append_nil] at this; exact this
  | num i n => have := is_num [] [] [] i n rfl rfl (.inl rfl) h.1 h.2; rw [List.append_nil] at this; exact this
theorem nonblank {e : Ev} (h : OkEv e) : (!isBlank e) = true := by cases e with
  | blank => exact h.elim
  | node => rfl
  | num i n => rfl
theorem text_says (es : List Ev) (h : ∀ e ∈ es, OkEv e) : ∃ fs, Says (splitN (evText es)) fs ∧ fs.filter (!isBlank ·) = es := by
  induction es with
  | nil => exact ⟨[.blank], .cons (is_blank (.inl rfl)) .nil, rfl⟩
  | cons e r ih =>
    obtain ⟨fs, h1, h2⟩ := ih (fun x hx => h x (by simp [hx]))
    have he := h e (by simp)
    refine ⟨e :: fs, ?_, by rw [List.filter_cons, if_pos (nonblank he), h2]⟩
    have : evText (e :: r) = lineEv e ++ 10 :: evText r := by unfold evText; simp
    rw [this, splitN_cut _ _ (line_ne he)]
    exact .cons (is_line he) h1
/-- what is laid ahead of a line's end, and behind a blank or a line's end -/
def ins1 (words : List UInt8) (k : Nat) : List UInt8 := if k = 0 then [] else if k = 1 then [32] else if k = 2 then [9] else if k = 3 then 32 :: 35 :: words else [10, 32, 9]
def ins2 (k : Nat) : List UInt8 := if k = 2 then [32, 9, 32] else []
def deco1 (words : List UInt8) (odd j : Nat) (c : UInt8) : List UInt8 := (if c = 10 then ins1 words ((odd + j) % 5) else []) ++ ([c] ++ (if c = 32 ∨ c = 10 then ins2 ((odd + j) % 3) else []))
def deco (words : List UInt8) (odd : Nat) : Nat → List UInt8 → List UInt8
  | _, [] => []
  | j, c :: r => deco1 words odd j c ++ deco words odd (j + 1) r
theorem deco_append (words : List UInt8) (odd j : Nat) (a b : List UInt8) : deco words odd j (a ++ b) = deco words odd j a ++ deco words odd (j + a.length) b := by
  induction a generalizing j with
  | nil => simp [deco]
  | cons c a ih =>
    show deco1 words odd j c ++ deco words odd (j + 1) (a ++ b) = (deco1 words odd j c ++ deco words odd (j + 1) a) ++ deco words odd (j + (a.length + 1)) b
    rw [ih (j + 1), List.append_assoc, show j + 1 + a.length = j + (a.length + 1) from by omega]
theorem deco_plain (words : List UInt8) (odd j : Nat) (a : List UInt8) (h : ∀ c ∈ a, c ≠ 32 ∧ c ≠ 10) : deco words odd j a = a := by
  induction a generalizing j with
  | nil => rfl
  | cons c a ih =>
    have hc := h c (by simp)
    unfold deco deco1
    rw [ih _ (fun x hx => h x (by simp [hx])), if_neg hc.2, if_neg (by rintro (h | h); exact hc.1 h; exact hc.2 h)]
    simp
theorem ins2_blk (k : Nat) : (ins2 k).all blk = true := by unfold ins2; split <;> decide
theorem ins2_ne (k : Nat) : ∀ c ∈ ins2 k, c ≠ 10 := by unfold ins2; split <;> decide
theorem blk32 {c : UInt8} (h : blk c = false) : c ≠ 32 := by rintro rfl; exact absurd h (by decide)
/-- a line, dressed: blanks ahead of its value -/
theorem deco_line (words : List UInt8) (odd j : Nat) {e : Ev} (h : OkEv e) : ∃ L, deco words odd j (lineEv e) = L ∧ (∀ p x, p.all blk = true → Behind x → Is (p ++ (L ++ x)) e) ∧ ∀ c ∈ L, c ≠ 10 := by
  cases e with
  | blank => exact h.elim
  | node => exact ⟨nodeL, deco_plain _ _ _ _ (by decide), fun p x hp hx => is_node p x hp hx, by decide⟩
  | num i n =>
    have hv : ∀ c ∈ valL i (n : Int), c ≠ 32 ∧ c ≠ 10 := fun c hc => by
      have := valC_ok (List.all_eq_true.1 (valL_ok i n).1 c hc)
      exact ⟨blk32 this.1, this.2.2⟩
    refine ⟨namesL.getD i [] ++ 32 :: (ins2 ((odd + (j + (namesL.getD i []).length)) % 3) ++ valL i (n : Int)), ?_, fun p x hp hx => is_num p _ x i n hp (ins2_blk _) hx h.1 h.2, fun c hc => (num_ne i n _ h.1 (ins2_blk _) c hc).2⟩
    show deco words odd j (namesL.getD i [] ++ 32 :: valL i (n : Int)) = _
    rw [deco_append, deco_plain _ _ _ _ (fun c hc => ⟨blk32 (name_at h.1 c hc).1, (name_at h.1 c hc).2.2⟩)]
    unfold deco
    rw [deco_plain _ _ _ _ hv]
    unfold deco1
    rw [if_neg (by decide), if_pos (.inl rfl)]
    simp
theorem behind_ins (words : List UInt8) (k : Nat) (h : k ≠ 4) (hk : k < 5) (hw : ∀ c ∈ words, c ≠ 10) : Behind (ins1 words k) ∧ ∀ c ∈ ins1 words k, c ≠ 10 := by
  have hc : k = 0 ∨ k = 1 ∨ k = 2 ∨ k = 3 := by omega
  rcases hc with rfl | rfl | rfl | rfl
  · show Behind [] ∧ ∀ c ∈ ([] : List UInt8), c ≠ 10
    exact ⟨.inl rfl, by simp⟩
  · show Behind [32] ∧ ∀ c ∈ ([32] : List UInt8), c ≠ 10
    exact ⟨.inl (by decide), by decide⟩
  · show Behind [9] ∧ ∀ c ∈ ([9] : List UInt8), c ≠ 10
    exact ⟨.inl (by decide), by decide⟩
  · show Behind (32 :: 35 :: words) ∧ ∀ c ∈ (32 :: 35 :: words), c ≠ 10
    refine ⟨.inr ⟨[32], words, rfl, by decide⟩, fun c hc' => ?_⟩
    simp only [List.mem_cons] at hc'
    rcases hc' with rfl | rfl | hc'
    · decide
    · decide
    · exact hw c hc'
theorem filter_blank (fs : List Ev) : (Ev.blank :: fs).filter (!isBlank ·) = fs.filter (!isBlank ·) := rfl
theorem dress_says (words : List UInt8) (odd : Nat) (hw : ∀ c ∈ words, c ≠ 10) (es : List Ev) (h : ∀ e ∈ es, OkEv e) (j : Nat) (p : List UInt8) (hp : p.all blk = true) :
    ∃ fs, Says (splitN (p ++ deco words odd j (evText es))) fs ∧ fs.filter (!isBlank ·) = es := by
  induction es generalizing j p with
  | nil =>
    refine ⟨[.blank], ?_, rfl⟩
    have : deco words odd j (evText []) = [] := rfl
    rw [this, List.append_nil, splitN_none p (fun c hc => (blk_ne (List.all_eq_true.1 hp c hc)).2)]
    exact .cons (is_blank (.inl hp)) .nil
  | cons e r ih =>
    have he := h e (by simp)
    obtain ⟨L, hL, hLs, hLn⟩ := deco_line words odd j he
    have hpn : ∀ c ∈ p, c ≠ 10 := fun c hc => (blk_ne (List.all_eq_true.1 hp c hc)).2
    have e0 : evText (e :: r) = lineEv e ++ 10 :: evText r := by unfold evText; simp
    have e1 : deco words odd j (evText (e :: r)) = L ++ (ins1 words ((odd + (j + (lineEv e).length)) % 5) ++ 10 :: (ins2 ((odd + (j + (lineEv e).length)) % 3) ++ deco words odd (j + (lineEv e).length + 1) (evText r))) := by
      rw [e0, deco_append, hL]
      conv => lhs; arg 2; unfold deco
      unfold deco1
      rw [if_pos rfl, if_pos (.inr rfl)]
      simp
    obtain ⟨fs, h1, h2⟩ := ih (fun x hx => h x (by simp [hx])) (j + (lineEv e).length + 1) (ins2 ((odd + (j + (lineEv e).length)) % 3)) (ins2_blk _)
    rw [e1]
    generalize hk : (odd + (j + (lineEv e).length)) % 5 = k
    have hk5 : k < 5 := by omega
    by_cases h4 : k = 4
    · subst h4
      refine ⟨e :: .blank :: fs, ?_, by rw [List.filter_cons, if_pos (nonblank he), filter_blank, h2]⟩
      have e2 : p ++ (L ++ (ins1 words 4 ++ 10 :: (ins2 ((odd + (j + (lineEv e).length)) % 3) ++ deco words odd (j + (lineEv e).length + 1) (evText r)))) = (p ++ L) ++ 10 :: ([32, 9] ++ 10 :: (ins2 ((odd + (j + (lineEv e).length)) % 3) ++ deco words odd (j + (lineEv e).length + 1) (evText r))) := by
        simp [ins1]
      rw [e2, splitN_cut _ _ (fun c hc => by
        rcases List.mem_append.1 hc with hc | hc
        · exact hpn c hc
        · exact hLn c hc), splitN_cut _ _ (by decide)]
      refine .cons ?_ (.cons (is_blank (.inl (by decide))) h1)
      have := hLs p [] hp (.inl rfl)
      simpa using this
    · obtain ⟨hb, hn⟩ := behind_ins words k h4 hk5 hw
      refine ⟨e :: fs, ?_, by rw [List.filter_cons, if_pos (nonblank he), h2]⟩
      have e2 : p ++ (L ++ (ins1 words k ++ 10 :: (ins2 ((odd + (j + (lineEv e).length)) % 3) ++ deco words odd (j + (lineEv e).length + 1) (evText r)))) = (p ++ (L ++ ins1 words k)) ++ 10 :: (ins2 ((odd + (j + (lineEv e).length)) % 3) ++ deco words odd (j + (lineEv e).length + 1) (evText r)) := by simp
      rw [e2, splitN_cut _ _ (fun c hc => by
        rcases List.mem_append.1 hc with hc | hc
        · exact hpn c hc
        · rcases List.mem_append.1 hc with hc | hc
          · exact hLn c hc
          · exact hn c hc)]
      exact .cons (hLs p _ hp hb) h1
theorem right_most {c : Cfg} (h : c.right = true) : ∀ k, k < 10 → c.nums.getD k 0 ≤ 1125899906842624 := by
  unfold Cfg.right inB at h
  simp only [Bool.and_eq_true, decide_eq_true_eq] at h
  intro k hk
  unfold Cfg.nums
  match k, hk with
  | 0, _ => simp only [List.getD_cons_zero]; omega
  | 1, _ => simp only [List.getD_cons_succ, List.getD_cons_zero]; omega
  | 2, _ => simp only [List.getD_cons_succ, List.getD_cons_zero]; omega
  | 3, _ => simp only [List.getD_cons_succ, List.getD_cons_zero]; omega
  | 4, _ => simp only [List.getD_cons_succ, List.getD_cons_zero]; omega
  | 5, _ => simp only [List.getD_cons_succ, List.getD_cons_zero]; omega
  | 6, _ => simp only [List.getD_cons_succ, List.getD_cons_zero]; omega
  | 7, _ => simp only [List.getD_cons_succ, List.getD_cons_zero]; omega
  | 8, _ => simp only [List.getD_cons_succ, List.getD_cons_zero]; omega
  | 9, _ => simp only [List.getD_cons_succ, List.getD_cons_zero]; omega
theorem ev_ok {c : Cfg} (h : c.right = true) : ∀ e ∈ evOf c, OkEv e := by
  intro e he
  unfold evOf at he
  simp only [List.mem_cons, List.mem_flatMap, List.mem_range] at he
  rcases he with rfl | ⟨i, hi, he⟩
  · trivial
  · unfold evNum at he
    split at he
    · cases he
    · simp only [List.mem_singleton] at he
      subst he
      have h1 := right_nonneg h i hi
      have h2 := right_most h i hi
      exact ⟨hi, by omega⟩
theorem lines_ev {c : Cfg} (h : c.right = true) : nodeL :: numLines c = (evOf c).map lineEv := by
  unfold evOf numLines
  rw [List.map_cons, List.map_flatMap]
  congr 1
  have hcg : ∀ (L : List Nat) (f g : Nat → List (List UInt8)), (∀ i ∈ L, f i = g i) → L.flatMap f = L.flatMap g := by
    intro L f g hfg
    induction L with
    | nil => rfl
    | cons x L ih => rw [List.flatMap_cons, List.flatMap_cons, hfg x (by simp), ih (fun i hi => hfg i (by simp [hi]))]
  refine hcg _ _ _ fun i hi => ?_
  have hi' := List.mem_range.1 hi
  unfold numLine evNum
  split
  · rfl
  · have h1 := right_nonneg h i hi'
    simp only [List.map_cons, List.map_nil, lineEv]
    rw [show (((c.nums.getD i 0).toNat : Nat) : Int) = c.nums.getD i 0 from by omega]
theorem text_ev {l : List Cfg} (h : ∀ c ∈ l, c.right = true) : textL l = evText (l.flatMap evOf) := by
  unfold textL evText linesOf
  induction l with
  | nil => rfl
  | cons c l ih =>
    rw [List.flatMap_cons (f := fun c => nodeL :: numLines c), List.flatMap_append, List.flatMap_cons (f := evOf), List.flatMap_append, ih (fun x hx => h x (by simp [hx])), lines_ev (h c (by simp)), List.flatMap_map]
theorem cfgs_ok {l : List Cfg} (h : ∀ c ∈ l, c.right = true) : ∀ e ∈ l.flatMap evOf, OkEv e := by
  intro e he
  obtain ⟨c, hc, he⟩ := List.mem_flatMap.1 he
  exact ev_ok (h c hc) e he
/-- what is told is parsed as it was -/
theorem parse_text (l : List Cfg) (h : ∀ c ∈ l, c.right = true) (hl : l.length ≤ 16) : parseC (textL l) = (l, 0, 0) := by
  rw [text_ev h]
  obtain ⟨fs, h1, h2⟩ := text_says _ (cfgs_ok h)
  exact parse_says _ l fs h hl h1 h2
theorem text_asc (l : List Cfg) (h : ∀ c ∈ l, c.right = true) : ∀ t ∈ splitN (textL l), asc (cleanL t) = true := by
  rw [text_ev h]
  obtain ⟨fs, h1, h2⟩ := text_says _ (cfgs_ok h)
  exact says_asc h1
/-- the same, dressed -/
theorem parse_dressed (l : List Cfg) (h : ∀ c ∈ l, c.right = true) (hl : l.length ≤ 16) (words : List UInt8) (odd : Nat) (hw : ∀ c ∈ words, c ≠ 10) :
    parseC (35 :: (words ++ 10 :: 10 :: deco words odd 0 (textL l))) = (l, 0, 0) := by
  rw [text_ev h]
  obtain ⟨fs, h1, h2⟩ := dress_says words odd hw _ (cfgs_ok h) 0 [] rfl
  refine parse_says _ l (.blank :: .blank :: fs) h hl ?_ (by rw [filter_blank, filter_blank]; exact h2)
  rw [show 35 :: (words ++ 10 :: 10 :: deco words odd 0 (evText (l.flatMap evOf))) = (35 :: words) ++ 10 :: ([] ++ 10 :: deco words odd 0 (evText (l.flatMap evOf))) from by simp,
    splitN_cut _ _ (fun c hc => by
      rcases List.mem_cons.1 hc with rfl | hc
      · decide
      · exact hw c hc), splitN_cut _ _ (by simp)]
  exact .cons (is_blank (.inr ⟨[], words, rfl, rfl⟩)) (.cons (is_blank (.inl rfl)) (by simpa using h1))
theorem dressed_asc (l : List Cfg) (h : ∀ c ∈ l, c.right = true) (words : List UInt8) (odd : Nat) (hw : ∀ c ∈ words, c ≠ 10) :
    ∀ t ∈ splitN (35 :: (words ++ 10 :: 10 :: deco words odd 0 (textL l))), asc (cleanL t) = true := by
  rw [text_ev h]
  obtain ⟨fs, h1, h2⟩ := dress_says words odd hw _ (cfgs_ok h) 0 [] rfl
  refine says_asc (es := .blank :: .blank :: fs) ?_
  rw [show 35 :: (words ++ 10 :: 10 :: deco words odd 0 (evText (l.flatMap evOf))) = (35 :: words) ++ 10 :: ([] ++ 10 :: deco words odd 0 (evText (l.flatMap evOf))) from by simp,
    splitN_cut _ _ (fun c hc => by
      rcases List.mem_cons.1 hc with rfl | hc
      · decide
      · exact hw c hc), splitN_cut _ _ (by simp)]
  exact .cons (is_blank (.inr ⟨[], words, rfl, rfl⟩)) (.cons (is_blank (.inl rfl)) (by simpa using h1))
end Go.Proofs.YtnmfmcmokdoieaaGreatDoor
