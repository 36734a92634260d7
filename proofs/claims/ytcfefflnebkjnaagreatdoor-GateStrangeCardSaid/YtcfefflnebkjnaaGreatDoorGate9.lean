/- Layer 45: the document's example. A contract; conditions: the library's tables and variables. -/
import Derived.Test.YtcfefflnebkjnaaGreatDoorJGate3
import Derived.Test.YtcfefflnebkjnaaGreatDoorGate6
import Derived.Test.YtcfefflnebkjnaaGreatDoorGate8
set_option linter.unusedVariables false
set_option linter.unusedSimpArgs false
namespace Go.Proofs.YtcfefflnebkjnaaGreatDoor
open Go.RowKit
def q45 : ReqT := (false, [47, 97], [(0, 4)], CondT.none0)
def b45 : List UInt8 := [71, 69, 84, 32, 47, 97, 32, 72, 84, 84, 80, 47, 49, 46, 49, 13, 10, 82, 97, 110, 103, 101, 58, 32, 98, 121, 116, 101, 115, 61, 48, 45, 52, 13, 10, 13, 10]
def f45 : List Fld := [([88], [121])]
def p45 : List PartT := [([], 1, 3), ([33], 0, 0)]
def w45 : List UInt8 := [72, 84, 84, 80, 47, 49, 46, 49, 32, 50, 48, 54, 32, 80, 97, 114, 116, 105, 97, 108, 32, 67, 111, 110, 116, 101, 110, 116, 13, 10, 88, 58, 32, 121, 13, 10, 84, 114, 97, 110, 115, 102, 101, 114, 45, 69, 110, 99, 111, 100, 105, 110, 103, 58, 32, 99, 104, 117, 110, 107, 101, 100, 13, 10, 13, 10, 51, 13, 10, 98, 99, 33, 13, 10, 48, 13, 10, 13, 10]
theorem put45 : putQ q45 = (b45, 0) := by decide +kernel
theorem whole45 : wholeR 206 f45 p45 (-1) [97, 98, 99, 100] = (w45, 0) := by decide +kernel
theorem head45 : headR 99 [] 0 = ([], 1) := by decide +kernel
theorem body45 : gBody (-1) [122] = [49, 13, 10, 122, 13, 10] := by decide +kernel
theorem end45 : gEnd (-1) false = [] := by decide +kernel
theorem ask45 : askQ (b45 ++ [109, 111, 114, 101]) = (q45, b45.length, 0) := by
  have h := askQ_back (q := q45) (by rw [put45]) [109, 111, 114, 101]
  rw [put45] at h
  exact h
theorem putQ_le (q : ReqT) : (putQ q).1.length ≤ 70000 := by
  unfold putQ
  cases hb : reqB q with
  | false => simp
  | true =>
    rw [if_pos rfl]
    have := (objB_all (reqB_iff.1 hb).1).2.1
    refine putH_le (reqH q) ?_ (by show q.2.1.length ≤ 600; omega)
    show (if q.1 then headB else getB).length ≤ 600
    split <;> decide
def s45a : List UInt8 := [84, 114, 97, 110, 115, 102, 101, 114, 45, 69, 110, 99, 111, 100, 105, 110, 103, 58, 32, 99, 104, 117, 110, 107, 101, 100, 13, 10, 13, 10]
def s45b : List UInt8 := [99, 111, 110, 116, 101, 110, 116, 45, 108, 101, 110, 103, 116, 104, 58, 32, 51, 13, 10, 13, 10]
def s45c : List UInt8 := [82, 97, 110, 103, 101, 58, 32, 98, 121, 116, 101, 115, 61, 48, 45, 49, 13, 10, 82, 97, 110, 103, 101, 58, 32, 98, 121, 116, 101, 115, 61, 48, 45, 49, 13, 10, 67, 111, 110, 116, 101, 110, 116, 45, 76, 101, 110, 103, 116, 104, 58, 32, 48, 13, 10, 13, 10]
theorem strange1 {q : ReqT} (h : (putQ q).2 = 0) : askQ ((putQ q).1.take ((putQ q).1.length - 2) ++ s45a) = (ReqT.zero, 0, 2) := by
  have hs := reqF_size (putQ_ok h).1
  have hm := askQ_more h [(codingN, chunkedN)] (by decide) (by simp; omega) (by have h9 : bulk2 [(codingN, chunkedN)] = 24 := (by decide); omega)
  rw [askF_coding] at hm
  exact hm
theorem strange2 {q : ReqT} (h : (putQ q).2 = 0) : askQ ((putQ q).1.take ((putQ q).1.length - 2) ++ s45b) = (ReqT.zero, 0, 2) := by
  have hs := reqF_size (putQ_ok h).1
  have hm := askQ_more h [(low lengthN, [51])] (by decide) (by simp; omega) (by have h9 : bulk2 [(low lengthN, [51])] = 15 := (by decide); omega)
  rw [askF_length _ _ _ _ _ _ (by decide) (by decide) (by decide)] at hm
  exact hm
theorem strange3 {q : ReqT} (h : (putQ q).2 = 0) : ∃ n, askQ ((putQ q).1.take ((putQ q).1.length - 2) ++ s45c) = ((q.1, q.2.1, [], q.2.2.2), n, 0) := by
  have hs := reqF_size (putQ_ok h).1
  have hm := askQ_more h [(rngN, [98, 121, 116, 101, 115, 61, 48, 45, 49]), (rngN, [98, 121, 116, 101, 115, 61, 48, 45, 49]), (lengthN, [48])] (by decide) (by simp; omega) (by have h9 : bulk2 [(rngN, [98, 121, 116, 101, 115, 61, 48, 45, 49]), (rngN, [98, 121, 116, 101, 115, 61, 48, 45, 49]), (lengthN, [48])] = 43 := (by decide); omega)
  rw [askF_ranges _ _ _ _ (putQ_ok h).1] at hm
  exact ⟨_, hm⟩
/-- the walk -/
theorem none45 (x : World) : Calls Tryz.prog 38 #[] x (fun e w' => e = .returned (.agg #[.slice none 0 0, .slice none 0 0, .bool false, .bool false, .int .i64 (-1), .int .i64 (-1), str [], .bool false]) ∧ Gr x w') := condNone_any x
theorem low45 : ReqLow q45 := ⟨by decide, by decide, fun t h => absurd h (by simp [q45, CondT.none0]), fun t h => absurd h (by simp [q45, CondT.none0])⟩
theorem cput45 (A : Option Addr) (c : Nat) (w : World) (hp : Pw w) (hs : Specs w (.slice A 1 c) [(0, 4)]) : Calls Tryz.prog 16 #[.agg #[.bool false, str [47, 97], .slice A 1 c, .slice none 0 0, .slice none 0 0, .bool false, .bool false, .int .i64 (-1), .int .i64 (-1), str [], .bool false]] w (PutM w (b45, 0)) := by
  have h := gatePut_any q45 (.slice A 1 c) (.slice none 0 0) (.slice none 0 0) w hp ⟨hs, Tags.nil _, Tags.nil _⟩ low45 (by decide) (by decide)
  rw [put45] at h
  exact h
theorem cask45 (v : Value) (w : World) (hm : Ml w) (hb : Byts w v (b45 ++ [109, 111, 114, 101])) : Calls Tryz.prog 12 #[v] w fun e w' => ∃ us um un, e = .returned (.tuple #[.agg #[.bool false, str [47, 97], us, um, un, .bool false, .bool false, .int .i64 (-1), .int .i64 (-1), str [], .bool false], .int .i64 (b45.length : Nat), .int .i64 0]) ∧ ReqA w' q45 us um un ∧ Gr w w' := by
  have h := gateAsk_any v (b45 ++ [109, 111, 114, 101]) w hb hm (by decide)
  rw [ask45] at h
  refine h.mono ?_
  rintro e w' ⟨us, um, un, he, hA, hg, _⟩
  exact ⟨us, um, un, he, hA, hg⟩
theorem csame45 (v1 v2 v3 u1 u2 u3 : Value) (w : World) (h : ReqA w q45 v1 v2 v3) (k : ReqA w q45 u1 u2 u3) : Calls Tryz.prog 14 #[.agg #[.bool false, str [47, 97], v1, v2, v3, .bool false, .bool false, .int .i64 (-1), .int .i64 (-1), str [], .bool false], .agg #[.bool false, str [47, 97], u1, u2, u3, .bool false, .bool false, .int .i64 (-1), .int .i64 (-1), str [], .bool false]] w fun e w' => e = .returned (.bool true) ∧ Gr w w' := refSame45_eq q45 v1 v2 v3 u1 u2 u3 w h k
set_option maxRecDepth 100000 in
theorem cwhole45 (A1 A2 A3 : Option Addr) (c1 c2 c3 : Nat) (w : World) (hp : Pw w) (hz : Tz w) (hf : Flds w (.slice A1 1 c1) f45) (hu : Parts w (.slice A2 2 c2) p45) (hb : Byts w (.slice A3 4 c3) [97, 98, 99, 100]) : Calls Tryz.prog 26 #[.agg #[.int .i64 206, .slice A1 1 c1, .slice A2 2 c2, .int .i64 (-1)], .slice A3 4 c3] w (WEnd w (w45, 0)) := by
  have h := gateWhole_any 206 (-1) f45 (.slice A3 4 c3) A1 A2 c1 c2 p45 [97, 98, 99, 100] w hp hz hf (fun f h => by simp only [f45, List.mem_singleton] at h; subst h; simp) (by decide) (by decide) hu hb (by decide) (by decide) (fun p h => by simp only [p45, List.mem_cons, List.not_mem_nil, or_false] at h; rcases h with rfl | rfl <;> simp)
  rw [whole45] at h
  exact h
theorem chead45 (w : World) (hp : Pw w) : Calls Tryz.prog 20 #[.agg #[.int .i64 99, .slice none 0 0, .slice none 0 0, .int .i64 0]] w (PutM w ([], 1)) := by
  have h := gateHead_any 99 0 [] none 0 (.slice none 0 0) w hp (nil_fld _) (fun f h => absurd h (by simp)) (by decide) (by decide)
  rw [head45] at h
  exact h
theorem cbody45 (A1 A2 A3 : Option Addr) (c1 c2 c3 : Nat) (w : World) (hz : Tz w) (hb : Byts w (.slice A3 1 c3) [122]) : Calls Tryz.prog 22 #[.agg #[.int .i64 206, .slice A1 1 c1, .slice A2 2 c2, .int .i64 (-1)], .slice A3 1 c3] w fun e w' => ∃ A c, e = .returned (.slice A 6 c) ∧ Byts w' (.slice A 6 c) [49, 13, 10, 122, 13, 10] ∧ Gr w w' := by
  have h := gateBody_any 206 (-1) (.slice A1 1 c1) (.slice A2 2 c2) [122] (.slice A3 1 c3) w hz hb (by decide)
  rw [body45] at h
  exact h
theorem cend45 (A1 A2 : Option Addr) (c1 c2 : Nat) (w : World) : Calls Tryz.prog 24 #[.agg #[.int .i64 206, .slice A1 1 c1, .slice A2 2 c2, .int .i64 (-1)], .bool false] w fun e w' => ∃ A c, e = .returned (.slice A 0 c) ∧ Byts w' (.slice A 0 c) [] ∧ Gr w w' := by
  have h := gateEnd_any 206 (-1) (.slice A1 1 c1) (.slice A2 2 c2) false w
  rw [end45] at h
  exact h
end Go.Proofs.YtcfefflnebkjnaaGreatDoor
