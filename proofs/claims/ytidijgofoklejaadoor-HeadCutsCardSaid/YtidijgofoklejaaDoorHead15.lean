/- What is small; head texts joined. -/
import Derived.Test.YtidijgofoklejaaDoorHead9
import Derived.Test.YtidijgofoklejaaDoorHead12
import Derived.Test.YtidijgofoklejaaDoorHead14
import Derived.Test.YtidijgofoklejaaDoorHeadLaw5
namespace Go.Proofs.YtidijgofoklejaaDoor
theorem headEnd_out {w w' : World} {n : Nat} {e : Ending} (h : HeadEnd w (noHead, 0, n) e w') : ∃ A c, e = .returned (.tuple #[.agg #[.string ⟨#[]⟩, .string ⟨#[]⟩, .int .i64 0, .slice A 0 c], .int .i64 0, .int .i64 n]) ∧ Flds w' (.slice A 0 c) [] ∧ Gr w w' ∧ Fresh w (.slice A 0 c) := h
theorem small_of12 {T : HeadT} (h : smallB T = true) : T.1.length ≤ 600 ∧ T.2.1.length ≤ 600 ∧ T.2.2.2.length ≤ 130 ∧ bulk2 T.2.2.2 ≤ 12000 := by
  unfold smallB fitsB at h
  simp only [Bool.and_eq_true, decide_eq_true_eq] at h
  omega
theorem putH_len (T : HeadT) (h1 : T.1.length ≤ 600) (h2 : T.2.1.length ≤ 600) : (putH T).1.length ≤ 70000 := by
  have hp := put_len T.2.2.2
  rcases Classical.em ((putH T).2 = 0) with h | h
  · obtain ⟨hb, he, _, _, hl⟩ := putH_ok h
    have := (line_no hb).2
    rw [he]; simp; omega
  · unfold putH at *
    split
    · rename_i hc
      split
      · rename_i hz; rw [if_pos hc, if_pos hz] at h; exact absurd rfl h
      · simp
    · simp
end Go.Proofs.YtidijgofoklejaaDoor
