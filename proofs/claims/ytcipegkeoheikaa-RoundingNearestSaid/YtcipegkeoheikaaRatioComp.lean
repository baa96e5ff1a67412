/- How fractions compare. -/
import Derived.Test.YtcipegkeoheikaaPNx6
import Derived.Test.YtcipegkeoheikaaRatio
namespace Go.Proofs.Ytcipegkeoheikaa.Pure
open Go.RowKit Go.Proofs.Ytcipegkeoheikaa Go.Proofs.Ytcipegkeoheikaa.PN Go.Proofs.YtcipegkeoheikaaW.PrintWords
set_option linter.unusedVariables false
set_option linter.unusedSimpArgs false

/-- How two fractions compare. -/
def compS (a b c d : Int) : Int := if ¬ validP a b ∨ ¬ validP c d then 0 else if a * d < c * b then -1 else if c * b < a * d then 1 else 0

theorem comp_is (a b c d : Int) : Ev (fun k => ratio_Compare.f k a b c d) (compS a b c d) := by
  unfold ratio_Compare.f compS
  refine Ev.bind (both_is a b c d) ?_
  by_cases h : validP a b ∧ validP c d
  case neg =>
    simp only [if_neg h, if_pos (show ¬ validP a b ∨ ¬ validP c d by by_cases h1 : validP a b; exact .inr (fun h2 => h ⟨h1, h2⟩); exact .inl h1)]
    exact Ev.now _
  obtain ⟨h1, h2⟩ := h
  have m1 := mul_bd h1.2.2.1 h1.2.2.2.1 (show -1000000 ≤ d by have := h2.1; omega) h2.2.1
  have m2 := mul_bd h2.2.2.1 h2.2.2.2.1 (show -1000000 ≤ b by have := h1.1; omega) h1.2.1
  simp only [if_pos (And.intro h1 h2), if_true, if_neg (show ¬ (¬ validP a b ∨ ¬ validP c d) by simp [h1, h2])]
  rw [w64 (x := a * d) (by omega) (by omega), w64 (x := c * b) (by omega) (by omega)]
  by_cases h3 : a * d < c * b
  · simp only [if_pos h3]; exact Ev.now _
  by_cases h4 : c * b < a * d
  · simp only [if_neg h3, if_pos (show a * d > c * b from h4), if_pos h4]; exact Ev.now _
  · simp only [if_neg h3, if_neg (show ¬ a * d > c * b from h4), if_neg h4]; exact Ev.now _

end Go.Proofs.Ytcipegkeoheikaa.Pure
