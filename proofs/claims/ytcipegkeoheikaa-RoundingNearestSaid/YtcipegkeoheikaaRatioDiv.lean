/- Quotients of fractions: what the program's functions compute. -/
import Derived.Test.YtcipegkeoheikaaPNx6
import Derived.Test.YtcipegkeoheikaaRatioOps
namespace Go.Proofs.Ytcipegkeoheikaa.Pure
open Go.RowKit Go.Proofs.Ytcipegkeoheikaa Go.Proofs.Ytcipegkeoheikaa.PN Go.Proofs.YtcipegkeoheikaaW.PrintWords
set_option linter.unusedVariables false
set_option linter.unusedSimpArgs false

def divS (a b c d : Int) : Int × Int × Int := if ¬ validP a b ∨ ¬ validP c d then (0, 0, 1) else if c = 0 then (0, 0, 5) else newS (a * d) (b * c)

theorem div_is (a b c d : Int) : Ev (fun k => ratio_Div.f k a b c d) (divS a b c d) := by
  unfold ratio_Div.f divS
  refine Ev.bind (both_is a b c d) ?_
  by_cases h : validP a b ∧ validP c d
  case neg =>
    simp only [if_neg h, if_pos (both_no h)]
    exact Ev.now _
  obtain ⟨m1, m2, m3⟩ := rprod_bd h.1 h.2
  simp only [if_pos h, if_true, if_neg (show ¬ (¬ validP a b ∨ ¬ validP c d) by simp [h.1, h.2])]
  by_cases hc : c = 0
  · simp only [if_pos hc]; exact Ev.now _
  simp only [if_neg hc]
  rw [Int.mul_comm b c, w64 (x := a * d) (by omega) (by omega), w64 (x := c * b) (by omega) (by omega)]
  exact Ev.bind (new_is _ _ (by omega) (by omega) (by omega) (by omega)) (Ev.now _)

theorem div_facts {a b c d : Int} (h1 : validP a b) (h2 : validP c d) (hc : 0 < c) : ∃ r1 r2 e, divS a b c d = (r1, r2, e) ∧ (e = 4 ∧ r1 = 0 ∧ r2 = 0 ∨ e = 0 ∧ validP r1 r2 ∧ r1 * (b * c) = a * d * r2) := by
  unfold divS
  rw [if_neg (by simp [h1, h2]), if_neg (by omega)]
  exact newS_facts _ _ (Int.mul_pos (by have := h1.1; omega) hc)
end Go.Proofs.Ytcipegkeoheikaa.Pure
