/- The reference's sum of fractions is the program's. -/
import Derived.Test.YtcipegkeoheikaaPKx7
import Derived.Test.YtcipegkeoheikaaRatioOps
import Derived.Test.YtcipegkeoheikaaTapeR
namespace Go.Proofs.Ytcipegkeoheikaa.Pure
open Go.RowKit Go.Proofs.Ytcipegkeoheikaa Go.Proofs.Ytcipegkeoheikaa.PK Go.Proofs.YtcipegkeoheikaaW.PrintWords
set_option linter.unusedVariables false
set_option linter.unusedSimpArgs false

theorem refvalid_is (n d : Int) : Ev (fun k => payrollref1_Valid.f k n d) (decide (validP n d)) := by
  unfold payrollref1_Valid.f
  by_cases h1 : d ≥ 1
  case neg => simp only [if_neg h1]; rw [decide_eq_false (by unfold validP; omega)]; exact Ev.now _
  by_cases h2 : d ≤ 1000000
  case neg => simp only [if_pos h1, if_neg h2]; rw [decide_eq_false (by unfold validP; omega)]; exact Ev.now _
  by_cases h3 : n ≥ -1000000000000
  case neg => simp only [if_pos h1, if_pos h2, if_neg h3]; rw [decide_eq_false (by unfold validP; omega)]; exact Ev.now _
  by_cases h4 : n ≤ 1000000000000
  case neg => simp only [if_pos h1, if_pos h2, if_pos h3, if_neg h4]; rw [decide_eq_false (by unfold validP; omega)]; exact Ev.now _
  simp only [if_pos h1, if_pos h2, if_pos h3, if_pos h4, refsize_is n (by omega) (by omega), refsize_is d (by omega) (by omega), Option.bind_some]
  refine Ev.bind (refgcd_is n.natAbs d.natAbs) ?_
  have : (((Nat.gcd n.natAbs d.natAbs : Nat) : Int) == 1) = decide (validP n d) := by
    by_cases hg : Nat.gcd n.natAbs d.natAbs = 1
    · rw [decide_eq_true (show validP n d from ⟨h1, h2, h3, h4, hg⟩), hg]; rfl
    · rw [decide_eq_false (show ¬ validP n d from fun h => hg h.2.2.2.2)]
      exact beq_eq_false_iff_ne.2 (by omega)
  rw [this]; exact Ev.now _


theorem refadd_is (a b c d : Int) : Ev (fun k => payrollref1_Add.f k a b c d) (addS a b c d) := by
  unfold payrollref1_Add.f addS
  refine Ev.bind (refvalid_is a b) ?_
  by_cases h1 : validP a b
  case neg => simp only [decide_eq_false h1, Bool.false_eq_true, if_false, if_pos (show ¬ validP a b ∨ ¬ validP c d from .inl h1)]; exact Ev.now _
  simp only [decide_eq_true h1, if_true]
  refine Ev.bind (refvalid_is c d) ?_
  by_cases h2 : validP c d
  case neg => simp only [decide_eq_false h2, Bool.false_eq_true, if_false, if_pos (show ¬ validP a b ∨ ¬ validP c d from .inr h2)]; exact Ev.now _
  obtain ⟨m1, m2, m3⟩ := rprod_bd h1 h2
  simp only [decide_eq_true h2, if_true, if_neg (show ¬ (¬ validP a b ∨ ¬ validP c d) by simp [h1, h2])]
  rw [w64 (x := a * d) (by omega) (by omega), w64 (x := c * b) (by omega) (by omega), w64 (x := a * d + c * b) (by omega) (by omega), w64 (x := b * d) (by omega) (by omega)]
  exact Ev.bind (refnew_is _ _ (by omega) (by omega) (by omega) (by omega)) (Ev.now _)
end Go.Proofs.Ytcipegkeoheikaa.Pure
