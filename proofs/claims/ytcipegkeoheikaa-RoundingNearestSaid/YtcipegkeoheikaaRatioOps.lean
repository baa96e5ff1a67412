/- Sums and differences of fractions: what the program's functions compute. -/
import Derived.Test.YtcipegkeoheikaaPNx6
import Derived.Test.YtcipegkeoheikaaRatio
namespace Go.Proofs.Ytcipegkeoheikaa.Pure
open Go.RowKit Go.Proofs.Ytcipegkeoheikaa Go.Proofs.Ytcipegkeoheikaa.PN Go.Proofs.YtcipegkeoheikaaW.PrintWords
set_option linter.unusedVariables false
set_option linter.unusedSimpArgs false

def addS (a b c d : Int) : Int × Int × Int := if ¬ validP a b ∨ ¬ validP c d then (0, 0, 1) else newS (a * d + c * b) (b * d)
def subS (a b c d : Int) : Int × Int × Int := if ¬ validP a b ∨ ¬ validP c d then (0, 0, 1) else newS (a * d - c * b) (b * d)
theorem rprod_bd {a b c d : Int} (h1 : validP a b) (h2 : validP c d) :
    (-1000000000000000000 ≤ a * d ∧ a * d ≤ 1000000000000000000) ∧ (-1000000000000000000 ≤ c * b ∧ c * b ≤ 1000000000000000000) ∧ (0 < b * d ∧ b * d ≤ 1000000000000) := by
  have m1 := mul_bd h1.2.2.1 h1.2.2.2.1 (show -1000000 ≤ d by have := h2.1; omega) h2.2.1
  have m2 := mul_bd h2.2.2.1 h2.2.2.2.1 (show -1000000 ≤ b by have := h1.1; omega) h1.2.1
  have m3 := mul_bd (show -1000000 ≤ b by have := h1.1; omega) h1.2.1 (show -1000000 ≤ d by have := h2.1; omega) h2.2.1
  have m4 : 0 < b * d := Int.mul_pos (by have := h1.1; omega) (by have := h2.1; omega)
  omega

theorem both_no {a b c d : Int} (h : ¬ (validP a b ∧ validP c d)) : ¬ validP a b ∨ ¬ validP c d := by
  by_cases h1 : validP a b
  · exact .inr fun h2 => h ⟨h1, h2⟩
  · exact .inl h1

theorem add_is (a b c d : Int) : Ev (fun k => ratio_Add.f k a b c d) (addS a b c d) := by
  unfold ratio_Add.f addS
  refine Ev.bind (both_is a b c d) ?_
  by_cases h : validP a b ∧ validP c d
  case neg =>
    simp only [if_neg h, if_pos (both_no h)]
    exact Ev.now _
  obtain ⟨m1, m2, m3⟩ := rprod_bd h.1 h.2
  simp only [if_pos h, if_true, if_neg (show ¬ (¬ validP a b ∨ ¬ validP c d) by simp [h.1, h.2])]
  rw [w64 (x := a * d) (by omega) (by omega), w64 (x := c * b) (by omega) (by omega), w64 (x := a * d + c * b) (by omega) (by omega), w64 (x := b * d) (by omega) (by omega)]
  exact Ev.bind (new_is _ _ (by omega) (by omega) (by omega) (by omega)) (Ev.now _)

theorem sub_is (a b c d : Int) : Ev (fun k => ratio_Sub.f k a b c d) (subS a b c d) := by
  unfold ratio_Sub.f subS
  refine Ev.bind (both_is a b c d) ?_
  by_cases h : validP a b ∧ validP c d
  case neg =>
    simp only [if_neg h, if_pos (both_no h)]
    exact Ev.now _
  obtain ⟨m1, m2, m3⟩ := rprod_bd h.1 h.2
  simp only [if_pos h, if_true, if_neg (show ¬ (¬ validP a b ∨ ¬ validP c d) by simp [h.1, h.2])]
  rw [w64 (x := a * d) (by omega) (by omega), w64 (x := c * b) (by omega) (by omega), w64 (x := a * d - c * b) (by omega) (by omega), w64 (x := b * d) (by omega) (by omega)]
  exact Ev.bind (new_is _ _ (by omega) (by omega) (by omega) (by omega)) (Ev.now _)

theorem add_facts {a b c d : Int} (h1 : validP a b) (h2 : validP c d) : ∃ r1 r2 e, addS a b c d = (r1, r2, e) ∧ (e = 4 ∧ r1 = 0 ∧ r2 = 0 ∨ e = 0 ∧ validP r1 r2 ∧ r1 * (b * d) = (a * d + c * b) * r2) := by
  unfold addS
  rw [if_neg (by simp [h1, h2])]
  exact newS_facts _ _ (rprod_bd h1 h2).2.2.1
theorem sub_facts {a b c d : Int} (h1 : validP a b) (h2 : validP c d) : ∃ r1 r2 e, subS a b c d = (r1, r2, e) ∧ (e = 4 ∧ r1 = 0 ∧ r2 = 0 ∨ e = 0 ∧ validP r1 r2 ∧ r1 * (b * d) = (a * d - c * b) * r2) := by
  unfold subS
  rw [if_neg (by simp [h1, h2])]
  exact newS_facts _ _ (rprod_bd h1 h2).2.2.1
end Go.Proofs.Ytcipegkeoheikaa.Pure
