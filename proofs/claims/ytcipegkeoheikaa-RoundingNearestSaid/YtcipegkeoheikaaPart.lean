/- Products with a fraction, rounded once: the program's Part and the reference's both give the specified number or error. -/
import Derived.Test.YtcipegkeoheikaaPNx3
import Derived.Test.YtcipegkeoheikaaNum
import Derived.Test.YtcipegkeoheikaaWhole
namespace Go.Proofs.Ytcipegkeoheikaa.Pure
open Go.RowKit Go.Proofs.Ytcipegkeoheikaa.PN Go.Proofs.YtcipegkeoheikaaW.PrintWords
set_option linter.unusedVariables false
set_option linter.unusedSimpArgs false

/-- a * n / d, rounded to a multiple of u. -/
def partV (a n d u m : Int) : Int := near (a * n) (d * u) m * u

def partS (a n d u m : Int) : Int × Int :=
  if a < -1000000000000 ∨ 1000000000000 < a ∨ n < 0 ∨ 1000000 < n ∨ d < 1 ∨ 1000000 < d ∨ u < 1 ∨ 1000000 < u ∨ m < 0 ∨ 6 < m then (0, 2)
  else if partV a n d u m < -1000000000000 ∨ 1000000000000 < partV a n d u m then (0, 4) else (partV a n d u m, 0)

theorem partV_bd (a n d u m : Int) (ha0 : -1000000000000 ≤ a) (ha1 : a ≤ 1000000000000) (hn0 : 0 ≤ n) (hn1 : n ≤ 1000000) (hd0 : 1 ≤ d) (hd1 : d ≤ 1000000) (hu0 : 1 ≤ u) (hu1 : u ≤ 1000000) :
    (-1000000000000000000 ≤ a * n ∧ a * n ≤ 1000000000000000000) ∧ (1 ≤ d * u ∧ d * u ≤ 1000000000000) ∧ (-1000002000000000000 ≤ partV a n d u m ∧ partV a n d u m ≤ 1000002000000000000) := by
  have h1 := mul_bd ha0 ha1 (show -1000000 ≤ n by omega) hn1
  have h2 := mul_bd (show -1000000 ≤ d by omega) hd1 (show -1000000 ≤ u by omega) hu1
  have h3 : 1 * 1 ≤ d * u := Int.mul_le_mul hd0 hu0 (by omega) (by omega)
  refine ⟨by omega, by omega, ?_⟩
  have e0 := Int.emod_add_mul_ediv (a * n) (d * u)
  have e1 := Int.emod_nonneg (a * n) (show d * u ≠ 0 by omega)
  have e2 := Int.emod_lt_of_pos (a * n) (show 0 < d * u by omega)
  unfold partV
  have hx : -1000001000000000000 ≤ a * n / (d * u) * u ∧ a * n / (d * u) * u ≤ 1000001000000000000 := by
    have e3 : d * u * (a * n / (d * u)) = a * n / (d * u) * u * d := by
      rw [Int.mul_comm d u, Int.mul_comm (u * d), ← Int.mul_assoc]
    rw [e3] at e0
    generalize a * n / (d * u) * u = x at *
    by_cases hx0 : 0 ≤ x
    · have : x * 1 ≤ x * d := Int.mul_le_mul_of_nonneg_left hd0 hx0
      omega
    · have : x * d ≤ x * 1 := Int.mul_le_mul_of_nonpos_left (by omega) hd0
      omega
  rcases near_or (a * n) (d * u) m with h | h <;> rw [h]
  · omega
  · rw [Int.add_mul, Int.one_mul]; omega

theorem part_is (a n d u m : Int) (k : Nat) : rounding_Part.f (k + 1) a n d u m = some (partS a n d u m) := by
  have bad : (a < -1000000000000 ∨ 1000000000000 < a ∨ n < 0 ∨ 1000000 < n ∨ d < 1 ∨ 1000000 < d ∨ u < 1 ∨ 1000000 < u ∨ m < 0 ∨ 6 < m) → rounding_Part.j0 (k + 1) a n d u m true = some (partS a n d u m) := fun h => by
    simp only [rounding_Part.j0, partS, if_pos h, if_true]
  unfold rounding_Part.f
  by_cases h1 : a < -1000000000000
  · rw [if_pos h1]; exact bad (by omega)
  by_cases h2 : a > 1000000000000
  · rw [if_neg h1, if_pos h2]; exact bad (by omega)
  by_cases h3 : n < 0
  · rw [if_neg h1, if_neg h2, if_pos h3]; exact bad (by omega)
  by_cases h4 : n > 1000000
  · rw [if_neg h1, if_neg h2, if_neg h3, if_pos h4]; exact bad (by omega)
  by_cases h5 : d < 1
  · rw [if_neg h1, if_neg h2, if_neg h3, if_neg h4, if_pos h5]; exact bad (by omega)
  by_cases h6 : d > 1000000
  · rw [if_neg h1, if_neg h2, if_neg h3, if_neg h4, if_neg h5, if_pos h6]; exact bad (by omega)
  by_cases h7 : u < 1
  · rw [if_neg h1, if_neg h2, if_neg h3, if_neg h4, if_neg h5, if_neg h6, if_pos h7]; exact bad (by omega)
  by_cases h8 : u > 1000000
  · rw [if_neg h1, if_neg h2, if_neg h3, if_neg h4, if_neg h5, if_neg h6, if_neg h7, if_pos h8]; exact bad (by omega)
  by_cases h9 : m < 0
  · rw [if_neg h1, if_neg h2, if_neg h3, if_neg h4, if_neg h5, if_neg h6, if_neg h7, if_neg h8, if_pos h9]; exact bad (by omega)
  rw [if_neg h1, if_neg h2, if_neg h3, if_neg h4, if_neg h5, if_neg h6, if_neg h7, if_neg h8, if_neg h9]
  by_cases h10 : m > 6
  · rw [decide_eq_true h10]; exact bad (by omega)
  rw [decide_eq_false h10]
  obtain ⟨b1, b2, b3⟩ := partV_bd a n d u m (by omega) (by omega) (by omega) (by omega) (by omega) (by omega) (by omega) (by omega)
  have e : near (a * n) (d * u) m * u = partV a n d u m := rfl
  simp only [rounding_Part.j0, partS]
  rw [if_neg (by simp), if_neg (by omega), w64 (x := a * n) (by omega) (by omega), w64 (x := d * u) (by omega) (by omega), whole_is _ _ _ (by omega) (by omega) (by omega) (by omega)]
  simp only [Option.bind_some]
  rw [e, w64 (x := partV a n d u m) (by omega) (by omega)]
  by_cases h11 : partV a n d u m < -1000000000000
  · rw [if_pos h11, if_pos (by omega)]
  · by_cases h12 : partV a n d u m > 1000000000000
    · rw [if_neg h11, if_pos h12, if_pos (by omega)]
    · rw [if_neg h11, if_neg h12, if_neg (by omega)]

end Go.Proofs.Ytcipegkeoheikaa.Pure
