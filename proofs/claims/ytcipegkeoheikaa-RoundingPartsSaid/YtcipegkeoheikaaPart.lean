/- Products with a fraction, rounded once: the program's Part and the reference's both give the specified number or error. -/
import Derived.Test.YtcipegkeoheikaaPx4
import Derived.Test.YtcipegkeoheikaaPx5
import Derived.Test.YtcipegkeoheikaaPx6
import Derived.Test.YtcipegkeoheikaaNum
import Derived.Test.YtcipegkeoheikaaWhole
namespace Go.Proofs.Ytcipegkeoheikaa.Pure
open Go.RowKit Go.Proofs.Ytcipegkeoheikaa.P Go.Proofs.YtcipegkeoheikaaW.PrintWords
set_option linter.unusedVariables false
set_option linter.unusedSimpArgs false

theorem nearest_is (n d m : Int) (hd : 0 < d) (hd1 : d ≤ 2000000000000000000) (h0 : -2000000000000000000 ≤ n) (h1 : n ≤ 2000000000000000000) (hm0 : 0 ≤ m) (hm1 : m ≤ 6) (k : Nat) : payrollref2_nearest.f (k + 3) n d m = some (near n d m) := by
  obtain ⟨⟨e0, e1, e2⟩, hc⟩ := tdm n d hd
  obtain ⟨b0, b1⟩ := ediv_bd n d 2000000000000000000 hd h0 h1
  have hq2 : Int.tmod (n / d) 2 = 0 ↔ n / d % 2 = 0 := by rw [← Int.dvd_iff_tmod_eq_zero, Int.dvd_iff_emod_eq_zero]
  have key : payrollref2_nearest.j0 (k + 3) n d m (n / d) = some (near n d m) := by
    unfold near
    generalize hq : n / d = q at *
    generalize hr : n % d = r at *
    have hqd : wrap64 (q * d) = n - r := by rw [Int.mul_comm]; rw [w64 (by omega) (by omega)]; omega
    simp only [payrollref2_nearest.j0, payrollref2_nearest.j1, payrollref2_nearest.j2]
    rw [hqd, w64 (x := n - (n - r)) (by omega) (by omega), show n - (n - r) = r by omega, w64 (x := d - r) (by omega) (by omega), w64 (x := q + 1) (by omega) (by omega)]
    by_cases hr0 : r = 0
    · simp [hr0]
    · rcases Int.lt_trichotomy (2 * r) d with h2 | h2 | h2
      · have h3 : ¬ (d < 2 * r) := by omega
        have h4 : ¬ (d - r < r) := by omega
        have h5 : ¬ (r = d - r) := by omega
        by_cases hn : n < 0 <;> by_cases m2 : m = 2 <;> by_cases m3 : m = 3 <;> by_cases m0 : m = 0 <;> by_cases m1 : m = 1 <;> simp [hr0, hn, m2, m3, m0, m1, h2, h3, h4, h5] <;> try omega
      · have h3 : ¬ (d < 2 * r) := by omega
        have h4 : ¬ (d - r < r) := by omega
        have h5 : r = d - r := by omega
        have h6 : ¬ (2 * r < d) := by omega
        by_cases hn : n < 0 <;> by_cases m2 : m = 2 <;> by_cases m3 : m = 3 <;> by_cases m0 : m = 0 <;> by_cases m1 : m = 1 <;> by_cases m4 : m = 4 <;> by_cases m5 : m = 5 <;> by_cases hz : q % 2 = 0 <;> simp only [hr0, hn, m2, m3, m0, m1, m4, m5, h3, h4, eq_true h5, h6, hz, hq2, if_true, if_false] <;> first | rfl | omega | (simp; done) | (simp; omega)
      · have h3 : ¬ (2 * r < d) := by omega
        have h4 : d - r < r := by omega
        have h5 : ¬ (r = d - r) := by omega
        by_cases hn : n < 0 <;> by_cases m2 : m = 2 <;> by_cases m3 : m = 3 <;> by_cases m0 : m = 0 <;> by_cases m1 : m = 1 <;> simp [hr0, hn, m2, m3, m0, m1, h2, h3, h4, h5] <;> try omega
  unfold payrollref2_nearest.f
  rw [if_neg (by omega)]
  rcases hc with ⟨hs, ht, hu⟩ | ⟨hs, ht, hu⟩
  · rw [hu, w64 (x := n / d) (by omega) (by omega), Int.mul_comm (n / d) d, w64 (x := d * (n / d)) (by omega) (by omega), if_neg (by omega)]
    exact key
  · rw [hu, w64 (x := n / d + 1) (by omega) (by omega), Int.mul_comm _ d, Int.mul_add, Int.mul_one, w64 (x := d * (n / d) + d) (by omega) (by omega), if_pos (by omega), w64 (x := n / d + 1 - 1) (by omega) (by omega), show n / d + 1 - 1 = n / d by omega]
    exact key

/-- a * n / d, rounded to a multiple of u. -/
def partV (a n d u m : Int) : Int := near (a * n) (d * u) m * u

def partS (a n d u m : Int) : Int × Int :=
  if a < -1000000000000 ∨ 1000000000000 < a ∨ n < 0 ∨ 1000000 < n ∨ d < 1 ∨ 1000000 < d ∨ u < 1 ∨ 1000000 < u ∨ m < 0 ∨ 6 < m then (0, 2)
  else if partV a n d u m < -1000000000000 ∨ 1000000000000 < partV a n d u m then (0, 4) else (partV a n d u m, 0)

theorem partV_bd (a n d u m : Int) (ha0 : -1000000000000 ≤ a) (ha1 : a ≤ 1000000000000) (hn0 : 0 ≤ n) (hn1 : n ≤ 1000000) (hd0 : 1 ≤ d) (hd1 : d ≤ 1000000) (hu0 : 1 ≤ u) (hu1 : u ≤ 1000000) :
    (-1000000000000000000 ≤ a * n ∧ a * n ≤ 1000000000000000000) ∧ (1 ≤ d * u ∧ d * u ≤ 1000000000000) ∧ (-1000002000000000000 ≤ partV a n d u m ∧ partV a n d u m ≤ 1000002000000000000) := by
  have h1 := mul_bd ha0 ha1 (show -1000000 ≤ n by omega) hn1
  have h2 := mul_bd (show -1000000 ≤ d by omega) hd1 (show -1000000 ≤ u by omega) hu1
  have h3 : 1 * 1 ≤ d * u := Int.mul_le_mul hd0 hu0 (by omega) (by omega)
  refine ⟨by omega, by omega, ?_⟩
  have e0 := Int.emod_add_mul_ediv (a * n) (d * u)
  have e1 := Int.emod_nonneg (a * n) (show d * u ≠ 0 by omega)
  have e2 := Int.emod_lt_of_pos (a * n) (show 0 < d * u by omega)
  unfold partV
  have hx : -1000001000000000000 ≤ a * n / (d * u) * u ∧ a * n / (d * u) * u ≤ 1000001000000000000 := by
    have e3 : d * u * (a * n / (d * u)) = a * n / (d * u) * u * d := by
      rw [Int.mul_comm d u, Int.mul_comm (u * d), ← Int.mul_assoc]
    rw [e3] at e0
    generalize a * n / (d * u) * u = x at *
    by_cases hx0 : 0 ≤ x
    · have : x * 1 ≤ x * d := Int.mul_le_mul_of_nonneg_left hd0 hx0
      omega
    · have : x * d ≤ x * 1 := Int.mul_le_mul_of_nonpos_left (by omega) hd0
      omega
  rcases near_or (a * n) (d * u) m with h | h <;> rw [h]
  · omega
  · rw [Int.add_mul, Int.one_mul]; omega

theorem part_is (a n d u m : Int) (k : Nat) : rounding_Part.f (k + 1) a n d u m = some (partS a n d u m) := by
  have bad : (a < -1000000000000 ∨ 1000000000000 < a ∨ n < 0 ∨ 1000000 < n ∨ d < 1 ∨ 1000000 < d ∨ u < 1 ∨ 1000000 < u ∨ m < 0 ∨ 6 < m) → rounding_Part.j0 (k + 1) a n d u m true = some (partS a n d u m) := fun h => by
    simp only [rounding_Part.j0, partS, if_pos h, if_true]
  unfold rounding_Part.f
  by_cases h1 : a < -1000000000000
  · rw [if_pos h1]; exact bad (by omega)
  by_cases h2 : a > 1000000000000
  · rw [if_neg h1, if_pos h2]; exact bad (by omega)
  by_cases h3 : n < 0
  · rw [if_neg h1, if_neg h2, if_pos h3]; exact bad (by omega)
  by_cases h4 : n > 1000000
  · rw [if_neg h1, if_neg h2, if_neg h3, if_pos h4]; exact bad (by omega)
  by_cases h5 : d < 1
  · rw [if_neg h1, if_neg h2, if_neg h3, if_neg h4, if_pos h5]; exact bad (by omega)
  by_cases h6 : d > 1000000
  · rw [if_neg h1, if_neg h2, if_neg h3, if_neg h4, if_neg h5, if_pos h6]; exact bad (by omega)
  by_cases h7 : u < 1
  · rw [if_neg h1, if_neg h2, if_neg h3, if_neg h4, if_neg h5, if_neg h6, if_pos h7]; exact bad (by omega)
  by_cases h8 : u > 1000000
  · rw [if_neg h1, if_neg h2, if_neg h3, if_neg h4, if_neg h5, if_neg h6, if_neg h7, if_pos h8]; exact bad (by omega)
  by_cases h9 : m < 0
  · rw [if_neg h1, if_neg h2, if_neg h3, if_neg h4, if_neg h5, if_neg h6, if_neg h7, if_neg h8, if_pos h9]; exact bad (by omega)
  rw [if_neg h1, if_neg h2, if_neg h3, if_neg h4, if_neg h5, if_neg h6, if_neg h7, if_neg h8, if_neg h9]
  by_cases h10 : m > 6
  · rw [decide_eq_true h10]; exact bad (by omega)
  rw [decide_eq_false h10]
  obtain ⟨b1, b2, b3⟩ := partV_bd a n d u m (by omega) (by omega) (by omega) (by omega) (by omega) (by omega) (by omega) (by omega)
  have e : near (a * n) (d * u) m * u = partV a n d u m := rfl
  simp only [rounding_Part.j0, partS]
  rw [if_neg (by simp), if_neg (by omega), w64 (x := a * n) (by omega) (by omega), w64 (x := d * u) (by omega) (by omega), whole_is _ _ _ (by omega) (by omega) (by omega) (by omega)]
  simp only [Option.bind_some]
  rw [e, w64 (x := partV a n d u m) (by omega) (by omega)]
  by_cases h11 : partV a n d u m < -1000000000000
  · rw [if_pos h11, if_pos (by omega)]
  · by_cases h12 : partV a n d u m > 1000000000000
    · rw [if_neg h11, if_pos h12, if_pos (by omega)]
    · rw [if_neg h11, if_neg h12, if_neg (by omega)]

theorem refpart_is (a n d u m : Int) (k : Nat) : payrollref2_Part.f (k + 4) a n d u m = some (partS a n d u m) := by
  have bad : (a < -1000000000000 ∨ 1000000000000 < a ∨ n < 0 ∨ 1000000 < n ∨ d < 1 ∨ 1000000 < d ∨ u < 1 ∨ 1000000 < u ∨ m < 0 ∨ 6 < m) → payrollref2_Part.j0 (k + 4) a n d u m true = some (partS a n d u m) := fun h => by
    simp only [payrollref2_Part.j0, partS, if_pos h, if_true]
  unfold payrollref2_Part.f
  by_cases h1 : a < -1000000000000
  · rw [if_pos h1]; exact bad (by omega)
  by_cases h2 : a > 1000000000000
  · rw [if_neg h1, if_pos h2]; exact bad (by omega)
  by_cases h3 : n < 0
  · rw [if_neg h1, if_neg h2, if_pos h3]; exact bad (by omega)
  by_cases h4 : n > 1000000
  · rw [if_neg h1, if_neg h2, if_neg h3, if_pos h4]; exact bad (by omega)
  by_cases h5 : d < 1
  · rw [if_neg h1, if_neg h2, if_neg h3, if_neg h4, if_pos h5]; exact bad (by omega)
  by_cases h6 : d > 1000000
  · rw [if_neg h1, if_neg h2, if_neg h3, if_neg h4, if_neg h5, if_pos h6]; exact bad (by omega)
  by_cases h7 : u < 1
  · rw [if_neg h1, if_neg h2, if_neg h3, if_neg h4, if_neg h5, if_neg h6, if_pos h7]; exact bad (by omega)
  by_cases h8 : u > 1000000
  · rw [if_neg h1, if_neg h2, if_neg h3, if_neg h4, if_neg h5, if_neg h6, if_neg h7, if_pos h8]; exact bad (by omega)
  rw [if_neg h1, if_neg h2, if_neg h3, if_neg h4, if_neg h5, if_neg h6, if_neg h7, if_neg h8]
  unfold payrollref2_Mode.f
  by_cases h9 : m < 0
  · rw [if_neg (show ¬ m ≥ 0 by omega)]; exact bad (by omega)
  rw [if_pos (show m ≥ 0 by omega)]
  simp only [Option.bind_some]
  by_cases h10 : m ≤ 6
  case neg => rw [decide_eq_false h10]; exact bad (by omega)
  rw [decide_eq_true h10]
  obtain ⟨b1, b2, b3⟩ := partV_bd a n d u m (by omega) (by omega) (by omega) (by omega) (by omega) (by omega) (by omega) (by omega)
  have e : near (a * n) (d * u) m * u = partV a n d u m := rfl
  simp only [payrollref2_Part.j0, partS]
  rw [if_neg (by simp), if_neg (by omega), w64 (x := a * n) (by omega) (by omega), w64 (x := d * u) (by omega) (by omega), nearest_is _ _ _ (by omega) (by omega) (by omega) (by omega) (by omega) (by omega)]
  simp only [Option.bind_some]
  rw [e, w64 (x := partV a n d u m) (by omega) (by omega)]
  by_cases h11 : partV a n d u m < -1000000000000
  · rw [if_pos h11, if_pos (by omega)]
  · by_cases h12 : partV a n d u m > 1000000000000
    · rw [if_neg h11, if_pos h12, if_pos (by omega)]
    · rw [if_neg h11, if_neg h12, if_neg (by omega)]
end Go.Proofs.Ytcipegkeoheikaa.Pure
