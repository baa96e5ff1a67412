/- The error of a rounding. -/
import Derived.Test.YtcipegkeoheikaaNum
namespace Go.Proofs.Ytcipegkeoheikaa.Pure
open Go.RowKit
set_option linter.unusedVariables false
set_option linter.unusedSimpArgs false

theorem near_cases (A B m : Int) (hB : 0 < B) (hm0 : 0 ≤ m) (hm : m ≤ 6) :
    (A % B = 0 ∧ near A B m = A / B) ∨
    (0 < A % B ∧ A % B < B ∧ A ≠ 0 ∧ near A B m = A / B ∧ (m = 2 ∨ m = 0 ∧ 0 < A ∨ m = 1 ∧ A < 0 ∨ 4 ≤ m ∧ (2 * (A % B) < B ∨ 2 * (A % B) = B ∧ (m = 4 ∧ A < 0 ∨ m = 5 ∧ 0 < A ∨ m = 6 ∧ A / B % 2 = 0)))) ∨
    (0 < A % B ∧ A % B < B ∧ A ≠ 0 ∧ near A B m = A / B + 1 ∧ (m = 3 ∨ m = 0 ∧ A < 0 ∨ m = 1 ∧ 0 < A ∨ 4 ≤ m ∧ (B < 2 * (A % B) ∨ 2 * (A % B) = B ∧ (m = 4 ∧ 0 < A ∨ m = 5 ∧ A < 0 ∨ m = 6 ∧ A / B % 2 = 1)))) := by
  have h0 : A % B ≠ 0 → A ≠ 0 := fun h e => h (by rw [e, Int.zero_emod])
  have h1 := Int.emod_nonneg A (show B ≠ 0 by omega)
  have h2 := Int.emod_lt_of_pos A hB
  generalize hN : near A B m = N
  unfold near at hN
  generalize A / B = q at *
  generalize A % B = r at *
  by_cases hr : r = 0
  · rw [if_pos hr] at hN; omega
  have hA := h0 hr
  rw [if_neg hr] at hN
  have hr0 : 0 < r := by omega
  generalize hG : (r = 0 ∧ N = q ∨ _) = G
  have lo : N = q → (m = 2 ∨ m = 0 ∧ 0 < A ∨ m = 1 ∧ A < 0 ∨ 4 ≤ m ∧ (2 * r < B ∨ 2 * r = B ∧ (m = 4 ∧ A < 0 ∨ m = 5 ∧ 0 < A ∨ m = 6 ∧ q % 2 = 0))) → G := fun h h' => hG ▸ .inr (.inl ⟨hr0, h2, hA, h, h'⟩)
  have hi : N = q + 1 → (m = 3 ∨ m = 0 ∧ A < 0 ∨ m = 1 ∧ 0 < A ∨ 4 ≤ m ∧ (B < 2 * r ∨ 2 * r = B ∧ (m = 4 ∧ 0 < A ∨ m = 5 ∧ A < 0 ∨ m = 6 ∧ q % 2 = 1))) → G := fun h h' => hG ▸ .inr (.inr ⟨hr0, h2, hA, h, h'⟩)
  by_cases m2 : m = 2
  · rw [if_pos m2] at hN; exact lo hN.symm (.inl m2)
  by_cases m3 : m = 3
  · rw [if_neg m2, if_pos m3] at hN; exact hi hN.symm (.inl m3)
  by_cases m0 : m = 0
  · rw [if_neg m2, if_neg m3, if_pos m0] at hN
    by_cases hs : A < 0
    · rw [if_pos hs] at hN; exact hi hN.symm (.inr (.inl ⟨m0, hs⟩))
    · rw [if_neg hs] at hN; exact lo hN.symm (.inr (.inl ⟨m0, by omega⟩))
  by_cases m1 : m = 1
  · rw [if_neg m2, if_neg m3, if_neg m0, if_pos m1] at hN
    by_cases hs : A < 0
    · rw [if_pos hs] at hN; exact lo hN.symm (.inr (.inr (.inl ⟨m1, hs⟩)))
    · rw [if_neg hs] at hN; exact hi hN.symm (.inr (.inr (.inl ⟨m1, by omega⟩)))
  rw [if_neg m2, if_neg m3, if_neg m0, if_neg m1] at hN
  have h4 : 4 ≤ m := by omega
  by_cases c1 : 2 * r < B
  · rw [if_pos c1] at hN; exact lo hN.symm (.inr (.inr (.inr ⟨h4, .inl c1⟩)))
  by_cases c2 : B < 2 * r
  · rw [if_neg c1, if_pos c2] at hN; exact hi hN.symm (.inr (.inr (.inr ⟨h4, .inl c2⟩)))
  have c3 : 2 * r = B := by omega
  rw [if_neg c1, if_neg c2] at hN
  by_cases m4 : m = 4
  · rw [if_pos m4] at hN
    by_cases hs : A < 0
    · rw [if_pos hs] at hN; exact lo hN.symm (.inr (.inr (.inr ⟨h4, .inr ⟨c3, .inl ⟨m4, hs⟩⟩⟩)))
    · rw [if_neg hs] at hN; exact hi hN.symm (.inr (.inr (.inr ⟨h4, .inr ⟨c3, .inl ⟨m4, by omega⟩⟩⟩)))
  by_cases m5 : m = 5
  · rw [if_neg m4, if_pos m5] at hN
    by_cases hs : A < 0
    · rw [if_pos hs] at hN; exact hi hN.symm (.inr (.inr (.inr ⟨h4, .inr ⟨c3, .inr (.inl ⟨m5, hs⟩)⟩⟩)))
    · rw [if_neg hs] at hN; exact lo hN.symm (.inr (.inr (.inr ⟨h4, .inr ⟨c3, .inr (.inl ⟨m5, by omega⟩)⟩⟩)))
  rw [if_neg m4, if_neg m5] at hN
  have m6 : m = 6 := by omega
  by_cases hs : q % 2 = 0
  · rw [if_pos hs] at hN; exact lo hN.symm (.inr (.inr (.inr ⟨h4, .inr ⟨c3, .inr (.inr ⟨m6, hs⟩)⟩⟩)))
  · rw [if_neg hs] at hN; exact hi hN.symm (.inr (.inr (.inr ⟨h4, .inr ⟨c3, .inr (.inr ⟨m6, by omega⟩)⟩⟩)))

/-- The error of a rounding, in parts of B. -/
theorem err_cases (A B m : Int) (hB : 0 < B) (hm0 : 0 ≤ m) (hm : m ≤ 6) : ∃ E, near A B m * B - A = E ∧ -B < E ∧ E < B ∧
    (m = 2 → E ≤ 0) ∧ (m = 3 → 0 ≤ E) ∧ (m = 0 → E = 0 ∨ E < 0 ∧ 0 < A ∨ 0 < E ∧ A < 0) ∧ (m = 1 → E = 0 ∨ 0 < E ∧ 0 < A ∨ E < 0 ∧ A < 0) ∧
    (4 ≤ m → -B ≤ 2 * E ∧ 2 * E ≤ B ∧ ((2 * E = B ∨ 2 * E = -B) → (m = 4 ∧ (0 < E ∧ 0 < A ∨ E < 0 ∧ A < 0) ∨ m = 5 ∧ (E < 0 ∧ 0 < A ∨ 0 < E ∧ A < 0) ∨ m = 6 ∧ near A B m % 2 = 0))) := by
  refine ⟨_, rfl, ?_⟩
  have e0 := Int.emod_add_mul_ediv A B
  have hq : near A B m = A / B → near A B m * B - A = -(A % B) := fun h => by rw [h, Int.mul_comm]; omega
  have hq1 : near A B m = A / B + 1 → near A B m * B - A = B - A % B := fun h => by rw [h, Int.add_mul, Int.one_mul, Int.mul_comm (A / B)]; omega
  rcases near_cases A B m hB hm0 hm with ⟨h1, h2⟩ | ⟨h1, h2, h3, h4, h5⟩ | ⟨h1, h2, h3, h4, h5⟩
  · rw [hq h2, h1]; omega
  · rw [hq h4, h4]; generalize A / B = q at *; generalize A % B = r at *; clear e0 hq hq1; omega
  · rw [hq1 h4, h4]; generalize A / B = q at *; generalize A % B = r at *; clear e0 hq hq1; omega

end Go.Proofs.Ytcipegkeoheikaa.Pure
