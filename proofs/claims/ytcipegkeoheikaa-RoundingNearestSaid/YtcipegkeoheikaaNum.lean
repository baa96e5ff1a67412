/- Plain lemmas on whole numbers: wraps that do nothing, Go's quotient and remainder, and the number nearest to a fraction in each mode of rounding. -/
import Derived.RowKit
import Derived.WalkKit
namespace Go.Proofs.Ytcipegkeoheikaa.Pure
open Go.RowKit
set_option linter.unusedVariables false
set_option linter.unusedSimpArgs false

theorem w64 {x : Int} (h0 : -9223372036854775808 ≤ x) (h1 : x ≤ 9223372036854775807) : wrap64 x = x := by unfold wrap64; omega
theorem u64 {x : Int} (h0 : 0 ≤ x) (h1 : x ≤ 18446744073709551615) : IntKind.u64.wrap x = x := by
  have : IntKind.u64.wrap x = x % 18446744073709551616 := by rfl
  omega

/-- Go's quotient and remainder, by Lean's. -/
theorem tdm (n d : Int) (hd : 0 < d) : (0 ≤ n % d ∧ n % d < d ∧ n % d + d * (n / d) = n) ∧ ((0 ≤ n ∨ n % d = 0) ∧ Int.tmod n d = n % d ∧ Int.tdiv n d = n / d ∨ (n < 0 ∧ 0 < n % d) ∧ Int.tmod n d = n % d - d ∧ Int.tdiv n d = n / d + 1) := by
  have e0 := Int.emod_add_mul_ediv n d
  have e1 := Int.emod_nonneg n (show d ≠ 0 by omega)
  have e2 := Int.emod_lt_of_pos n hd
  refine ⟨⟨e1, e2, e0⟩, ?_⟩
  have t0 := Int.tmod_add_mul_tdiv n d
  have t1 := Int.tmod_lt_of_pos n hd
  have t2 := Int.lt_tmod_of_pos n hd
  by_cases hn : 0 ≤ n
  · exact .inl ⟨.inl hn, Int.tmod_eq_emod_of_nonneg hn, Int.tdiv_eq_ediv_of_nonneg hn⟩
  · have t3 : Int.tmod n d ≤ 0 := by
      have h4 : 0 ≤ Int.tmod (-n) d := Int.tmod_nonneg d (by omega)
      rw [Int.neg_tmod] at h4
      omega
    by_cases hr : Int.tmod n d = 0
    · have := (Int.ediv_emod_unique (a := n) (r := 0) (q := Int.tdiv n d) hd).2 ⟨by rw [← hr]; omega, by omega, hd⟩
      exact .inl ⟨.inr this.2, by omega, by omega⟩
    · have := (Int.ediv_emod_unique (a := n) (r := Int.tmod n d + d) (q := Int.tdiv n d - 1) hd).2 ⟨by rw [Int.mul_sub, Int.mul_one]; omega, by omega, by omega⟩
      exact .inr ⟨⟨by omega, by omega⟩, by omega, by omega⟩

theorem ediv_bd (n d B : Int) (hd : 0 < d) (h0 : -B ≤ n) (h1 : n ≤ B) : -B ≤ n / d ∧ n / d ≤ B := by
  by_cases hn : 0 ≤ n
  · have h2 := Int.ediv_nonneg hn (show 0 ≤ d by omega)
    have h3 := Int.ediv_le_self d hn
    omega
  · have h2 : n ≤ n / d := by
      rw [Int.le_ediv_iff_mul_le hd]
      have : n * d ≤ n * 1 := Int.mul_le_mul_of_nonpos_left (by omega) (by omega)
      omega
    have h3 : n / d < 0 := Int.ediv_neg_of_neg_of_pos (by omega) hd
    omega

/-- The whole number to which n / d is rounded in a mode from 0 to 6. -/
def near (n d mode : Int) : Int :=
  if n % d = 0 then n / d
  else if mode = 2 then n / d
  else if mode = 3 then n / d + 1
  else if mode = 0 then (if n < 0 then n / d + 1 else n / d)
  else if mode = 1 then (if n < 0 then n / d else n / d + 1)
  else if 2 * (n % d) < d then n / d
  else if d < 2 * (n % d) then n / d + 1
  else if mode = 4 then (if n < 0 then n / d else n / d + 1)
  else if mode = 5 then (if n < 0 then n / d + 1 else n / d)
  else if n / d % 2 = 0 then n / d else n / d + 1

theorem near_or (n d mode : Int) : near n d mode = n / d ∨ near n d mode = n / d + 1 := by
  unfold near
  repeat (first | exact .inl rfl | exact .inr rfl | split)

theorem mul_bd {a b A B : Int} (ha0 : -A ≤ a) (ha1 : a ≤ A) (hb0 : -B ≤ b) (hb1 : b ≤ B) : -(A * B) ≤ a * b ∧ a * b ≤ A * B := by
  have hA : 0 ≤ A := by omega
  have hB : 0 ≤ B := by omega
  have h1 : (a * b).natAbs ≤ (A * B).natAbs := by
    rw [Int.natAbs_mul, Int.natAbs_mul]
    exact Nat.mul_le_mul (by omega) (by omega)
  have h2 : 0 ≤ A * B := Int.mul_nonneg hA hB
  omega
end Go.Proofs.Ytcipegkeoheikaa.Pure
