/- Exact fractions: what the program's and the reference's functions on them compute. -/
import Derived.Test.YtcipegkeoheikaaPNx3
import Derived.Test.YtcipegkeoheikaaPNx4
import Derived.Test.YtcipegkeoheikaaPNx6
import Derived.Test.YtcipegkeoheikaaNum
import Derived.Test.YtcipegkeoheikaaWhole
namespace Go.Proofs.Ytcipegkeoheikaa.Pure
open Go.RowKit Go.Proofs.Ytcipegkeoheikaa Go.Proofs.Ytcipegkeoheikaa.PN Go.Proofs.YtcipegkeoheikaaW.PrintWords
set_option linter.unusedVariables false
set_option linter.unusedSimpArgs false

theorem gcd_is (m : Nat) : ∀ n : Nat, Ev (fun k => ratio_gcd.l0 k (m : Int) (n : Int)) ((Nat.gcd m n : Nat) : Int) := by
  induction m using Nat.strongRecOn with
  | _ m ih =>
    intro n
    by_cases hm : m = 0
    · subst hm
      refine Ev.step (f := fun _ => some (n : Int)) (fun k => by simp only [ratio_gcd.l0]; rw [if_pos (by rfl)]) ?_
      rw [Nat.gcd_zero_left]; exact Ev.now _
    · refine Ev.step (f := fun k => ratio_gcd.l0 k ((n % m : Nat) : Int) (m : Int)) (fun k => ?_) ?_
      · simp only [ratio_gcd.l0]
        rw [if_neg (by omega), Int.tmod_eq_emod_of_nonneg (by omega)]
        rfl
      · rw [Nat.gcd_rec]; exact ih (n % m) (Nat.mod_lt _ (by omega)) m

theorem size_is (a : Int) (h0 : -9223372036854775808 ≤ a) (h1 : a ≤ 9223372036854775807) : ratio_size.f a = some ((a.natAbs : Nat) : Int) := by
  have w : ∀ x : Int, IntKind.u64.wrap x = x % 18446744073709551616 := fun _ => rfl
  unfold ratio_size.f
  simp only [w]
  by_cases h : a < 0
  · rw [if_pos h]; congr 1; omega
  · rw [if_neg h]; congr 1; omega

/-- Is a fraction valid? -/
def validP (n d : Int) : Prop := 1 ≤ d ∧ d ≤ 1000000 ∧ -1000000000000 ≤ n ∧ n ≤ 1000000000000 ∧ Nat.gcd n.natAbs d.natAbs = 1
instance (n d : Int) : Decidable (validP n d) := by unfold validP; infer_instance

theorem valid_is (n d : Int) : Ev (fun k => ratio_Valid.f k n d) (decide (validP n d)) := by
  unfold ratio_Valid.f
  by_cases h1 : d ≥ 1
  case neg => simp only [if_neg h1]; rw [decide_eq_false (by unfold validP; omega)]; exact Ev.now _
  by_cases h2 : d ≤ 1000000
  case neg => simp only [if_pos h1, if_neg h2]; rw [decide_eq_false (by unfold validP; omega)]; exact Ev.now _
  by_cases h3 : n ≥ -1000000000000
  case neg => simp only [if_pos h1, if_pos h2, if_neg h3]; rw [decide_eq_false (by unfold validP; omega)]; exact Ev.now _
  by_cases h4 : n ≤ 1000000000000
  case neg => simp only [if_pos h1, if_pos h2, if_pos h3, if_neg h4]; rw [decide_eq_false (by unfold validP; omega)]; exact Ev.now _
  simp only [if_pos h1, if_pos h2, if_pos h3, if_pos h4, size_is n (by omega) (by omega), size_is d (by omega) (by omega), Option.bind_some]
  refine Ev.bind (gcd_is n.natAbs d.natAbs) ?_
  have : (((Nat.gcd n.natAbs d.natAbs : Nat) : Int) == 1) = decide (validP n d) := by
    by_cases hg : Nat.gcd n.natAbs d.natAbs = 1
    · rw [decide_eq_true (show validP n d from ⟨h1, h2, h3, h4, hg⟩), hg]; rfl
    · rw [decide_eq_false (show ¬ validP n d from fun h => hg h.2.2.2.2)]
      exact beq_eq_false_iff_ne.2 (by omega)
  rw [this]; exact Ev.now _

/-- The valid fraction of num / den, or the error. -/
def newS (num den : Int) : Int × Int × Int :=
  if den = 0 then (0, 0, 5)
  else if 1000000000000 < num.natAbs / Nat.gcd num.natAbs den.natAbs ∨ 1000000 < den.natAbs / Nat.gcd num.natAbs den.natAbs then (0, 0, 4)
  else if ((decide (num < 0)) != (decide (den < 0))) = true then (-((num.natAbs / Nat.gcd num.natAbs den.natAbs : Nat) : Int), ((den.natAbs / Nat.gcd num.natAbs den.natAbs : Nat) : Int), 0)
  else (((num.natAbs / Nat.gcd num.natAbs den.natAbs : Nat) : Int), ((den.natAbs / Nat.gcd num.natAbs den.natAbs : Nat) : Int), 0)

theorem new_is (num den : Int) (h0 : -9223372036854775808 ≤ num) (h1 : num ≤ 9223372036854775807) (h2 : -9223372036854775808 ≤ den) (h3 : den ≤ 9223372036854775807) : Ev (fun k => ratio_New.f k num den) (newS num den) := by
  unfold ratio_New.f newS
  by_cases hd : den = 0
  · simp only [if_pos hd]; exact Ev.now _
  simp only [if_neg hd, size_is num h0 h1, size_is den h2 h3, Option.bind_some]
  refine Ev.bind (gcd_is num.natAbs den.natAbs) ?_
  have hg : 0 < Nat.gcd num.natAbs den.natAbs := Nat.gcd_pos_of_pos_right _ (by omega)
  have e1 : Int.tdiv ((num.natAbs : Nat) : Int) ((Nat.gcd num.natAbs den.natAbs : Nat) : Int) = ((num.natAbs / Nat.gcd num.natAbs den.natAbs : Nat) : Int) := by rw [Int.tdiv_eq_ediv_of_nonneg (by omega)]; rfl
  have e2 : Int.tdiv ((den.natAbs : Nat) : Int) ((Nat.gcd num.natAbs den.natAbs : Nat) : Int) = ((den.natAbs / Nat.gcd num.natAbs den.natAbs : Nat) : Int) := by rw [Int.tdiv_eq_ediv_of_nonneg (by omega)]; rfl
  have b1 : num.natAbs / Nat.gcd num.natAbs den.natAbs ≤ num.natAbs := Nat.div_le_self _ _
  have b2 : den.natAbs / Nat.gcd num.natAbs den.natAbs ≤ den.natAbs := Nat.div_le_self _ _
  rw [e1, e2]
  generalize num.natAbs / Nat.gcd num.natAbs den.natAbs = n at *
  generalize den.natAbs / Nat.gcd num.natAbs den.natAbs = d at *
  have hg' : ¬ (((Nat.gcd num.natAbs den.natAbs : Nat) : Int) = 0) := by omega
  simp only [if_neg hg', u64 (x := (n : Int)) (by omega) (by omega), u64 (x := (d : Int)) (by omega) (by omega)]
  by_cases h4 : (n : Int) > 1000000000000
  · simp only [if_pos h4, if_pos (show 1000000000000 < n ∨ 1000000 < d by omega)]
    exact Ev.step (f := fun _ => some (0, 0, 4)) (fun k => by simp [ratio_New.j0]) (Ev.now _)
  simp only [if_neg h4]
  by_cases h5 : (d : Int) > 1000000
  · simp only [decide_eq_true h5, if_pos (show 1000000000000 < n ∨ 1000000 < d by omega)]
    exact Ev.step (f := fun _ => some (0, 0, 4)) (fun k => by simp [ratio_New.j0]) (Ev.now _)
  simp only [decide_eq_false h5, if_neg (show ¬ (1000000000000 < n ∨ 1000000 < d) by omega)]
  by_cases h6 : ((decide (num < 0)) != (decide (den < 0))) = true
  · simp only [if_pos h6]
    refine Ev.step (f := fun _ => some (-(n : Int), (d : Int), 0)) (fun k => ?_) (Ev.now _)
    simp only [ratio_New.j0]
    rw [if_neg (by simp), if_pos h6, w64 (x := (n : Int)) (by omega) (by omega), w64 (x := -(n : Int)) (by omega) (by omega), w64 (x := (d : Int)) (by omega) (by omega)]
  · simp only [if_neg h6]
    refine Ev.step (f := fun _ => some ((n : Int), (d : Int), 0)) (fun k => ?_) (Ev.now _)
    simp only [ratio_New.j0]
    rw [if_neg (by simp), if_neg h6, w64 (x := (n : Int)) (by omega) (by omega), w64 (x := (d : Int)) (by omega) (by omega)]

/-- What is true of a fraction that New gives, for a positive denominator. -/
theorem newS_facts (num den : Int) (hd : 0 < den) : ∃ r1 r2 e, newS num den = (r1, r2, e) ∧ (e = 4 ∧ r1 = 0 ∧ r2 = 0 ∨ e = 0 ∧ validP r1 r2 ∧ r1 * den = num * r2) := by
  unfold newS
  rw [if_neg (by omega)]
  have hg : 0 < Nat.gcd num.natAbs den.natAbs := Nat.gcd_pos_of_pos_right _ (by omega)
  have hc : Nat.gcd (num.natAbs / Nat.gcd num.natAbs den.natAbs) (den.natAbs / Nat.gcd num.natAbs den.natAbs) = 1 := Nat.gcd_div_gcd_div_gcd_of_pos_right (by omega)
  have e1 : num.natAbs / Nat.gcd num.natAbs den.natAbs * Nat.gcd num.natAbs den.natAbs = num.natAbs := Nat.div_mul_cancel (Nat.gcd_dvd_left _ _)
  have e2 : den.natAbs / Nat.gcd num.natAbs den.natAbs * Nat.gcd num.natAbs den.natAbs = den.natAbs := Nat.div_mul_cancel (Nat.gcd_dvd_right _ _)
  generalize num.natAbs / Nat.gcd num.natAbs den.natAbs = n at *
  generalize den.natAbs / Nat.gcd num.natAbs den.natAbs = d at *
  generalize Nat.gcd num.natAbs den.natAbs = g at *
  have hd0 : 0 < d := by
    rcases Nat.eq_zero_or_pos d with h | h
    · rw [h, Nat.zero_mul] at e2; omega
    · exact h
  have eN : (n : Int) * g = num.natAbs := by rw [← Int.natCast_mul, e1]
  have eD : (d : Int) * g = den := by rw [← Int.natCast_mul, e2]; omega
  by_cases h4 : 1000000000000 < n ∨ 1000000 < d
  · rw [if_pos h4]; exact ⟨0, 0, 4, rfl, .inl ⟨rfl, rfl, rfl⟩⟩
  rw [if_neg h4]
  have hdn : decide (den < 0) = false := decide_eq_false (by omega)
  rw [hdn]
  by_cases hn : num < 0
  · rw [decide_eq_true hn, if_pos (by rfl)]
    refine ⟨_, _, _, rfl, .inr ⟨rfl, ⟨by omega, by omega, by omega, by omega, by simpa using hc⟩, ?_⟩⟩
    rw [show num = -((n : Int) * g) by omega, ← eD, Int.neg_mul, Int.neg_mul, Int.mul_assoc, Int.mul_comm (d : Int) g]
  · rw [decide_eq_false hn, if_neg (by simp)]
    refine ⟨_, _, _, rfl, .inr ⟨rfl, ⟨by omega, by omega, by omega, by omega, by simpa using hc⟩, ?_⟩⟩
    rw [show num = (n : Int) * g by omega, ← eD, Int.mul_assoc, Int.mul_comm (d : Int) g]

/-- The fraction rounded to a multiple of a unit, or the error. -/
def roundS (n d un ud m : Int) : Int × Int × Int :=
  if ¬ validP n d ∨ ¬ validP un ud then (0, 0, 1) else if un ≤ 0 ∨ m < 0 ∨ 6 < m then (0, 0, 2) else newS (near (n * ud) (d * un) m * un) ud

theorem round_bd (n d un ud m : Int) (hv : validP n d) (hu : validP un ud) (hun : 0 < un) :
    (-1000000000000000000 ≤ n * ud ∧ n * ud ≤ 1000000000000000000) ∧ (0 < d * un ∧ d * un ≤ 1000000000000000000) ∧ (-2000002000000000000 ≤ near (n * ud) (d * un) m * un ∧ near (n * ud) (d * un) m * un ≤ 2000002000000000000) := by
  obtain ⟨v1, v2, v3, v4, _⟩ := hv
  obtain ⟨u1, u2, u3, u4, _⟩ := hu
  have h1 := mul_bd v3 v4 (show -1000000 ≤ ud by omega) u2
  have h2 := mul_bd (show -1000000 ≤ d by omega) v2 u3 u4
  have h3 : 0 < d * un := Int.mul_pos (by omega) hun
  refine ⟨by omega, by omega, ?_⟩
  have e0 := Int.emod_add_mul_ediv (n * ud) (d * un)
  have e1 := Int.emod_nonneg (n * ud) (show d * un ≠ 0 by omega)
  have e2 := Int.emod_lt_of_pos (n * ud) h3
  have hx : -2000001000000000000 ≤ n * ud / (d * un) * un ∧ n * ud / (d * un) * un ≤ 2000001000000000000 := by
    have e3 : d * un * (n * ud / (d * un)) = n * ud / (d * un) * un * d := by
      rw [Int.mul_comm d un, Int.mul_comm (un * d), ← Int.mul_assoc]
    rw [e3] at e0
    generalize n * ud / (d * un) * un = x at *
    by_cases hx0 : 0 ≤ x
    · have : x * 1 ≤ x * d := Int.mul_le_mul_of_nonneg_left v1 hx0
      omega
    · have : x * d ≤ x * 1 := Int.mul_le_mul_of_nonpos_left (by omega) v1
      omega
  rcases near_or (n * ud) (d * un) m with h | h <;> rw [h]
  · omega
  · rw [Int.add_mul, Int.one_mul]; omega

theorem round_is (n d un ud m : Int) : Ev (fun k => rounding_Round.f k n d un ud m) (roundS n d un ud m) := by
  have bad : ∀ (b : Int × Int × Int), (¬ validP n d ∨ ¬ validP un ud) → Ev (fun k => rounding_Round.j0 k m true n d un ud) (roundS n d un ud m) := fun b h => by
    refine Ev.step (f := fun _ => some (0, 0, 1)) (fun k => by simp [rounding_Round.j0]) ?_
    unfold roundS; rw [if_pos h]; exact Ev.now _
  unfold rounding_Round.f
  refine Ev.bind (valid_is n d) ?_
  by_cases hv : validP n d
  case neg => simp only [decide_eq_false hv, Bool.false_eq_true, if_false]; exact bad (0, 0, 0) (.inl hv)
  simp only [decide_eq_true hv, if_true]
  refine Ev.bind (valid_is un ud) ?_
  by_cases hu : validP un ud
  case neg => simp only [decide_eq_false hu, Bool.not_false]; exact bad (0, 0, 0) (.inr hu)
  simp only [decide_eq_true hu, Bool.not_true]
  have two : (un ≤ 0 ∨ m < 0 ∨ 6 < m) → Ev (fun k => rounding_Round.j1 k m true n d un ud) (roundS n d un ud m) := fun h => by
    refine Ev.step (f := fun _ => some (0, 0, 2)) (fun k => by simp [rounding_Round.j1]) ?_
    unfold roundS; rw [if_neg (by simp [hv, hu]), if_pos h]; exact Ev.now _
  refine Ev.step (fun k => by simp only [rounding_Round.j0]; rw [if_neg (by simp)]) ?_
  by_cases h1 : un ≤ 0
  · simp only [if_pos h1]; exact two (.inl h1)
  by_cases h2 : m < 0
  · simp only [if_neg h1, if_pos h2]; exact two (.inr (.inl h2))
  simp only [if_neg h1, if_neg h2]
  by_cases h3 : m > 6
  · simp only [decide_eq_true h3]; exact two (.inr (.inr h3))
  simp only [decide_eq_false h3]
  obtain ⟨b1, b2, b3⟩ := round_bd n d un ud m hv hu (by omega)
  unfold roundS
  rw [if_neg (by simp [hv, hu]), if_neg (by omega)]
  refine Ev.step (f := fun k => (ratio_New.f k (near (n * ud) (d * un) m * un) ud).bind fun bt => some (bt.1, bt.2.1, bt.2.2)) (fun k => ?_) (Ev.bind (new_is _ ud (by omega) (by omega) (by have := hu.1; omega) (by have := hu.2.1; omega)) (Ev.now _))
  simp only [rounding_Round.j1]
  rw [if_neg (by simp), w64 (x := n * ud) (by omega) (by omega), w64 (x := d * un) (by omega) (by omega), whole_is _ _ _ (by omega) (by omega) (by omega) (by omega)]
  simp only [Option.bind_some]
  rw [w64 (x := near (n * ud) (d * un) m * un) (by omega) (by omega)]

theorem both_is (a b c d : Int) : Ev (fun k => ratio_both.f k a b c d) (if validP a b ∧ validP c d then 0 else 1) := by
  unfold ratio_both.f
  refine Ev.bind (valid_is a b) ?_
  by_cases h1 : validP a b
  case neg => simp only [decide_eq_false h1, Bool.false_eq_true, if_false, h1, false_and]; exact Ev.now _
  simp only [decide_eq_true h1, if_true, h1, true_and]
  refine Ev.bind (valid_is c d) ?_
  by_cases h2 : validP c d
  · simp only [decide_eq_true h2, h2, if_true]; exact Ev.now _
  · simp only [decide_eq_false h2, h2, Bool.false_eq_true, if_false]; exact Ev.now _

/-- The greater fraction is not rounded to the smaller number. -/
theorem near_mono (n d n' d' m : Int) (hd : 0 < d) (hd' : 0 < d') (h : n * d' ≤ n' * d) : near n d m ≤ near n' d' m := by
  have e0 := Int.emod_add_mul_ediv n d
  have e1 := Int.emod_nonneg n (show d ≠ 0 by omega)
  have e2 := Int.emod_lt_of_pos n hd
  have f0 := Int.emod_add_mul_ediv n' d'
  have f1 := Int.emod_nonneg n' (show d' ≠ 0 by omega)
  have f2 := Int.emod_lt_of_pos n' hd'
  have s1 : 0 ≤ n → 0 ≤ n / d := fun h => Int.ediv_nonneg h (by omega)
  have s2 : n < 0 → n / d < 0 := fun h => Int.ediv_neg_of_neg_of_pos h hd
  have s3 : 0 ≤ n' → 0 ≤ n' / d' := fun h => Int.ediv_nonneg h (by omega)
  have s4 : n' < 0 → n' / d' < 0 := fun h => Int.ediv_neg_of_neg_of_pos h hd'
  have o1 := near_or n d m
  have o2 := near_or n' d' m
  have hq : n / d ≤ n' / d' := by
    rw [Int.le_ediv_iff_mul_le hd']
    have h1 : n / d * d' * d ≤ n' * d := by
      have : n / d * d ≤ n := by rw [Int.mul_comm]; omega
      have h2 := Int.mul_le_mul_of_nonneg_right this (show 0 ≤ d' by omega)
      rw [Int.mul_assoc, Int.mul_comm d' d, ← Int.mul_assoc]
      omega
    exact Int.le_of_mul_le_mul_right h1 hd
  by_cases hlt : n / d < n' / d'
  · omega
  have heq : n' / d' = n / d := by omega
  -- the remainders
  have hr : n % d * d' ≤ n' % d' * d := by
    have h1 : n * d' = n % d * d' + n / d * (d * d') := by
      conv => lhs; rw [← e0]
      rw [Int.add_mul, Int.mul_comm d (n / d), Int.mul_assoc]
    have h2 : n' * d = n' % d' * d + n / d * (d * d') := by
      conv => lhs; rw [← f0]
      rw [heq, Int.add_mul, Int.mul_comm d' (n / d), Int.mul_assoc, Int.mul_comm d' d]
    omega
  have p1 : 0 < n % d → 0 < n' % d' := fun hp => by
    have h1 := Int.mul_pos hp hd'
    rcases Int.lt_or_le 0 (n' % d') with h2 | h2
    · exact h2
    · rw [show n' % d' = 0 by omega, Int.zero_mul] at hr; omega
  have p2 : d ≤ 2 * (n % d) → d' ≤ 2 * (n' % d') := fun hp => by
    have h1 := Int.mul_le_mul_of_nonneg_right hp (show 0 ≤ d' by omega)
    have h3 : d' * d ≤ 2 * (n' % d') * d := by
      rw [Int.mul_comm d' d, Int.mul_assoc]
      rw [Int.mul_assoc] at h1
      omega
    exact Int.le_of_mul_le_mul_right h3 hd
  have p3 : d < 2 * (n % d) → d' < 2 * (n' % d') := fun hp => by
    have h1 := Int.mul_lt_mul_of_pos_right hp hd'
    have h3 : d' * d < 2 * (n' % d') * d := by
      rw [Int.mul_comm d' d, Int.mul_assoc]
      rw [Int.mul_assoc] at h1
      omega
    exact Int.lt_of_mul_lt_mul_right h3 (by omega)
  by_cases hz : n % d = 0
  · have : near n d m = n / d := by unfold near; rw [if_pos hz]
    omega
  have hz' : ¬ n' % d' = 0 := by have := p1 (by omega); omega
  have hs : (n < 0) = (n' < 0) := propext ⟨fun h => by
    have := s2 h; rcases Int.lt_or_le n' 0 with h' | h'; exact h'; have := s3 h'; omega, fun h => by
    have := s4 h; rcases Int.lt_or_le n 0 with h' | h'; exact h'; have := s1 h'; omega⟩
  unfold near
  simp only [if_neg hz, if_neg hz', heq, hs]
  by_cases m2 : m = 2
  · simp only [if_pos m2]; omega
  by_cases m3 : m = 3
  · simp only [if_neg m2, if_pos m3]; omega
  by_cases m0 : m = 0
  · simp only [if_neg m2, if_neg m3, if_pos m0]; omega
  by_cases m1 : m = 1
  · simp only [if_neg m2, if_neg m3, if_neg m0, if_pos m1]; omega
  simp only [if_neg m2, if_neg m3, if_neg m0, if_neg m1]
  have hT : n / d ≤ (if m = 4 then if n' < 0 then n / d else n / d + 1 else if m = 5 then if n' < 0 then n / d + 1 else n / d else if n / d % 2 = 0 then n / d else n / d + 1) ∧ (if m = 4 then if n' < 0 then n / d else n / d + 1 else if m = 5 then if n' < 0 then n / d + 1 else n / d else if n / d % 2 = 0 then n / d else n / d + 1) ≤ n / d + 1 := by
    refine ⟨?_, ?_⟩ <;> repeat' split
    all_goals omega
  generalize (if m = 4 then if n' < 0 then n / d else n / d + 1 else if m = 5 then if n' < 0 then n / d + 1 else n / d else if n / d % 2 = 0 then n / d else n / d + 1) = T at *
  clear hr e0 f0 h o1 o2 e1 e2 f1 f2
  generalize n / d = q at *
  generalize n % d = r at *
  generalize n' % d' = r' at *
  clear s1 s2 s3 s4 hs p1
  by_cases c1 : 2 * r < d
  · rw [if_pos c1]; split; omega; split <;> omega
  · have := p2 (by omega)
    by_cases c2 : d < 2 * r
    · have := p3 c2; rw [if_neg c1, if_pos c2, if_neg (by omega), if_pos (by omega)]; omega
    · rw [if_neg c1, if_neg c2, if_neg (by omega)]; split <;> omega
end Go.Proofs.Ytcipegkeoheikaa.Pure
