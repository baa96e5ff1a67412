/- A rounded fraction is a multiple of the unit at a distance below the unit, on the side that the mode says. -/
import Derived.Test.YtcipegkeoheikaaPNx1
import Derived.Test.YtcipegkeoheikaaPNx5
import Derived.Test.YtcipegkeoheikaaPNx7
import Derived.Test.YtcipegkeoheikaaRatioOps
import Derived.Test.YtcipegkeoheikaaTapeRatio
import Derived.Test.YtcipegkeoheikaaRatioDiv
import Derived.Test.YtcipegkeoheikaaSane2
import Derived.Test.YtcipegkeoheikaaPureRoundingNear
import Derived.Test.YtcipegkeoheikaaRatioComp
namespace Go.Proofs.Ytcipegkeoheikaa.Pure
open Go.RowKit Go.Proofs.Ytcipegkeoheikaa Go.Proofs.Ytcipegkeoheikaa.PN Go.Proofs.YtcipegkeoheikaaW.PrintWords
set_option linter.unusedVariables false
set_option linter.unusedSimpArgs false

theorem sgn {a b p q : Int} (hp : 0 < p) (hq : 0 < q) (h : a * p = b * q) : (0 < a ↔ 0 < b) ∧ (a < 0 ↔ b < 0) := by
  have f : ∀ x y : Int, 0 < y → (0 < x * y ↔ 0 < x) := fun x y hy => ⟨fun h => Int.pos_of_mul_pos_left h hy, fun h => Int.mul_pos h hy⟩
  have g : ∀ x y : Int, 0 < y → (x * y < 0 ↔ x < 0) := fun x y hy => by
    have := f (-x) y hy
    rw [Int.neg_mul] at this
    omega
  exact ⟨by rw [← f a p hp, h, f b q hq], by rw [← g a p hp, h, g b q hq]⟩

theorem valid_size {a b s : Int} (h : validP a b) (hs : a < 0 ∧ s = -a ∨ 0 ≤ a ∧ s = a) : validP s b ∧ 0 ≤ s := by
  obtain ⟨h1, h2, h3, h4, h5⟩ := h
  refine ⟨⟨h1, h2, by omega, by omega, ?_⟩, by omega⟩
  rw [show s.natAbs = a.natAbs by omega]; exact h5

/-- A whole number of units: the quotient has the denominator 1. -/
theorem whole_quot {q1 q2 x1 x2 un ud N : Int} (hq : validP q1 q2) (hx2 : 0 < x2) (hun : 0 < un) (hx : x1 * ud = N * un * x2) (h : q1 * (x2 * un) = x1 * ud * q2) : q2 = 1 ∧ q1 = N := by
  have h1 : q1 = N * q2 := by
    have : q1 * (x2 * un) = N * q2 * (x2 * un) := by rw [h, hx]; grind
    exact Int.eq_of_mul_eq_mul_right (Int.ne_of_gt (Int.mul_pos hx2 hun)) this
  have h2 : q2.natAbs = 1 := by
    have h3 := hq.2.2.2.2
    rw [h1, Int.natAbs_mul] at h3
    have : q2.natAbs ∣ Nat.gcd (N.natAbs * q2.natAbs) q2.natAbs := Nat.dvd_gcd (Nat.dvd_mul_left _ _) (Nat.dvd_refl _)
    rw [h3] at this
    exact Nat.eq_one_of_dvd_one this
  have h4 : q2 = 1 := by have := hq.1; omega
  exact ⟨h4, by rw [h1, h4, Int.mul_one]⟩

theorem j3_is (c : Int) (b : Bool) (h : c < 0 ∨ c = 0 ∧ b = true) : Ev (fun k => payrolllaw2_RoundingNearest.j3 k c b) true := by
  refine Ev.step (f := fun k => (payrolllaw2_sane.f k).bind fun t => some t) (fun k => ?_) (Ev.bind sane2 (Ev.now _))
  simp only [payrolllaw2_RoundingNearest.j3]
  rcases h with h | ⟨h, rfl⟩
  · rw [if_pos (by omega), if_pos h]
  · rw [if_pos (by omega), if_neg (by omega), if_pos rfl]

theorem RoundingNearest : payrolllaw2_RoundingNearest.Pure := by
  intro l mode _ hl _ _
  refine Ev.rounds ?_
  unfold payrolllaw2_RoundingNearest.f payrollgen_New.f
  simp only [Option.bind_some]
  obtain ⟨n, d, t1, E1, h, hr⟩ := ratio_tape l 0 (okT_new l hl)
  refine Ev.bind E1 ?_
  obtain ⟨un, ud, t3, E3, h, hu, hun⟩ := step_tape l t1 h
  refine Ev.bind E3 ?_
  simp only [mod_is mode 7 (by omega) (by omega), Option.bind_some]
  have m0 : 0 ≤ mode % 7 := Int.emod_nonneg _ (by omega)
  have m1 : mode % 7 ≤ 6 := by omega
  generalize mode % 7 = m at *
  refine Ev.bind (round_is n d un ud m) ?_
  have hx : ∃ r1 r2 e, roundS n d un ud m = (r1, r2, e) ∧ (e = 4 ∧ r1 = 0 ∧ r2 = 0 ∨ e = 0 ∧ validP r1 r2 ∧ r1 * ud = near (n * ud) (d * un) m * un * r2) := by
    unfold roundS
    rw [if_neg (by simp [hr, hu]), if_neg (by omega)]
    exact newS_facts _ ud (by have := hu.1; omega)
  obtain ⟨x1, x2, e, hx, ⟨he, _⟩ | ⟨he, vx, ex⟩⟩ := hx
  · rw [hx, he]
    simp only [show ¬ ((4 : Int) = 0) by decide, if_false, if_true]
    exact Ev.bind sane2 (Ev.now _)
  rw [hx, he]
  simp only [if_true]
  obtain ⟨q1, q2, f, hq, cq⟩ := div_facts vx hu hun
  obtain ⟨d1, d2, g, hd, cd⟩ := sub_facts vx hr
  refine Ev.bind (div_is x1 x2 un ud) (Ev.bind (sub_is x1 x2 n d) ?_)
  rw [hq, hd]
  dsimp only
  have quit : Ev (fun k => payrolllaw2_RoundingNearest.j0 k m true n d un ud q1 q2 d1 d2) true := by
    refine Ev.step (f := fun k => (payrolllaw2_sane.f k).bind fun t => some t) (fun k => ?_) (Ev.bind sane2 (Ev.now _))
    simp only [payrolllaw2_RoundingNearest.j0, if_true]
  rcases cq with ⟨hf, _⟩ | ⟨hf, vq, eq⟩
  · rw [hf]
    simp only [show ¬ ((4 : Int) = 0) by decide, if_false]
    exact quit
  rcases cd with ⟨hg, _⟩ | ⟨hg, vd, ed⟩
  · rw [hf, hg]
    simp only [if_true, show ((4 : Int) != 0) = true by decide]
    exact quit
  rw [hf, hg]
  simp only [if_true, show ((0 : Int) != 0) = false by decide]
  -- the facts
  have hd0 : 0 < d := by have := hr.1; omega
  have hud : 0 < ud := by have := hu.1; omega
  have hx2 : 0 < x2 := by have := vx.1; omega
  have hd2 : 0 < d2 := by have := vd.1; omega
  obtain ⟨E, hE, b1, b2, c2, c3, c0, c1, c4⟩ := err_cases (n * ud) (d * un) m (Int.mul_pos hd0 hun) m0 m1
  have hB : 0 < d * un := Int.mul_pos hd0 hun
  obtain ⟨hq2, hqN⟩ := whole_quot vq hx2 hun ex eq
  generalize near (n * ud) (d * un) m = N at *
  have hdE : d1 * (d * ud) = E * d2 := by
    have h1 : d1 * (d * ud) * x2 = E * d2 * x2 := by rw [← hE]; grind
    exact Int.eq_of_mul_eq_mul_right (Int.ne_of_gt hx2) h1
  obtain ⟨s1, s2⟩ := sgn (Int.mul_pos hd0 hud) hd2 hdE
  obtain ⟨sA1, sA2⟩ : (0 < n ↔ 0 < n * ud) ∧ (n < 0 ↔ n * ud < 0) := sgn (p := ud) (q := 1) hud (by omega) (by omega)
  generalize n * ud = A at *
  -- the size
  obtain ⟨s, hs⟩ : ∃ s, d1 < 0 ∧ s = -d1 ∨ 0 ≤ d1 ∧ s = d1 := by
    by_cases h1 : d1 < 0
    · exact ⟨_, .inl ⟨h1, rfl⟩⟩
    · exact ⟨_, .inr ⟨by omega, rfl⟩⟩
  obtain ⟨vs, hs0⟩ := valid_size vd hs
  obtain ⟨F, hF, hF0, hFE⟩ : ∃ F, s * (d * ud) = F * d2 ∧ 0 ≤ F ∧ (E < 0 ∧ F = -E ∨ 0 ≤ E ∧ F = E) := by
    rcases hs with ⟨h1, h2⟩ | ⟨h1, h2⟩
    · exact ⟨-E, by rw [h2, Int.neg_mul, Int.neg_mul, hdE], by omega, .inl ⟨by omega, rfl⟩⟩
    · exact ⟨E, by rw [h2, hdE], by omega, .inr ⟨by omega, rfl⟩⟩
  have hlt : s * ud < un * d2 := by
    have h1 : F * d2 < d * un * d2 := Int.mul_lt_mul_of_pos_right (by omega) hd2
    rw [← hF] at h1
    have h2 : s * ud * d < un * d2 * d := by
      have e1 : s * ud * d = s * (d * ud) := by grind
      have e2 : un * d2 * d = d * un * d2 := by grind
      omega
    exact Int.lt_of_mul_lt_mul_right h2 (by omega)
  have hcmp : compS s d2 un ud = -1 := by
    unfold compS
    rw [if_neg (by simp [vs, hu]), if_pos hlt]
  have size_step : Ev (fun k => payrolllaw2_RoundingNearest.j1 k m n d un ud q1 q2 d1 d2 s d2) true → Ev (fun k => payrolllaw2_RoundingNearest.j0 k m false n d un ud q1 q2 d1 d2) true := fun H => by
    refine Ev.step (fun k => ?_) H
    simp only [payrolllaw2_RoundingNearest.j0]
    rw [if_neg (by simp)]
    rcases hs with ⟨h1, h2⟩ | ⟨h1, h2⟩
    · rw [if_pos h1, w64 (x := -d1) (by have := vd.2.2.2.1; omega) (by have := vd.2.2.1; omega), h2]
    · rw [if_neg (by omega), h2]
  refine size_step ?_
  refine Ev.step (fun k => by simp only [payrolllaw2_RoundingNearest.j1]; rw [if_pos hq2]) ?_
  refine Ev.bind (comp_is s d2 un ud) ?_
  rw [hcmp, decide_eq_false (show ¬ ((-1 : Int) ≥ 0) by omega)]
  refine Ev.step (fun k => by simp only [payrolllaw2_RoundingNearest.j2]; rw [if_neg (by simp)]) ?_
  refine Ev.bind (add_is s d2 s d2) ?_
  by_cases m2 : m = 2
  · simp only [if_pos m2, if_pos (show d1 ≤ 0 by have := c2 m2; omega)]
    exact Ev.bind sane2 (Ev.now _)
  by_cases m3 : m = 3
  · simp only [if_neg m2, if_pos m3, if_pos (show d1 ≥ 0 by have := c3 m3; omega)]
    exact Ev.bind sane2 (Ev.now _)
  by_cases mz : m = 0
  · simp only [if_neg m2, if_neg m3, if_pos mz]
    by_cases hz : d1 = 0
    · simp only [if_pos hz]; exact Ev.bind sane2 (Ev.now _)
    · have : ((decide (d1 < 0)) == (decide (n > 0))) = true := by
        have h1 := c0 mz
        rw [beq_iff_eq, decide_eq_decide]
        omega
      simp only [if_neg hz, if_pos this]; exact Ev.bind sane2 (Ev.now _)
  by_cases mo : m = 1
  · simp only [if_neg m2, if_neg m3, if_neg mz, if_pos mo]
    by_cases hz : d1 = 0
    · simp only [if_pos hz]; exact Ev.bind sane2 (Ev.now _)
    · have : ((decide (d1 > 0)) == (decide (n > 0))) = true := by
        have h1 := c1 mo
        rw [beq_iff_eq, decide_eq_decide]
        omega
      simp only [if_neg hz, if_pos this]; exact Ev.bind sane2 (Ev.now _)
  simp only [if_neg m2, if_neg m3, if_neg mz, if_neg mo]
  obtain ⟨w1, w2, hh, hw, cw⟩ := add_facts vs vs
  rw [hw]
  rcases cw with ⟨h4, _⟩ | ⟨h4, vw, ew⟩
  · subst h4
    simp only [show ¬ ((4 : Int) = 0) by decide, if_false]
    exact Ev.bind sane2 (Ev.now _)
  subst h4
  simp only [if_true]
  refine Ev.bind (comp_is w1 w2 un ud) ?_
  obtain ⟨k1, k2, k3⟩ := c4 (by omega)
  have hw2 : 0 < w2 := by have := vw.1; omega
  have ew2 : w1 * d2 = 2 * s * w2 := by
    have h1 : w1 * d2 * d2 = 2 * s * w2 * d2 := by grind
    exact Int.eq_of_mul_eq_mul_right (Int.ne_of_gt hd2) h1
  have key : w1 * ud * (d2 * d) = 2 * F * (d2 * w2) := by
    have h1 : w1 * ud * (d2 * d) = 2 * w2 * (s * (d * ud)) := by grind
    rw [h1, hF]; grind
  have key2 : un * w2 * (d2 * d) = d * un * (d2 * w2) := by grind
  have hp : 0 < d2 * w2 := Int.mul_pos hd2 hw2
  have hp2 : 0 < d2 * d := Int.mul_pos hd2 hd0
  have hc : compS w1 w2 un ud < 0 ∨ compS w1 w2 un ud = 0 ∧ 2 * F = d * un := by
    unfold compS
    rw [if_neg (by simp [vw, hu])]
    by_cases h1 : w1 * ud < un * w2
    · rw [if_pos h1]; exact .inl (by omega)
    · have h2 : 2 * F ≤ d * un := by omega
      have h3 : un * w2 * (d2 * d) ≤ w1 * ud * (d2 * d) := Int.mul_le_mul_of_nonneg_right (by omega) (by omega)
      rw [key, key2] at h3
      have h4 : d * un ≤ 2 * F := Int.le_of_mul_le_mul_right h3 hp
      have h5 : 2 * F = d * un := by omega
      have h6 : w1 * ud = un * w2 := by
        have : w1 * ud * (d2 * d) = un * w2 * (d2 * d) := by rw [key, key2, h5]
        exact Int.eq_of_mul_eq_mul_right (Int.ne_of_gt hp2) this
      rw [if_neg h1, if_neg (by omega)]; exact .inr ⟨rfl, h5⟩
  generalize compS w1 w2 un ud = c at *
  have tie : c = 0 → (m = 4 ∧ (0 < E ∧ 0 < A ∨ E < 0 ∧ A < 0) ∨ m = 5 ∧ (E < 0 ∧ 0 < A ∨ 0 < E ∧ A < 0) ∨ m = 6 ∧ N % 2 = 0) := fun h0 => k3 (by omega)
  by_cases m4 : m = 4
  · simp only [if_pos m4, if_neg (show ¬ m = 5 by omega), if_neg (show ¬ m = 6 by omega)]
    by_cases hb : ((decide (d1 > 0)) == (decide (n > 0))) = true
    · simp only [if_pos hb]; exact j3_is c true (hc.imp id fun h => ⟨h.1, rfl⟩)
    · simp only [if_neg hb]; refine j3_is c false (.inl ?_)
      rw [beq_iff_eq, decide_eq_decide] at hb
      rcases hc with h1 | ⟨h1, h2⟩
      · exact h1
      · have := tie h1; omega
  by_cases m5 : m = 5
  · simp only [if_neg m4, if_pos m5, if_neg (show ¬ m = 6 by omega)]
    by_cases hb : ((decide (d1 < 0)) == (decide (n > 0))) = true
    · simp only [if_pos hb]; exact j3_is c true (hc.imp id fun h => ⟨h.1, rfl⟩)
    · simp only [if_neg hb]; refine j3_is c false (.inl ?_)
      rw [beq_iff_eq, decide_eq_decide] at hb
      rcases hc with h1 | ⟨h1, h2⟩
      · exact h1
      · have := tie h1; omega
  simp only [if_neg m4, if_neg m5, if_pos (show m = 6 by omega)]
  refine j3_is c _ ?_
  rcases hc with h1 | ⟨h1, h2⟩
  · exact .inl h1
  · refine .inr ⟨h1, ?_⟩
    have h3 : N % 2 = 0 := by have := tie h1; omega
    rw [hqN, beq_iff_eq]
    exact Int.tmod_eq_zero_of_dvd (Int.dvd_of_emod_eq_zero h3)
end Go.Proofs.Ytcipegkeoheikaa.Pure
