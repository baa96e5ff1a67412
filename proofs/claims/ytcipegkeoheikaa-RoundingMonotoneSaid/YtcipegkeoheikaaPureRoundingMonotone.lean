/- Rounding keeps the order, and a rounded fraction is rounded to itself. -/
import Derived.Test.YtcipegkeoheikaaPMx2
import Derived.Test.YtcipegkeoheikaaPMx7
import Derived.Test.YtcipegkeoheikaaRatio
import Derived.Test.YtcipegkeoheikaaTapeRatio
import Derived.Test.YtcipegkeoheikaaSane2
namespace Go.Proofs.Ytcipegkeoheikaa.Pure
open Go.RowKit Go.Proofs.Ytcipegkeoheikaa Go.Proofs.Ytcipegkeoheikaa.PM Go.Proofs.YtcipegkeoheikaaW.PrintWords
set_option linter.unusedVariables false
set_option linter.unusedSimpArgs false

theorem near_mul (q d m : Int) (hd : 0 < d) : near (q * d) d m = q := by
  unfold near
  rw [if_pos (Int.mul_emod_left q d), Int.mul_ediv_cancel _ (by omega)]

/-- A rounded fraction is rounded to itself. -/
theorem round_again (n d un ud m x1 x2 : Int) (hd : validP n d) (hu : validP un ud) (hun : 0 < un) (hm0 : 0 ≤ m) (hm : m ≤ 6)
    (hx : validP x1 x2) (h : roundS n d un ud m = (x1, x2, 0)) (he : x1 * ud = near (n * ud) (d * un) m * un * x2) : roundS x1 x2 un ud m = (x1, x2, 0) := by
  have hN : near (x1 * ud) (x2 * un) m = near (n * ud) (d * un) m := by
    rw [he, Int.mul_assoc, Int.mul_comm un x2]
    exact near_mul _ _ _ (Int.mul_pos (by have := hx.1; omega) hun)
  unfold roundS at h ⊢
  rw [if_neg (by simp [hd, hu]), if_neg (by omega)] at h
  rw [if_neg (by simp [hx, hu]), if_neg (by omega), hN, h]

theorem round_facts (n d un ud m : Int) (hd : validP n d) (hu : validP un ud) (hun : 0 < un) (hm0 : 0 ≤ m) (hm : m ≤ 6) :
    ∃ r1 r2 e, roundS n d un ud m = (r1, r2, e) ∧ (e = 4 ∧ r1 = 0 ∧ r2 = 0 ∨ e = 0 ∧ validP r1 r2 ∧ r1 * ud = near (n * ud) (d * un) m * un * r2) := by
  unfold roundS
  rw [if_neg (by simp [hd, hu]), if_neg (by omega)]
  exact newS_facts _ ud (by have := hu.1; omega)

theorem comp_mono (a1 a2 b1 b2 un ud m x1 x2 y1 y2 : Int) (ha : validP a1 a2) (hb : validP b1 b2) (hu : validP un ud) (hun : 0 < un)
    (hx : validP x1 x2) (hy : validP y1 y2) (ex : x1 * ud = near (a1 * ud) (a2 * un) m * un * x2) (ey : y1 * ud = near (b1 * ud) (b2 * un) m * un * y2)
    (h : ¬ compS a1 a2 b1 b2 > 0) : compS x1 x2 y1 y2 ≤ 0 := by
  have hud : 0 < ud := by have := hu.1; omega
  have ha2 : 0 < a2 := by have := ha.1; omega
  have hb2 : 0 < b2 := by have := hb.1; omega
  have hx2 : 0 < x2 := by have := hx.1; omega
  have hy2 : 0 < y2 := by have := hy.1; omega
  have hab : a1 * b2 ≤ b1 * a2 := by
    unfold compS at h
    rw [if_neg (by simp [ha, hb])] at h
    rcases Int.lt_or_le (b1 * a2) (a1 * b2) with h1 | h1
    · rw [if_neg (by omega), if_pos h1] at h; omega
    · exact h1
  have hN := near_mono (a1 * ud) (a2 * un) (b1 * ud) (b2 * un) m (Int.mul_pos ha2 hun) (Int.mul_pos hb2 hun) (by
    have e1 : a1 * ud * (b2 * un) = a1 * b2 * (ud * un) := by rw [Int.mul_assoc, Int.mul_assoc, Int.mul_left_comm ud b2 un]
    have e2 : b1 * ud * (a2 * un) = b1 * a2 * (ud * un) := by rw [Int.mul_assoc, Int.mul_assoc, Int.mul_left_comm ud a2 un]
    rw [e1, e2]
    exact Int.mul_le_mul_of_nonneg_right hab (Int.le_of_lt (Int.mul_pos hud hun)))
  have hxy : x1 * y2 ≤ y1 * x2 := by
    have e1 : x1 * y2 * ud = near (a1 * ud) (a2 * un) m * (un * (x2 * y2)) := by rw [Int.mul_right_comm, ex, Int.mul_assoc, Int.mul_assoc]
    have e2 : y1 * x2 * ud = near (b1 * ud) (b2 * un) m * (un * (x2 * y2)) := by rw [Int.mul_right_comm, ey, Int.mul_assoc, Int.mul_assoc, Int.mul_comm y2 x2]
    have := Int.mul_le_mul_of_nonneg_right hN (Int.le_of_lt (Int.mul_pos hun (Int.mul_pos hx2 hy2)))
    rw [← e1, ← e2] at this
    exact Int.le_of_mul_le_mul_right this hud
  unfold compS
  rw [if_neg (by simp [hx, hy])]
  split
  · omega
  · rw [if_neg (by omega)]; omega

theorem RoundingMonotone : payrolllaw2_RoundingMonotone.Pure := by
  intro l mode _ hl _ _
  refine Ev.rounds ?_
  unfold payrolllaw2_RoundingMonotone.f payrollgen_New.f
  simp only [Option.bind_some]
  obtain ⟨a1, a2, t1, E1, h, ha⟩ := ratio_tape l 0 (okT_new l hl)
  refine Ev.bind E1 ?_
  obtain ⟨b1, b2, t2, E2, h, hb⟩ := ratio_tape l t1 h
  refine Ev.bind E2 ?_
  obtain ⟨un, ud, t3, E3, h, hu, hun⟩ := step_tape l t2 h
  refine Ev.bind E3 ?_
  simp only [mod_is mode 7 (by omega) (by omega), Option.bind_some]
  have m0 : 0 ≤ mode % 7 := Int.emod_nonneg _ (by omega)
  have m1 : mode % 7 ≤ 6 := by omega
  generalize mode % 7 = m at *
  refine Ev.bind (round_is a1 a2 un ud m) (Ev.bind (round_is b1 b2 un ud m) ?_)
  obtain ⟨x1, x2, e, hx, cx⟩ := round_facts a1 a2 un ud m ha hu hun m0 m1
  obtain ⟨y1, y2, f, hy, cy⟩ := round_facts b1 b2 un ud m hb hu hun m0 m1
  rw [hx, hy]
  dsimp only
  have go : (f != 0) = true → f = 4 → Ev (fun k => payrolllaw2_RoundingMonotone.j0 k m e f (f != 0) a1 a2 b1 b2 un ud x1 x2 y1 y2) true := fun h1 h2 => by
    subst h2
    by_cases he : e = 4
    · refine Ev.step (fun k => by simp only [payrolllaw2_RoundingMonotone.j0]; rw [if_pos h1, if_pos he]) (Ev.bind sane2 (Ev.now _))
    · refine Ev.step (fun k => by simp only [payrolllaw2_RoundingMonotone.j0]; rw [if_pos h1, if_neg he, if_pos trivial]) (Ev.bind sane2 (Ev.now _))
  rcases cx with ⟨he, _, _⟩ | ⟨he, vx, ex⟩
  · subst he
    simp only [show ¬ ((4 : Int) = 0) by decide, if_false]
    exact Ev.step (fun k => by simp only [payrolllaw2_RoundingMonotone.j0]; rw [if_pos trivial, if_pos trivial]) (Ev.bind sane2 (Ev.now _))
  simp only [if_pos he]
  rcases cy with ⟨hf, _, _⟩ | ⟨hf, vy, ey⟩
  · exact go (by subst hf; decide) hf
  subst he
  subst hf
  have again := round_again a1 a2 un ud m x1 x2 ha hu hun m0 m1 vx hx ex
  refine Ev.step (fun k => by simp only [payrolllaw2_RoundingMonotone.j0]; rw [if_neg (by decide)]) ?_
  refine Ev.bind (round_is x1 x2 un ud m) ?_
  rw [again]
  refine Ev.bind (comp_is a1 a2 b1 b2) ?_
  dsimp only
  by_cases hc : compS a1 a2 b1 b2 > 0
  · simp only [if_pos hc, if_true, beq_self_eq_true, Bool.and_self]
    exact Ev.bind sane2 (Ev.now _)
  · simp only [if_neg hc]
    refine Ev.bind (comp_is x1 x2 y1 y2) ?_
    simp only [if_pos (comp_mono a1 a2 b1 b2 un ud m x1 x2 y1 y2 ha hb hu hun vx vy ex ey hc), if_true, beq_self_eq_true, Bool.and_self]
    exact Ev.bind sane2 (Ev.now _)
end Go.Proofs.Ytcipegkeoheikaa.Pure
