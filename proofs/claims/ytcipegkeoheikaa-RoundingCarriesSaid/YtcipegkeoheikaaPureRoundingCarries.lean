/- Carried amounts are paid exactly in the long run. -/
import Derived.Test.YtcipegkeoheikaaPKx2
import Derived.Test.YtcipegkeoheikaaPKx7
import Derived.Test.YtcipegkeoheikaaPKx8
import Derived.Test.YtcipegkeoheikaaLattice
import Derived.Test.YtcipegkeoheikaaRefOps
import Derived.Test.YtcipegkeoheikaaSane2
namespace Go.Proofs.Ytcipegkeoheikaa.Pure
open Go.RowKit Go.Proofs.Ytcipegkeoheikaa Go.Proofs.Ytcipegkeoheikaa.PK Go.Proofs.YtcipegkeoheikaaW.PrintWords
set_option linter.unusedVariables false
set_option linter.unusedSimpArgs false

theorem carry_is {R C U a b c d un ud m : Int} (hr : isV R a b) (hc : isV C c d) (hu : isV U un ud) (hun : 0 < un) (hU : 0 < U) (hm0 : 0 ≤ m) (hm : m ≤ 6)
    (b0 : -10000000000 ≤ R + C) (b1 : R + C ≤ 10000000000) (b2 : U ≤ 10000000000) :
    ∃ p1 p2 r1 r2 M, Ev (fun k => rounding_Carry.f k a b c d un ud m) (p1, p2, r1, r2, 0) ∧ isV (M * U) p1 p2 ∧ isV (R + C - M * U) r1 r2 ∧ -U < R + C - M * U ∧ R + C - M * U < U := by
  obtain ⟨s1, s2, hs, vs⟩ := addS_isV hr hc (by omega) (by omega)
  obtain ⟨p1, p2, M, hp, vp, l1, l2⟩ := roundS_isV vs hu hun hm0 hm hU (by omega) (by omega) (by omega)
  obtain ⟨r1, r2, hq, vq⟩ := subS_isV vs vp (by omega) (by omega)
  refine ⟨p1, p2, r1, r2, M, ?_, vp, vq, l1, l2⟩
  unfold rounding_Carry.f
  refine Ev.bind (add_is a b c d) ?_
  rw [hs]
  simp only [if_true]
  refine Ev.bind (round_is s1 s2 un ud m) ?_
  rw [hp]
  simp only [if_true]
  refine Ev.bind (sub_is s1 s2 p1 p2) ?_
  rw [hq]
  simp only [if_true]
  exact Ev.now _

theorem carries_loop (mode : Int) (l : List Int) (un ud U : Int) (hu : isV U un ud) (hun : 0 < un) (hU : 0 < U) (hU1 : U ≤ 2100000) (d : Nat) :
    ∀ (j : Int) (at_ : Int) (r1 r2 p1 p2 o1 o2 R P : Int), 0 ≤ j → j + d = 6 → okT l at_ → isV R r1 r2 → isV P p1 p2 → isV (P + R) o1 o2 → -U < R → R < U → -(21000000 * j) ≤ P + R → P + R ≤ 21000000 * j →
      Ev (fun k => payrolllaw2_RoundingCarries.l0 k mode j l at_ un ud r1 r2 p1 p2 o1 o2) true := by
  induction d with
  | zero =>
    intro j at_ r1 r2 p1 p2 o1 o2 R P h0 hj hT hr hp ho b1 b2 b3 b4
    refine Ev.step (fun k => by simp only [payrolllaw2_RoundingCarries.l0]; rw [if_neg (by omega)]) ?_
    refine Ev.bind (refadd_is p1 p2 r1 r2) ?_
    obtain ⟨s1, s2, hs, vs⟩ := addS_isV hp hr (by omega) (by omega)
    obtain ⟨e1, e2⟩ := isV_eq vs ho
    rw [hs]
    simp only [if_true]
    simp only [e1, e2, beq_self_eq_true, Bool.and_self, if_true]
    exact Ev.bind sane2 (Ev.now _)
  | succ d ih =>
    intro j at_ r1 r2 p1 p2 o1 o2 R P h0 hj hT hr hp ho b1 b2 b3 b4
    refine Ev.step (fun k => by simp only [payrolllaw2_RoundingCarries.l0]; rw [if_pos (by omega)]) ?_
    obtain ⟨v1, t1, v2, t2, c1, c2, C, e1, e2, E3, hT, hc, b5, b6⟩ := amount_lat l at_ hT
    simp only [e1, e2, Option.bind_some]
    refine Ev.bind E3 ?_
    simp only [mod_is mode 7 (by omega) (by omega), Option.bind_some]
    have m0 : 0 ≤ mode % 7 := Int.emod_nonneg _ (by omega)
    have m1 : mode % 7 ≤ 6 := by omega
    generalize mode % 7 = m at *
    obtain ⟨q1, q2, n1, n2, M, E4, vq, vn, l1, l2⟩ := carry_is hr hc hu hun hU m0 m1 (by omega) (by omega) (by omega)
    refine Ev.bind E4 ?_
    simp only [if_true]
    refine Ev.bind (comp_is n1 n2 un ud) ?_
    rw [comp_isV vn hu l2]
    simp only [show ¬ ((-1 : Int) ≥ 0) by decide, if_false]
    rw [w64 (x := -un) (by have := hu.1.2.2.2.1; omega) (by have := hu.1.2.2.1; omega)]
    refine Ev.bind (comp_is (-un) ud n1 n2) ?_
    rw [comp_isV (neg_isV hu) vn l1, decide_eq_false (show ¬ ((-1 : Int) ≥ 0) by decide)]
    refine Ev.step (fun k => by simp only [payrolllaw2_RoundingCarries.j1]; rw [if_neg (by simp)]) ?_
    obtain ⟨x1, x2, hx, vx⟩ := addS_isV hp vq (by omega) (by omega)
    obtain ⟨y1, y2, hy, vy⟩ := addS_isV ho hc (by omega) (by omega)
    refine Ev.bind (refadd_is p1 p2 q1 q2) ?_
    refine Ev.bind (refadd_is o1 o2 c1 c2) ?_
    rw [hx, hy, w64 (x := j + 1) (by omega) (by omega)]
    refine ih (j + 1) t2 n1 n2 x1 x2 y1 y2 (R + C - M * U) (P + M * U) (by omega) (by omega) hT vn vx ?_ (by omega) (by omega) (by omega) (by omega)
    rw [show P + M * U + (R + C - M * U) = P + R + C by omega]; exact vy

theorem RoundingCarries : payrolllaw2_RoundingCarries.Pure := by
  intro l mode _ hl _ _
  refine Ev.rounds ?_
  unfold payrolllaw2_RoundingCarries.f payrollgen_New.f
  simp only [Option.bind_some]
  obtain ⟨un, ud, t, U, E1, h, hu, hun, hU, hU1⟩ := step_lat l 0 (okT_new l hl)
  refine Ev.bind E1 ?_
  have z : isV 0 0 1 := ⟨⟨by omega, by omega, by omega, by omega, by simp⟩, by omega⟩
  exact carries_loop mode l un ud U hu hun hU hU1 6 0 t 0 1 0 1 0 1 0 0 (by omega) (by omega) h z z (by simpa using z) (by omega) (by omega) (by omega) (by omega)
end Go.Proofs.Ytcipegkeoheikaa.Pure
