/- The program's product with a fraction, rounded once, is the specified number or error: for made and for arbitrary arguments. No condition. -/
import Derived.Test.YtcipegkeoheikaaPx2
import Derived.Test.YtcipegkeoheikaaPx4
import Derived.Test.YtcipegkeoheikaaPx6
import Derived.Test.YtcipegkeoheikaaPart
import Derived.Test.YtcipegkeoheikaaTape
import Derived.Test.YtcipegkeoheikaaSane2
namespace Go.Proofs.Ytcipegkeoheikaa.Pure
open Go.RowKit Go.Proofs.Ytcipegkeoheikaa Go.Proofs.Ytcipegkeoheikaa.P Go.Proofs.YtcipegkeoheikaaW.PrintWords
set_option linter.unusedVariables false
set_option linter.unusedSimpArgs false

theorem part_ev (a n d u m : Int) : Ev (fun k => rounding_Part.f k a n d u m) (partS a n d u m) := Ev.of (rounding_Part.mono a n d u m) (part_is a n d u m 0)
theorem refpart_ev (a n d u m : Int) : Ev (fun k => payrollref2_Part.f k a n d u m) (partS a n d u m) := Ev.of (payrollref2_Part.mono a n d u m) (refpart_is a n d u m 0)

theorem parts_loop (a1 a2 a3 a4 a5 : Int) (l : List Int) (d : Nat) : ∀ (j : Int) (at_ : Int), 0 ≤ j → j + d = 5 → okT l at_ → Ev (fun k => payrolllaw2_RoundingParts.l0 k a1 a2 a3 a4 a5 j l at_) true := by
  induction d with
  | zero =>
    intro j at_ h0 hj hT
    refine Ev.step (fun k => by simp only [payrolllaw2_RoundingParts.l0]; rw [if_neg (by omega)]) ?_
    refine Ev.bind (part_ev a1 a2 a3 a4 a5) (Ev.bind (refpart_ev a1 a2 a3 a4 a5) ?_)
    simp only [if_true]
    exact Ev.bind sane2 (Ev.now _)
  | succ d ih =>
    intro j at_ h0 hj hT
    refine Ev.step (fun k => by simp only [payrolllaw2_RoundingParts.l0]; rw [if_pos (by omega)]) ?_
    obtain ⟨v1, t1, e1, hT, _⟩ := next_is l at_ 200001 hT (by omega)
    simp only [e1, Option.bind_some]
    obtain ⟨v2, t2, e2, hT, _⟩ := pick_is l t1 [wrap64 (v1 - 100000), 1000000000000, -1000000000000, -5] hT (by simp) (by simp)
    simp only [e2, Option.bind_some]
    obtain ⟨v3, t3, e3, hT, _⟩ := next_is l t2 1000 hT (by omega)
    simp only [e3, Option.bind_some]
    obtain ⟨v4, t4, e4, hT, _⟩ := pick_is l t3 [v3, 1000000, 0] hT (by simp) (by simp)
    simp only [e4, Option.bind_some]
    obtain ⟨v5, t5, e5, hT, _⟩ := next_is l t4 1000 hT (by omega)
    simp only [e5, Option.bind_some]
    obtain ⟨v6, t6, e6, hT, _⟩ := pick_is l t5 [wrap64 (1 + v5), 1000000, 1] hT (by simp) (by simp)
    simp only [e6, Option.bind_some]
    obtain ⟨v7, t7, e7, hT, _⟩ := pick_is l t6 [1, 5, 100, 1000000] hT (by simp) (by simp)
    simp only [e7, Option.bind_some]
    obtain ⟨v8, t8, e8, hT, _⟩ := next_is l t7 7 hT (by omega)
    simp only [e8, Option.bind_some]
    refine Ev.bind (part_ev v2 v4 v6 v7 v8) (Ev.bind (refpart_ev v2 v4 v6 v7 v8) ?_)
    simp only [if_true]
    rw [w64 (x := j + 1) (by omega) (by omega)]
    exact ih (j + 1) t8 (by omega) (by omega) hT

theorem RoundingParts : payrolllaw2_RoundingParts.Pure := by
  intro l a1 a2 a3 a4 a5 _ hl _ _ _ _ _ _
  refine Ev.rounds ?_
  unfold payrolllaw2_RoundingParts.f payrollgen_New.f
  simp only [Option.bind_some]
  exact parts_loop a1 a2 a3 a4 a5 l 5 0 0 (by omega) (by omega) (okT_new l hl)
end Go.Proofs.Ytcipegkeoheikaa.Pure
