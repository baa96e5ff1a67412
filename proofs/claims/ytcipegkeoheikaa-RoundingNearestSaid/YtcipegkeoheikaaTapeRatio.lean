/- A fraction drawn from the tape is valid. -/
import Derived.Test.YtcipegkeoheikaaPNx5
import Derived.Test.YtcipegkeoheikaaTapeR
namespace Go.Proofs.Ytcipegkeoheikaa.Pure
open Go.RowKit Go.Proofs.Ytcipegkeoheikaa Go.Proofs.Ytcipegkeoheikaa.PN Go.Proofs.YtcipegkeoheikaaW.PrintWords
set_option linter.unusedVariables false
set_option linter.unusedSimpArgs false

theorem small_valid (x : Int) : validP (Int.tmod x 1000) 1 := by
  have h1 := Int.tmod_lt_of_pos x (show (0 : Int) < 1000 by omega)
  have h2 := Int.lt_tmod_of_pos x (show (0 : Int) < 1000 by omega)
  exact ⟨by omega, by omega, by omega, by omega, by simp⟩

/-- A drawn fraction is valid. -/
theorem ratio_tape (l : List Int) (at_ : Int) (h : okT l at_) : ∃ n d at', Ev (fun k => payrollgen_Tape_Ratio.f k l at_) (n, d, at') ∧ okT l at' ∧ validP n d := by
  unfold payrollgen_Tape_Ratio.f
  obtain ⟨v1, t1, e1, h, b1, c1⟩ := next_is l at_ 41 h (by omega)
  obtain ⟨v2, t2, e2, h, b2, c2⟩ := next_is l t1 12 h (by omega)
  obtain ⟨v3, t3, e3, h, b3, c3⟩ := next_is l t2 8 h (by omega)
  simp only [e1, e2, e3, Option.bind_some]
  have end_ : ∀ (x y at' : Int), okT l at' → -9223372036854775808 ≤ x → x ≤ 9223372036854775807 → 0 < y → y ≤ 9223372036854775807 → ∃ n d at'', Ev (fun k => (payrollref1_New.f k x y).bind fun bt => if bt.2.2 = 0 then some (bt.1, bt.2.1, at') else some (Int.tmod x 1000, 1, at')) (n, d, at'') ∧ okT l at'' ∧ validP n d := by
    intro x y at' ht hx0 hx1 hy0 hy1
    obtain ⟨r1, r2, e, hn, hc⟩ := newS_facts x y hy0
    have hE := refnew_is x y hx0 hx1 (by omega) hy1
    rw [hn] at hE
    rcases hc with ⟨he, _⟩ | ⟨he, hv, _⟩
    · refine ⟨_, _, _, Ev.bind hE ?_, ht, small_valid x⟩
      subst he; exact Ev.now _
    · refine ⟨_, _, _, Ev.bind hE ?_, ht, hv⟩
      subst he; exact Ev.now _
  by_cases q5 : v3 = 5
  · simp only [if_pos q5]
    obtain ⟨v4, t4, e4, h, m4⟩ := pick_is l t3 [1000000000000, -1000000000000, 999999999999, 999999] h (by simp) (by simp)
    obtain ⟨v5, t5, e5, h, m5⟩ := pick_is l t4 [1, 1000000, 7, 100] h (by simp) (by simp)
    simp only [e4, e5, Option.bind_some]
    simp only [List.mem_cons, List.not_mem_nil, or_false] at m4 m5
    exact end_ v4 v5 t5 h (by omega) (by omega) (by omega) (by omega)
  simp only [if_neg q5]
  by_cases q6 : v3 = 6
  · simp only [if_pos q6]
    obtain ⟨v4, t4, e4, h, b4, c4⟩ := next_is l t3 200001 h (by omega)
    simp only [e4, Option.bind_some, w64 (x := v4 - 100000) (by omega) (by omega)]
    exact end_ (v4 - 100000) 100 t4 h (by omega) (by omega) (by omega) (by omega)
  simp only [if_neg q6]
  by_cases q7 : v3 = 7
  · simp only [if_pos q7]
    obtain ⟨v4, t4, e4, h, b4, c4⟩ := next_is l t3 1000 h (by omega)
    obtain ⟨v5, t5, e5, h, m5⟩ := pick_is l t4 [1000000, 999983, 65536, 1000] h (by simp) (by simp)
    simp only [e4, e5, Option.bind_some]
    simp only [List.mem_cons, List.not_mem_nil, or_false] at m5
    exact end_ v4 v5 t5 h (by omega) (by omega) (by omega) (by omega)
  simp only [if_neg q7, w64 (x := v1 - 20) (by omega) (by omega), w64 (x := 1 + v2) (by omega) (by omega)]
  exact end_ (v1 - 20) (1 + v2) t3 h (by omega) (by omega) (by omega) (by omega)

end Go.Proofs.Ytcipegkeoheikaa.Pure
