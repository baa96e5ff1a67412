/- The tape of choices: what Next and Pick answer, and their bounds. -/
import Derived.Test.YtcipegkeoheikaaPNx1
import Derived.Test.YtcipegkeoheikaaPNx5
import Derived.Test.YtcipegkeoheikaaNum
import Derived.Test.YtcipegkeoheikaaAlloc1
namespace Go.Proofs.Ytcipegkeoheikaa.Pure
open Go.RowKit Go.Proofs.Ytcipegkeoheikaa Go.Proofs.Ytcipegkeoheikaa.PN Go.Proofs.YtcipegkeoheikaaW.PrintWords
set_option linter.unusedVariables false
set_option linter.unusedSimpArgs false

/-- The place on a tape of so many numbers. -/
def okT (l : List Int) (at_ : Int) : Prop := 0 ≤ at_ ∧ at_ ≤ l.length ∧ l.length ≤ 17592186044416

theorem mod_is (v n : Int) (hn : 0 < n) (hn1 : n ≤ 9223372036854775807) : payrollgen_Mod.f v n = some (v % n) := by
  obtain ⟨⟨e0, e1, e2⟩, hc⟩ := tdm v n hn
  unfold payrollgen_Mod.f
  rw [if_neg (by omega)]
  rcases hc with ⟨_, ht, _⟩ | ⟨hs, ht, _⟩
  · rw [ht, if_neg (by omega)]
  · rw [ht, if_pos (by omega), w64 (by omega) (by omega)]; congr 1; omega

/-- Next gives a number from 0 to n - 1 (0, if n is less than 1) and goes on. -/
theorem next_is (l : List Int) (at_ n : Int) (h : okT l at_) (hn1 : n ≤ 9223372036854775807) : ∃ v at', payrollgen_Tape_Next.f l at_ n = some (v, at') ∧ okT l at' ∧ 0 ≤ v ∧ (v < n ∨ n < 1 ∧ v = 0) := by
  obtain ⟨h0, h1, h2⟩ := h
  unfold payrollgen_Tape_Next.f
  by_cases hn : n < 1
  · exact ⟨0, at_, by rw [if_pos hn], ⟨h0, h1, h2⟩, by omega, .inr ⟨hn, rfl⟩⟩
  by_cases ha : at_ ≥ (l.length : Int)
  · exact ⟨0, at_, by rw [if_neg hn, if_pos ha], ⟨h0, h1, h2⟩, by omega, .inl (by omega)⟩
  have e0 := Int.emod_nonneg (rd l at_) (show n ≠ 0 by omega)
  have e1 := Int.emod_lt_of_pos (rd l at_) (show 0 < n by omega)
  refine ⟨rd l at_ % n, at_ + 1, ?_, ⟨by omega, by omega, h2⟩, e0, .inl e1⟩
  rw [if_neg hn, if_neg ha, w64 (x := at_ + 1) (by omega) (by omega), w64 (x := at_ + 1 - 1) (by omega) (by omega), show at_ + 1 - 1 = at_ by omega, if_pos h0, if_pos (by omega), mod_is _ _ (by omega) hn1]
  rfl

/-- Pick gives one of the numbers. -/
theorem pick_is (l : List Int) (at_ : Int) (xs : List Int) (h : okT l at_) (hx : 0 < xs.length) (hx1 : xs.length ≤ 1000) : ∃ v at', payrollgen_Tape_Pick.f l at_ xs = some (v, at') ∧ okT l at' ∧ v ∈ xs := by
  obtain ⟨v, at', e, ho, h0, h1⟩ := next_is l at_ (xs.length : Int) h (by omega)
  have h2 : v < (xs.length : Int) := by omega
  refine ⟨rd xs v, at', ?_, ho, ?_⟩
  · unfold payrollgen_Tape_Pick.f
    rw [e]
    simp only [Option.bind_some]
    rw [if_pos h0, if_pos h2]
  · obtain ⟨j, rfl⟩ : ∃ j : Nat, v = (j : Int) := ⟨v.toNat, by omega⟩
    rw [rd_nat xs j (by omega)]
    exact List.getElem_mem _

theorem okT_new (l : List Int) (h : l.length * 8 ≤ 140737488351232) : okT l 0 := ⟨by omega, by omega, by omega⟩
end Go.Proofs.Ytcipegkeoheikaa.Pure
