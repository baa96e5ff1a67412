/- The two ways to round a fraction to a whole number, the program's and the reference's, both give the number nearest to it in the mode. -/
import Derived.Test.YtcipegkeoheikaaPNx3
import Derived.Test.YtcipegkeoheikaaNum
namespace Go.Proofs.Ytcipegkeoheikaa.Pure
open Go.RowKit Go.Proofs.Ytcipegkeoheikaa.PN Go.Proofs.YtcipegkeoheikaaW.PrintWords
set_option linter.unusedVariables false
set_option linter.unusedSimpArgs false

theorem up_is (a0 : Bool) (q h m : Int) : rounding_up.f a0 q h m = some (if m = 2 then false else if m = 3 then true else if m = 0 then !a0 else if m = 1 then a0 else if h = 0 then (if m = 4 then a0 else if m = 5 then !a0 else Int.tmod q 2 != 0) else decide (h > 0)) := by
  unfold rounding_up.f
  repeat (first | rfl | split)

theorem whole_is (n d m : Int) (hd : 0 < d) (hd1 : d ≤ 2000000000000000000) (h0 : -2000000000000000000 ≤ n) (h1 : n ≤ 2000000000000000000) : rounding_whole.f n d m = some (near n d m) := by
  obtain ⟨⟨e0, e1, e2⟩, hc⟩ := tdm n d hd
  obtain ⟨b0, b1⟩ := ediv_bd n d 2000000000000000000 hd h0 h1
  have hq2 : Int.tmod (n / d) 2 = 0 ↔ n / d % 2 = 0 := by rw [← Int.dvd_iff_tmod_eq_zero, Int.dvd_iff_emod_eq_zero]
  unfold rounding_whole.f
  simp only [up_is]
  unfold near
  generalize hq : n / d = q at *
  generalize hr : n % d = r at *
  rcases hc with ⟨hs, ht, hu⟩ | ⟨hs, ht, hu⟩
  · rw [ht, hu, if_neg (by omega), if_neg (by omega)]
    by_cases hr0 : r = 0
    · rw [if_neg (by omega), if_pos hr0, w64 (by omega) (by omega)]
    · have hn0 : 0 ≤ n := by omega
      have hn : decide (n > 0) = true := by rw [decide_eq_true_eq]; rcases Int.lt_or_eq_of_le hn0 with h | h
                                            · exact h
                                            · subst h; simp at hr; omega
      rw [if_pos (by omega), if_neg hr0, hn, w64 (x := q) (by omega) (by omega), w64 (x := 2 * r) (by omega) (by omega), w64 (x := 2 * r - d) (by omega) (by omega)]
      simp only [Option.bind_some]
      rw [w64 (x := q + 1) (by omega) (by omega)]
      have hn' : ¬ n < 0 := by omega
      simp only [if_neg hn']
      rcases Int.lt_trichotomy (2 * r) d with h2 | h2 | h2
      · have h3 : ¬ (d < 2 * r) := by omega
        have h4 : ¬ (2 * r - d = 0) := by omega
        have h5 : ¬ (0 < 2 * r - d) := by omega
        by_cases m2 : m = 2 <;> by_cases m3 : m = 3 <;> by_cases m0 : m = 0 <;> by_cases m1 : m = 1 <;> simp [m2, m3, m0, m1, h2, h3, h4, h5] <;> try omega
      · have h3 : ¬ (d < 2 * r) := by omega
        have h4 : 2 * r - d = 0 := by omega
        have h5 : ¬ (2 * r < d) := by omega
        by_cases m2 : m = 2 <;> by_cases m3 : m = 3 <;> by_cases m0 : m = 0 <;> by_cases m1 : m = 1 <;> by_cases m4 : m = 4 <;> by_cases m5 : m = 5 <;> by_cases hz : q % 2 = 0 <;> simp [m2, m3, m0, m1, m4, m5, h3, h4, h5, hz, hq2] <;> try omega
      · have h3 : ¬ (2 * r < d) := by omega
        have h4 : ¬ (2 * r - d = 0) := by omega
        have h5 : 0 < 2 * r - d := by omega
        by_cases m2 : m = 2 <;> by_cases m3 : m = 3 <;> by_cases m0 : m = 0 <;> by_cases m1 : m = 1 <;> simp [m2, m3, m0, m1, h2, h3, h4, h5] <;> try omega
  · have hn' : n < 0 := hs.1
    have hn : decide (n > 0) = false := by rw [decide_eq_false_iff_not]; omega
    rw [ht, hu, if_neg (by omega), if_pos (by omega), w64 (x := q + 1) (by omega) (by omega), w64 (x := q + 1 - 1) (by omega) (by omega), w64 (x := r - d + d) (by omega) (by omega), if_pos (show r - d + d > 0 by omega), if_neg (show ¬ r = 0 by omega), hn]
    rw [show q + 1 - 1 = q by omega, show r - d + d = r by omega, w64 (x := 2 * r) (by omega) (by omega), w64 (x := 2 * r - d) (by omega) (by omega), w64 (x := q + 1) (by omega) (by omega)]
    simp only [Option.bind_some]
    simp only [if_pos hn']
    rcases Int.lt_trichotomy (2 * r) d with h2 | h2 | h2
    · have h3 : ¬ (d < 2 * r) := by omega
      have h4 : ¬ (2 * r - d = 0) := by omega
      have h5 : ¬ (0 < 2 * r - d) := by omega
      by_cases m2 : m = 2 <;> by_cases m3 : m = 3 <;> by_cases m0 : m = 0 <;> by_cases m1 : m = 1 <;> simp [m2, m3, m0, m1, h2, h3, h4, h5] <;> try omega
    · have h3 : ¬ (d < 2 * r) := by omega
      have h4 : 2 * r - d = 0 := by omega
      have h5 : ¬ (2 * r < d) := by omega
      by_cases m2 : m = 2 <;> by_cases m3 : m = 3 <;> by_cases m0 : m = 0 <;> by_cases m1 : m = 1 <;> by_cases m4 : m = 4 <;> by_cases m5 : m = 5 <;> by_cases hz : q % 2 = 0 <;> simp [m2, m3, m0, m1, m4, m5, h3, h4, h5, hz, hq2] <;> try omega
    · have h3 : ¬ (2 * r < d) := by omega
      have h4 : ¬ (2 * r - d = 0) := by omega
      have h5 : 0 < 2 * r - d := by omega
      by_cases m2 : m = 2 <;> by_cases m3 : m = 3 <;> by_cases m0 : m = 0 <;> by_cases m1 : m = 1 <;> simp [m2, m3, m0, m1, h2, h3, h4, h5] <;> try omega
end Go.Proofs.Ytcipegkeoheikaa.Pure
