/- Fractions drawn from the tape are valid; the reference's fraction is the program's. -/
import Derived.Test.YtcipegkeoheikaaPNx5
import Derived.Test.YtcipegkeoheikaaPNx6
import Derived.Test.YtcipegkeoheikaaRatio
import Derived.Test.YtcipegkeoheikaaTape
namespace Go.Proofs.Ytcipegkeoheikaa.Pure
open Go.RowKit Go.Proofs.Ytcipegkeoheikaa Go.Proofs.Ytcipegkeoheikaa.PN Go.Proofs.YtcipegkeoheikaaW.PrintWords
set_option linter.unusedVariables false
set_option linter.unusedSimpArgs false

theorem refgcd_is (n m : Nat) : Ev (fun k => payrollref1_common.f k (n : Int) (m : Int)) ((Nat.gcd n m : Nat) : Int) := by
  have : ∀ m n : Nat, Ev (fun k => payrollref1_common.l0 k (n : Int) (m : Int)) ((Nat.gcd n m : Nat) : Int) := by
    intro m
    induction m using Nat.strongRecOn with
    | _ m ih =>
      intro n
      by_cases hm : m = 0
      · subst hm
        refine Ev.step (f := fun _ => some (n : Int)) (fun k => by simp only [payrollref1_common.l0]; rw [if_pos (by rfl)]) ?_
        rw [Nat.gcd_zero_right]; exact Ev.now _
      · refine Ev.step (f := fun k => payrollref1_common.l0 k (m : Int) ((n % m : Nat) : Int)) (fun k => ?_) ?_
        · simp only [payrollref1_common.l0]
          rw [if_neg (by omega), Int.tmod_eq_emod_of_nonneg (by omega)]
          rfl
        · rw [Nat.gcd_comm, Nat.gcd_rec, Nat.gcd_comm]; exact ih (n % m) (Nat.mod_lt _ (by omega)) m
  exact this m n

theorem refsize_is (a : Int) (h0 : -9223372036854775808 ≤ a) (h1 : a ≤ 9223372036854775807) : payrollref1_size.f a = some ((a.natAbs : Nat) : Int) := by
  have w : ∀ x : Int, IntKind.u64.wrap x = x % 18446744073709551616 := fun _ => rfl
  unfold payrollref1_size.f
  simp only [w]
  by_cases h : a < 0
  · rw [if_pos h, w64 (x := a + 1) (by omega) (by omega), w64 (x := -(a + 1)) (by omega) (by omega)]; congr 1; omega
  · rw [if_neg h]; congr 1; omega

theorem refnew_is (num den : Int) (h0 : -9223372036854775808 ≤ num) (h1 : num ≤ 9223372036854775807) (h2 : -9223372036854775808 ≤ den) (h3 : den ≤ 9223372036854775807) : Ev (fun k => payrollref1_New.f k num den) (newS num den) := by
  unfold payrollref1_New.f newS
  by_cases hd : den = 0
  · simp only [if_pos hd]; exact Ev.now _
  simp only [if_neg hd, refsize_is num h0 h1, refsize_is den h2 h3, Option.bind_some]
  refine Ev.bind (refgcd_is num.natAbs den.natAbs) ?_
  have hg : 0 < Nat.gcd num.natAbs den.natAbs := Nat.gcd_pos_of_pos_right _ (by omega)
  have e1 : Int.tdiv ((num.natAbs : Nat) : Int) ((Nat.gcd num.natAbs den.natAbs : Nat) : Int) = ((num.natAbs / Nat.gcd num.natAbs den.natAbs : Nat) : Int) := by rw [Int.tdiv_eq_ediv_of_nonneg (by omega)]; rfl
  have e2 : Int.tdiv ((den.natAbs : Nat) : Int) ((Nat.gcd num.natAbs den.natAbs : Nat) : Int) = ((den.natAbs / Nat.gcd num.natAbs den.natAbs : Nat) : Int) := by rw [Int.tdiv_eq_ediv_of_nonneg (by omega)]; rfl
  have b1 : num.natAbs / Nat.gcd num.natAbs den.natAbs ≤ num.natAbs := Nat.div_le_self _ _
  have b2 : den.natAbs / Nat.gcd num.natAbs den.natAbs ≤ den.natAbs := Nat.div_le_self _ _
  rw [e1, e2]
  generalize num.natAbs / Nat.gcd num.natAbs den.natAbs = n at *
  generalize den.natAbs / Nat.gcd num.natAbs den.natAbs = d at *
  have hg' : ¬ (((Nat.gcd num.natAbs den.natAbs : Nat) : Int) = 0) := by omega
  simp only [if_neg hg', u64 (x := (n : Int)) (by omega) (by omega), u64 (x := (d : Int)) (by omega) (by omega)]
  by_cases h4 : (n : Int) > 1000000000000
  · simp only [if_pos h4, if_pos (show 1000000000000 < n ∨ 1000000 < d by omega)]
    exact Ev.step (f := fun _ => some (0, 0, 4)) (fun k => by simp [payrollref1_New.j0]) (Ev.now _)
  simp only [if_neg h4]
  by_cases h5 : (d : Int) > 1000000
  · simp only [decide_eq_true h5, if_pos (show 1000000000000 < n ∨ 1000000 < d by omega)]
    exact Ev.step (f := fun _ => some (0, 0, 4)) (fun k => by simp [payrollref1_New.j0]) (Ev.now _)
  simp only [decide_eq_false h5, if_neg (show ¬ (1000000000000 < n ∨ 1000000 < d) by omega)]
  by_cases h6 : ((decide (num < 0)) != (decide (den < 0))) = true
  · simp only [if_pos h6]
    refine Ev.step (f := fun _ => some (-(n : Int), (d : Int), 0)) (fun k => ?_) (Ev.now _)
    simp only [payrollref1_New.j0]
    rw [if_neg (by simp), if_pos h6, w64 (x := (n : Int)) (by omega) (by omega), w64 (x := -(n : Int)) (by omega) (by omega), w64 (x := (d : Int)) (by omega) (by omega)]
  · simp only [if_neg h6]
    refine Ev.step (f := fun _ => some ((n : Int), (d : Int), 0)) (fun k => ?_) (Ev.now _)
    simp only [payrollref1_New.j0]
    rw [if_neg (by simp), if_neg h6, w64 (x := (n : Int)) (by omega) (by omega), w64 (x := (d : Int)) (by omega) (by omega)]


/-- A drawn unit of rounding is a valid fraction above zero. -/
theorem step_tape (l : List Int) (at_ : Int) (h : okT l at_) : ∃ n d at', Ev (fun k => payrollgen_Tape_Step.f k l at_) (n, d, at') ∧ okT l at' ∧ validP n d ∧ 0 < n := by
  unfold payrollgen_Tape_Step.f
  obtain ⟨v4, t4, e4, h, m4⟩ := pick_is l at_ [1, 5, 1, 50, 1, 3, 100, 7] h (by simp) (by simp)
  obtain ⟨v5, t5, e5, h, m5⟩ := pick_is l t4 [100, 1, 20, 100, 2, 1000, 1] h (by simp) (by simp)
  simp only [e4, e5, Option.bind_some]
  simp only [List.mem_cons, List.not_mem_nil, or_false] at m4 m5
  obtain ⟨r1, r2, e, hn, hc⟩ := newS_facts v4 v5 (by omega)
  have hE := refnew_is v4 v5 (by omega) (by omega) (by omega) (by omega)
  rw [hn] at hE
  have hv : validP r1 r2 ∧ 0 < r1 := by
    rcases hc with ⟨he, h1, h2⟩ | ⟨he, hv, hm⟩
    · exfalso
      subst he; subst h1; subst h2
      unfold newS at hn
      have a1 : v4.natAbs / Nat.gcd v4.natAbs v5.natAbs ≤ v4.natAbs := Nat.div_le_self _ _
      have a2 : v5.natAbs / Nat.gcd v4.natAbs v5.natAbs ≤ v5.natAbs := Nat.div_le_self _ _
      rw [if_neg (by omega), if_neg (by omega)] at hn
      split at hn <;> simp at hn
    · refine ⟨hv, ?_⟩
      have h1 := Int.mul_pos (show 0 < v4 by omega) (show 0 < r2 by have := hv.1; omega)
      rw [← hm] at h1
      exact Int.pos_of_mul_pos_left h1 (by omega)
  exact ⟨r1, r2, t5, Ev.bind hE (Ev.now _), h, hv⟩
end Go.Proofs.Ytcipegkeoheikaa.Pure
