/- Fractions whose value is a whole number of parts of 21000: sums and roundings of such never overflow, and equal values are equal fractions. -/
import Derived.Test.YtcipegkeoheikaaPKx2
import Derived.Test.YtcipegkeoheikaaPKx6
import Derived.Test.YtcipegkeoheikaaRatioOps
import Derived.Test.YtcipegkeoheikaaTapeR
import Derived.Test.YtcipegkeoheikaaPureRoundingNear
namespace Go.Proofs.Ytcipegkeoheikaa.Pure
open Go.RowKit Go.Proofs.Ytcipegkeoheikaa Go.Proofs.Ytcipegkeoheikaa.PK Go.Proofs.YtcipegkeoheikaaW.PrintWords
set_option linter.unusedVariables false
set_option linter.unusedSimpArgs false

/-- The valid fraction a / b is A parts of 21000. -/
def isV (A a b : Int) : Prop := validP a b ∧ a * 21000 = A * b

theorem isV_eq {A a b c d : Int} (h1 : isV A a b) (h2 : isV A c d) : a = c ∧ b = d := by
  obtain ⟨v1, e1⟩ := h1
  obtain ⟨v2, e2⟩ := h2
  have h : a * d = c * b := by
    have : a * d * 21000 = c * b * 21000 := by grind
    omega
  have hn : a.natAbs * d.natAbs = c.natAbs * b.natAbs := by rw [← Int.natAbs_mul, ← Int.natAbs_mul, h]
  have d1 : b.natAbs ∣ d.natAbs := by
    have hc : Nat.Coprime b.natAbs a.natAbs := by have := v1.2.2.2.2; rw [Nat.gcd_comm] at this; exact this
    exact hc.dvd_of_dvd_mul_left (by rw [hn]; exact Nat.dvd_mul_left _ _)
  have d2 : d.natAbs ∣ b.natAbs := by
    have hc : Nat.Coprime d.natAbs c.natAbs := by have := v2.2.2.2.2; rw [Nat.gcd_comm] at this; exact this
    exact hc.dvd_of_dvd_mul_left (by rw [← hn]; exact Nat.dvd_mul_left _ _)
  have hbd := Nat.dvd_antisymm d1 d2
  have hb : b = d := by have := v1.1; have := v2.1; omega
  refine ⟨?_, hb⟩
  rw [hb] at h
  exact Int.eq_of_mul_eq_mul_right (by have := v2.1; omega) h

theorem newS_isV {num den A : Int} (hd : 0 < den) (h : num * 21000 = A * den) (h0 : -1000000000000 ≤ A) (h1 : A ≤ 1000000000000) : ∃ r1 r2, newS num den = (r1, r2, 0) ∧ isV A r1 r2 := by
  obtain ⟨r1, r2, e, hn, hc⟩ := newS_facts num den hd
  rcases hc with ⟨he, _, _⟩ | ⟨he, hv, hm⟩
  · exfalso
    unfold newS at hn
    have hg : 0 < Nat.gcd num.natAbs den.natAbs := Nat.gcd_pos_of_pos_right _ (by omega)
    have hc : Nat.gcd (num.natAbs / Nat.gcd num.natAbs den.natAbs) (den.natAbs / Nat.gcd num.natAbs den.natAbs) = 1 := Nat.gcd_div_gcd_div_gcd_of_pos_right (by omega)
    have e1 : num.natAbs / Nat.gcd num.natAbs den.natAbs * Nat.gcd num.natAbs den.natAbs = num.natAbs := Nat.div_mul_cancel (Nat.gcd_dvd_left _ _)
    have e2 : den.natAbs / Nat.gcd num.natAbs den.natAbs * Nat.gcd num.natAbs den.natAbs = den.natAbs := Nat.div_mul_cancel (Nat.gcd_dvd_right _ _)
    generalize num.natAbs / Nat.gcd num.natAbs den.natAbs = n at *
    generalize den.natAbs / Nat.gcd num.natAbs den.natAbs = d at *
    generalize Nat.gcd num.natAbs den.natAbs = g at *
    have hN : num.natAbs * 21000 = A.natAbs * den.natAbs := by
      have := congrArg Int.natAbs h
      rw [Int.natAbs_mul, Int.natAbs_mul] at this
      exact this
    have h3 : n * 21000 = A.natAbs * d := by
      have : n * 21000 * g = A.natAbs * d * g := by rw [Nat.mul_assoc A.natAbs, e2, ← hN, ← e1, Nat.mul_right_comm]
      exact Nat.eq_of_mul_eq_mul_right hg this
    have h4 : d ∣ 21000 := by
      have hcd : Nat.Coprime d n := by rw [Nat.gcd_comm] at hc; exact hc
      exact hcd.dvd_of_dvd_mul_left (by rw [h3]; exact Nat.dvd_mul_left _ _)
    have h5 : d ≤ 21000 := Nat.le_of_dvd (by omega) h4
    have h6 : A.natAbs * d ≤ A.natAbs * 21000 := Nat.mul_le_mul_left _ h5
    rw [if_neg (by omega), if_neg (by omega)] at hn
    subst he
    split at hn <;> simp at hn
  · subst he
    refine ⟨r1, r2, hn, hv, ?_⟩
    have : r1 * 21000 * den = A * r2 * den := by grind
    exact Int.eq_of_mul_eq_mul_right (by omega) this

theorem addS_isV {A C a b c d : Int} (h1 : isV A a b) (h2 : isV C c d) (h3 : -1000000000000 ≤ A + C) (h4 : A + C ≤ 1000000000000) : ∃ r1 r2, addS a b c d = (r1, r2, 0) ∧ isV (A + C) r1 r2 := by
  obtain ⟨v1, e1⟩ := h1
  obtain ⟨v2, e2⟩ := h2
  unfold addS
  rw [if_neg (by simp [v1, v2])]
  exact newS_isV (rprod_bd v1 v2).2.2.1 (by grind) h3 h4
theorem subS_isV {A C a b c d : Int} (h1 : isV A a b) (h2 : isV C c d) (h3 : -1000000000000 ≤ A - C) (h4 : A - C ≤ 1000000000000) : ∃ r1 r2, subS a b c d = (r1, r2, 0) ∧ isV (A - C) r1 r2 := by
  obtain ⟨v1, e1⟩ := h1
  obtain ⟨v2, e2⟩ := h2
  unfold subS
  rw [if_neg (by simp [v1, v2])]
  exact newS_isV (rprod_bd v1 v2).2.2.1 (by grind) h3 h4
theorem comp_isV {A C a b c d : Int} (h1 : isV A a b) (h2 : isV C c d) (h : A < C) : compS a b c d = -1 := by
  obtain ⟨v1, e1⟩ := h1
  obtain ⟨v2, e2⟩ := h2
  unfold compS
  rw [if_neg (by simp [v1, v2]), if_pos]
  have h3 : A * (b * d) < C * (b * d) := Int.mul_lt_mul_of_pos_right h (rprod_bd v1 v2).2.2.1
  have h4 : a * d * 21000 = A * (b * d) := by grind
  have h5 : c * b * 21000 = C * (b * d) := by grind
  omega
theorem neg_isV {A a b : Int} (h : isV A a b) : isV (-A) (-a) b := by
  obtain ⟨⟨h1, h2, h3, h4, h5⟩, e⟩ := h
  exact ⟨⟨h1, h2, by omega, by omega, by rw [Int.natAbs_neg]; exact h5⟩, by rw [Int.neg_mul, Int.neg_mul, e]⟩

/-- A rounded sum is a whole number of units, less than a unit away. -/
theorem roundS_isV {S U s1 s2 un ud m : Int} (hs : isV S s1 s2) (hu : isV U un ud) (hun : 0 < un) (hm0 : 0 ≤ m) (hm : m ≤ 6) (hU : 0 < U) (b0 : -100000000000 ≤ S) (b1 : S ≤ 100000000000) (b2 : U ≤ 100000000000) :
    ∃ r1 r2 M, roundS s1 s2 un ud m = (r1, r2, 0) ∧ isV (M * U) r1 r2 ∧ -U < S - M * U ∧ S - M * U < U := by
  obtain ⟨vs, es⟩ := hs
  obtain ⟨vu, eu⟩ := hu
  have hs2 : 0 < s2 := by have := vs.1; omega
  have hud : 0 < ud := by have := vu.1; omega
  obtain ⟨E, hE, c1, c2, _⟩ := err_cases (s1 * ud) (s2 * un) m (Int.mul_pos hs2 hun) hm0 hm
  unfold roundS
  rw [if_neg (by simp [vs, vu]), if_neg (by omega)]
  generalize near (s1 * ud) (s2 * un) m = M at *
  have key : (M * U - S) * (s2 * ud) = 21000 * E := by rw [← hE]; grind
  have key2 : U * (s2 * ud) = 21000 * (s2 * un) := by grind
  have hp : 0 < s2 * ud := Int.mul_pos hs2 hud
  have l1 : M * U - S < U := by
    have : (M * U - S) * (s2 * ud) < U * (s2 * ud) := by rw [key, key2]; omega
    exact Int.lt_of_mul_lt_mul_right this (by omega)
  have l2 : S - M * U < U := by
    have : (S - M * U) * (s2 * ud) < U * (s2 * ud) := by
      rw [show S - M * U = -(M * U - S) by omega, Int.neg_mul, key, key2]; omega
    exact Int.lt_of_mul_lt_mul_right this (by omega)
  obtain ⟨r1, r2, hr, hv⟩ := newS_isV (num := M * un) (den := ud) (A := M * U) hud (by rw [Int.mul_assoc, eu, Int.mul_assoc]) (by omega) (by omega)
  exact ⟨r1, r2, M, hr, hv, by omega, by omega⟩

theorem step_lat (l : List Int) (at_ : Int) (h : okT l at_) : ∃ n d at' U, Ev (fun k => payrollgen_Tape_Step.f k l at_) (n, d, at') ∧ okT l at' ∧ isV U n d ∧ 0 < n ∧ 0 < U ∧ U ≤ 2100000 := by
  unfold payrollgen_Tape_Step.f
  obtain ⟨v4, t4, e4, h, m4⟩ := pick_is l at_ [1, 5, 1, 50, 1, 3, 100, 7] h (by simp) (by simp)
  obtain ⟨v5, t5, e5, h, m5⟩ := pick_is l t4 [100, 1, 20, 100, 2, 1000, 1] h (by simp) (by simp)
  simp only [e4, e5, Option.bind_some]
  simp only [List.mem_cons, List.not_mem_nil, or_false] at m4 m5
  have hE := refnew_is v4 v5 (by omega) (by omega) (by omega) (by omega)
  obtain ⟨A, hA, hA0, hA1⟩ : ∃ A, v4 * 21000 = A * v5 ∧ 0 < A ∧ A ≤ 2100000 := by
    rcases m5 with h | h | h | h | h | h | h
    · exact ⟨v4 * 210, by rw [h]; omega, by omega, by omega⟩
    · exact ⟨v4 * 21000, by rw [h]; omega, by omega, by omega⟩
    · exact ⟨v4 * 1050, by rw [h]; omega, by omega, by omega⟩
    · exact ⟨v4 * 210, by rw [h]; omega, by omega, by omega⟩
    · exact ⟨v4 * 10500, by rw [h]; omega, by omega, by omega⟩
    · exact ⟨v4 * 21, by rw [h]; omega, by omega, by omega⟩
    · exact ⟨v4 * 21000, by rw [h]; omega, by omega, by omega⟩
  obtain ⟨r1, r2, hr, hv⟩ := newS_isV (show 0 < v5 by omega) hA (by omega) (by omega)
  rw [hr] at hE
  refine ⟨r1, r2, t5, A, Ev.bind hE (Ev.now _), h, hv, ?_, hA0, hA1⟩
  have h1 : 0 < A * r2 := Int.mul_pos hA0 (by have := hv.1.1; omega)
  rw [← hv.2] at h1
  omega

/-- A drawn amount. -/
theorem amount_lat (l : List Int) (at_ : Int) (h : okT l at_) : ∃ v1 t1 v2 t2 r1 r2 A, payrollgen_Tape_Next.f l at_ 2001 = some (v1, t1) ∧ payrollgen_Tape_Pick.f l t1 [3, 7, 100, 1] = some (v2, t2) ∧
    Ev (fun k => payrollref1_New.f k (wrap64 (v1 - 1000)) v2) (r1, r2, 0) ∧ okT l t2 ∧ isV A r1 r2 ∧ -21000000 ≤ A ∧ A ≤ 21000000 := by
  obtain ⟨v1, t1, e1, h, c1, c2⟩ := next_is l at_ 2001 h (by omega)
  obtain ⟨v2, t2, e2, h, m2⟩ := pick_is l t1 [3, 7, 100, 1] h (by simp) (by simp)
  simp only [List.mem_cons, List.not_mem_nil, or_false] at m2
  have hw : wrap64 (v1 - 1000) = v1 - 1000 := w64 (by omega) (by omega)
  have hE := refnew_is (v1 - 1000) v2 (by omega) (by omega) (by omega) (by omega)
  obtain ⟨A, hA, hA0, hA1⟩ : ∃ A, (v1 - 1000) * 21000 = A * v2 ∧ -21000000 ≤ A ∧ A ≤ 21000000 := by
    rcases m2 with h | h | h | h
    · exact ⟨(v1 - 1000) * 7000, by rw [h]; omega, by omega, by omega⟩
    · exact ⟨(v1 - 1000) * 3000, by rw [h]; omega, by omega, by omega⟩
    · exact ⟨(v1 - 1000) * 210, by rw [h]; omega, by omega, by omega⟩
    · exact ⟨(v1 - 1000) * 21000, by rw [h]; omega, by omega, by omega⟩
  obtain ⟨r1, r2, hr, hv⟩ := newS_isV (show 0 < v2 by omega) hA (by omega) (by omega)
  rw [hr] at hE
  exact ⟨v1, t1, v2, t2, r1, r2, A, e1, e2, by rw [hw]; exact hE, h, hv, hA0, hA1⟩
end Go.Proofs.Ytcipegkeoheikaa.Pure
