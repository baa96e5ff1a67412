-- Written by a program of this session: the machine side of the proofs, out of Lean's own print of the program. Lean checks it.
import Derived.Test.YtcipegkeoheikaaPx0
import Derived.Test.YtcipegkeoheikaaPx2
import Derived.Test.YtcipegkeoheikaaPx4
import Derived.Test.YtcipegkeoheikaaPx5
namespace Go.Proofs.Ytcipegkeoheikaa.P
open Go.RowKit Go.Proofs.YtcipegkeoheikaaW.PrintWords Go.Proofs.YtcipegkeoheikaaW.PrintLast Go.Proofs.YtcipegkeoheikaaW.PrintMore
attribute [local go_sem] max2_int min2_int max_two min_two max_three min_three max_four min_four   -- for this text's walks alone
set_option linter.unusedVariables false
set_option linter.unusedSimpArgs false

/-! ### payrollref2_nearest: function 40 -/
mutual
def payrollref2_nearest.j0 : Nat → Int → Int → Int → Int → Option (Int)
  | 0, _, _, _, _ => none
  | k + 1, x0, x1, x2, x7 => if (wrap64 (x0 - (wrap64 (x7 * x1)))) = 0 then (some x7) else (if x0 < 0 then (payrollref2_nearest.j1 k x1 x2 x7 (wrap64 (x0 - (wrap64 (x7 * x1)))) (wrap64 (x7 + 1)) x7) else (payrollref2_nearest.j1 k x1 x2 x7 (wrap64 (x0 - (wrap64 (x7 * x1)))) x7 (wrap64 (x7 + 1))))
def payrollref2_nearest.j1 : Nat → Int → Int → Int → Int → Int → Int → Option (Int)
  | 0, _, _, _, _, _, _ => none
  | k + 1, x1, x2, x7, x8, x9, x10 => if x8 > (wrap64 (x1 - x8)) then (payrollref2_nearest.j2 k x1 x2 x7 x8 x9 x10 (wrap64 (x7 + 1))) else (payrollref2_nearest.j2 k x1 x2 x7 x8 x9 x10 x7)
def payrollref2_nearest.j2 : Nat → Int → Int → Int → Int → Int → Int → Int → Option (Int)
  | 0, _, _, _, _, _, _, _ => none
  | k + 1, x1, x2, x7, x8, x9, x10, x11 => if x2 = 0 then (some x9) else (if x2 = 1 then (some x10) else (if x2 = 2 then (some x7) else (if x2 = 3 then (some (wrap64 (x7 + 1))) else (if (x8 = (wrap64 (x1 - x8))) then (if x2 = 4 then (some x10) else (if x2 = 5 then (some x9) else (if (Int.tmod x7 2) = 0 then (some x7) else (some (wrap64 (x7 + 1)))))) else (some x11)))))
end
def payrollref2_nearest.f (k : Nat) (a0 : Int) (a1 : Int) (a2 : Int) : Option (Int) := if a1 = 0 then (none) else (if (wrap64 ((wrap64 (Int.tdiv a0 a1)) * a1)) > a0 then (payrollref2_nearest.j0 k a0 a1 a2 (wrap64 ((wrap64 (Int.tdiv a0 a1)) - 1))) else (payrollref2_nearest.j0 k a0 a1 a2 (wrap64 (Int.tdiv a0 a1))))
theorem payrollref2_nearest.mono_l : ∀ k, (∀ y0 y1 y2 y3, LeO (payrollref2_nearest.j0 k y0 y1 y2 y3) (payrollref2_nearest.j0 (k + 1) y0 y1 y2 y3)) ∧ (∀ y0 y1 y2 y3 y4 y5, LeO (payrollref2_nearest.j1 k y0 y1 y2 y3 y4 y5) (payrollref2_nearest.j1 (k + 1) y0 y1 y2 y3 y4 y5)) ∧ (∀ y0 y1 y2 y3 y4 y5 y6, LeO (payrollref2_nearest.j2 k y0 y1 y2 y3 y4 y5 y6) (payrollref2_nearest.j2 (k + 1) y0 y1 y2 y3 y4 y5 y6))
  | 0 => ⟨fun _ _ _ _ r h => by simp [payrollref2_nearest.j0] at h, fun _ _ _ _ _ _ r h => by simp [payrollref2_nearest.j1] at h, fun _ _ _ _ _ _ _ r h => by simp [payrollref2_nearest.j2] at h⟩
  | k + 1 => by
    obtain ⟨ih0, ih1, ih2⟩ := payrollref2_nearest.mono_l k
    refine ⟨?_, ?_, ?_⟩
    · intro y0 y1 y2 y3
      unfold payrollref2_nearest.j0
      repeat' first
      | (with_reducible exact ih0 _ _ _ _)
      | (with_reducible exact ih1 _ _ _ _ _ _)
      | (with_reducible exact ih2 _ _ _ _ _ _ _)
      | (with_reducible exact LeO.refl _)
      | (with_reducible exact LeO.none _)
      | (with_reducible refine LeO.ite ?_ ?_)
      | (with_reducible refine LeO.bind ?_ (fun _ => ?_))
      | exact ih0 _ _ _ _
      | exact ih1 _ _ _ _ _ _
      | exact ih2 _ _ _ _ _ _ _
      | exact LeO.none _
      | refine LeO.ite ?_ ?_
      | refine LeO.bind ?_ (fun _ => ?_)
    · intro y0 y1 y2 y3 y4 y5
      unfold payrollref2_nearest.j1
      repeat' first
      | (with_reducible exact ih0 _ _ _ _)
      | (with_reducible exact ih1 _ _ _ _ _ _)
      | (with_reducible exact ih2 _ _ _ _ _ _ _)
      | (with_reducible exact LeO.refl _)
      | (with_reducible exact LeO.none _)
      | (with_reducible refine LeO.ite ?_ ?_)
      | (with_reducible refine LeO.bind ?_ (fun _ => ?_))
      | exact ih0 _ _ _ _
      | exact ih1 _ _ _ _ _ _
      | exact ih2 _ _ _ _ _ _ _
      | exact LeO.none _
      | refine LeO.ite ?_ ?_
      | refine LeO.bind ?_ (fun _ => ?_)
    · intro y0 y1 y2 y3 y4 y5 y6
      unfold payrollref2_nearest.j2
      repeat' first
      | (with_reducible exact ih0 _ _ _ _)
      | (with_reducible exact ih1 _ _ _ _ _ _)
      | (with_reducible exact ih2 _ _ _ _ _ _ _)
      | (with_reducible exact LeO.refl _)
      | (with_reducible exact LeO.none _)
      | (with_reducible refine LeO.ite ?_ ?_)
      | (with_reducible refine LeO.bind ?_ (fun _ => ?_))
      | exact ih0 _ _ _ _
      | exact ih1 _ _ _ _ _ _
      | exact ih2 _ _ _ _ _ _ _
      | exact LeO.none _
      | refine LeO.ite ?_ ?_
      | refine LeO.bind ?_ (fun _ => ?_)
theorem payrollref2_nearest.mono : ∀ a0 a1 a2 k, LeO (payrollref2_nearest.f k a0 a1 a2) (payrollref2_nearest.f (k + 1) a0 a1 a2) := by
  intro a0 a1 a2 k
  obtain ⟨ih0, ih1, ih2⟩ := payrollref2_nearest.mono_l k
  unfold payrollref2_nearest.f
  repeat' first
      | (with_reducible exact ih0 _ _ _ _)
      | (with_reducible exact ih1 _ _ _ _ _ _)
      | (with_reducible exact ih2 _ _ _ _ _ _ _)
      | (with_reducible exact LeO.refl _)
      | (with_reducible exact LeO.none _)
      | (with_reducible refine LeO.ite ?_ ?_)
      | (with_reducible refine LeO.bind ?_ (fun _ => ?_))
      | exact ih0 _ _ _ _
      | exact ih1 _ _ _ _ _ _
      | exact ih2 _ _ _ _ _ _ _
      | exact LeO.none _
      | refine LeO.ite ?_ ?_
      | refine LeO.bind ?_ (fun _ => ?_)
set_option maxHeartbeats 8000000 in
set_option maxRecDepth 100000 in
theorem payrollref2_nearest.calls (k : Nat) (a0 : Int) (a1 : Int) (a2 : Int) (r : Int) (w : World) (h : payrollref2_nearest.f k a0 a1 a2 = some r) :
    Calls Try.prog 40 #[.int .i64 a0, .int .i64 a1, .int .i64 a2] w fun e w' => e = .returned (.int .i64 r) ∧ Drawn0 w w' := by
  have H : (if a1 = 0 then (none) else (if (wrap64 ((wrap64 (Int.tdiv a0 a1)) * a1)) > a0 then (payrollref2_nearest.j0 k a0 a1 a2 (wrap64 ((wrap64 (Int.tdiv a0 a1)) - 1))) else (payrollref2_nearest.j0 k a0 a1 a2 (wrap64 (Int.tdiv a0 a1))))) = some r := h
  clear h
  by_cases c4 : a1 = 0
  · rw [if_pos c4] at H
    exact absurd H (by simp)
  · rw [if_neg c4] at H
    have c4b0 : (a1 == 0) = false := beq_eq_false_iff_ne.mpr c4
    have c4b1 : (a1 != 0) = true := bne_iff_ne.mpr c4
    have HC5 := Aside0.mk H
    clear H
    go_enter Try.func40, Try.ntmps40
    go_upto_if 20 with (fail)
    go_cut [7] (fun v7 wc => ∃ (kq : Nat) (x7_4 : Int), v7 = .int .i64 x7_4 ∧ Aside0 (payrollref2_nearest.j0 kq a0 a1 a2 x7_4 = some r) ∧ Aside0 (kq ≤ k) ∧ Drawn0 w wc)
    case first =>
      have H := HC5.out
      clear HC5
      by_cases c6 : (wrap64 ((wrap64 (Int.tdiv a0 a1)) * a1)) > a0
      · rw [if_pos c6] at H
        have c6b0 : decide (a0 < (wrap64 ((wrap64 (Int.tdiv a0 a1)) * a1))) = true := decide_eq_true c6
        clear c6
        (first | rw [c6b0] | (simp only [i64_w, i32_w]; rw [c6b0]) | skip)
        have H' := Aside0.mk H
        clear H
        go_wp2
        go_meet
        case rel => exact ⟨_, (wrap64 ((wrap64 (Int.tdiv a0 a1)) - 1)), (by first | rfl | (simp; done) | (simp [*]; done)), H', ⟨by first | omega | exact Nat.le_refl _⟩, by repeat (first | exact Drawn0.refl _ | apply Drawn0.step)⟩
      · rw [if_neg c6] at H
        have c6b0 : decide (a0 < (wrap64 ((wrap64 (Int.tdiv a0 a1)) * a1))) = false := decide_eq_false c6
        clear c6
        (first | rw [c6b0] | (simp only [i64_w, i32_w]; rw [c6b0]) | skip)
        have H' := Aside0.mk H
        clear H
        go_wp2
        go_meet
        case rel => exact ⟨_, (wrap64 (Int.tdiv a0 a1)), (by first | rfl | (simp; done) | (simp [*]; done)), H', ⟨by first | omega | exact Nat.le_refl _⟩, by repeat (first | exact Drawn0.refl _ | apply Drawn0.step)⟩
    case rest =>
      clear HC5
      try clear p2
      try clear c4
      try clear c4b0
      try clear c4b1
      try clear c6
      try clear c6b0
      try clear p6
      obtain ⟨kq, x7_4, rfl, HA, HJ4, ⟨mc4, rfl⟩⟩ := hcut
      cases kq with
      | zero => exact absurd HA.out (by simp [payrollref2_nearest.j0])
      | succ kj4 =>
        have H := HA.out
        clear HA
        simp only [payrollref2_nearest.j0] at H
        by_cases c7 : (wrap64 (a0 - (wrap64 (x7_4 * a1)))) = 0
        · rw [if_pos c7] at H
          have c7b0 : ((wrap64 (a0 - (wrap64 (x7_4 * a1)))) == 0) = true := beq_iff_eq.mpr c7
          have c7b1 : ((wrap64 (a0 - (wrap64 (x7_4 * a1)))) != 0) = false := bne_eq_false_iff_eq.mpr c7
          clear c7
          obtain rfl := Option.some.inj H
          go_wp2
          go_ret
          exact ⟨by first | rfl | (simp; done) | (simp [*]; done), by repeat (first | exact Drawn0.refl _ | apply Drawn0.step)⟩
        · rw [if_neg c7] at H
          have c7b0 : ((wrap64 (a0 - (wrap64 (x7_4 * a1)))) == 0) = false := beq_eq_false_iff_ne.mpr c7
          have c7b1 : ((wrap64 (a0 - (wrap64 (x7_4 * a1)))) != 0) = true := bne_iff_ne.mpr c7
          have HC8 := Aside0.mk H
          clear H
          go_upto_if 35 with (fail)
          go_cut [9, 10] (fun v9 v10 wc => ∃ (kq : Nat) (x9_7 : Int) (x10_7 : Int), v9 = .int .i64 x9_7 ∧ v10 = .int .i64 x10_7 ∧ Aside0 (payrollref2_nearest.j1 kq a1 a2 x7_4 (wrap64 (a0 - (wrap64 (x7_4 * a1)))) x9_7 x10_7 = some r) ∧ Aside0 (kq ≤ kj4) ∧ Drawn0 w wc)
          case first =>
            have H := HC8.out
            clear HC8
            by_cases c9 : a0 < 0
            · rw [if_pos c9] at H
              have c9b0 : decide (a0 < 0) = true := decide_eq_true c9
              clear c9
              (first | rw [c9b0] | (simp only [i64_w, i32_w]; rw [c9b0]) | skip)
              have H' := Aside0.mk H
              clear H
              go_wp2
              go_meet
              case rel => exact ⟨_, (wrap64 (x7_4 + 1)), (x7_4), (by first | rfl | (simp; done) | (simp [*]; done)), (by first | rfl | (simp; done) | (simp [*]; done)), H', ⟨by have := HJ4.out; first | omega | exact Nat.le_refl _⟩, by repeat (first | exact Drawn0.refl _ | apply Drawn0.step)⟩
            · rw [if_neg c9] at H
              have c9b0 : decide (a0 < 0) = false := decide_eq_false c9
              clear c9
              (first | rw [c9b0] | (simp only [i64_w, i32_w]; rw [c9b0]) | skip)
              have H' := Aside0.mk H
              clear H
              go_wp2
              go_meet
              case rel => exact ⟨_, (x7_4), (wrap64 (x7_4 + 1)), (by first | rfl | (simp; done) | (simp [*]; done)), (by first | rfl | (simp; done) | (simp [*]; done)), H', ⟨by have := HJ4.out; first | omega | exact Nat.le_refl _⟩, by repeat (first | exact Drawn0.refl _ | apply Drawn0.step)⟩
          case rest =>
            clear HC8
            try clear p2
            try clear c4
            try clear c4b0
            try clear c4b1
            try clear c6
            try clear c6b0
            try clear p6
            try clear c7
            try clear c7b0
            try clear c7b1
            try clear c9
            try clear c9b0
            try clear p2
            try clear p6
            obtain ⟨kq, x9_7, x10_7, rfl, rfl, HA, HJ7, ⟨mc7, rfl⟩⟩ := hcut
            cases kq with
            | zero => exact absurd HA.out (by simp [payrollref2_nearest.j1])
            | succ kj7 =>
              have H := HA.out
              clear HA
              simp only [payrollref2_nearest.j1] at H
              have HC10 := Aside0.mk H
              clear H
              go_upto_if 44 with (fail)
              go_cut [11] (fun v11 wc => ∃ (kq : Nat) (x11_9 : Int), v11 = .int .i64 x11_9 ∧ Aside0 (payrollref2_nearest.j2 kq a1 a2 x7_4 (wrap64 (a0 - (wrap64 (x7_4 * a1)))) x9_7 x10_7 x11_9 = some r) ∧ Aside0 (kq ≤ kj7) ∧ Drawn0 w wc)
              case first =>
                have H := HC10.out
                clear HC10
                by_cases c11 : (wrap64 (a0 - (wrap64 (x7_4 * a1)))) > (wrap64 (a1 - (wrap64 (a0 - (wrap64 (x7_4 * a1))))))
                · rw [if_pos c11] at H
                  have c11b0 : decide ((wrap64 (a1 - (wrap64 (a0 - (wrap64 (x7_4 * a1)))))) < (wrap64 (a0 - (wrap64 (x7_4 * a1))))) = true := decide_eq_true c11
                  clear c11
                  (first | rw [c11b0] | (simp only [i64_w, i32_w]; rw [c11b0]) | skip)
                  have H' := Aside0.mk H
                  clear H
                  go_wp2
                  go_meet
                  case rel => exact ⟨_, (wrap64 (x7_4 + 1)), (by first | rfl | (simp; done) | (simp [*]; done)), H', ⟨by have := HJ4.out; have := HJ7.out; first | omega | exact Nat.le_refl _⟩, by repeat (first | exact Drawn0.refl _ | apply Drawn0.step)⟩
                · rw [if_neg c11] at H
                  have c11b0 : decide ((wrap64 (a1 - (wrap64 (a0 - (wrap64 (x7_4 * a1)))))) < (wrap64 (a0 - (wrap64 (x7_4 * a1))))) = false := decide_eq_false c11
                  clear c11
                  (first | rw [c11b0] | (simp only [i64_w, i32_w]; rw [c11b0]) | skip)
                  have H' := Aside0.mk H
                  clear H
                  go_wp2
                  go_meet
                  case rel => exact ⟨_, (x7_4), (by first | rfl | (simp; done) | (simp [*]; done)), H', ⟨by have := HJ4.out; have := HJ7.out; first | omega | exact Nat.le_refl _⟩, by repeat (first | exact Drawn0.refl _ | apply Drawn0.step)⟩
              case rest =>
                clear HC10
                try clear c1
                try clear p2
                try clear c4
                try clear c4b0
                try clear c4b1
                try clear c6
                try clear c6b0
                try clear p6
                try clear c7
                try clear c7b0
                try clear c7b1
                try clear c9
                try clear c9b0
                try clear c11
                try clear c11b0
                try clear p2
                try clear p6
                obtain ⟨kq, x11_9, rfl, HA, HJ9, ⟨mc9, rfl⟩⟩ := hcut
                cases kq with
                | zero => exact absurd HA.out (by simp [payrollref2_nearest.j2])
                | succ kj9 =>
                  have H := HA.out
                  clear HA
                  simp only [payrollref2_nearest.j2] at H
                  by_cases c12 : a2 = 0
                  · rw [if_pos c12] at H
                    have c12b0 : (a2 == 0) = true := beq_iff_eq.mpr c12
                    have c12b1 : (a2 != 0) = false := bne_eq_false_iff_eq.mpr c12
                    clear c12
                    obtain rfl := Option.some.inj H
                    go_wp2
                    go_ret
                    exact ⟨by first | rfl | (simp; done) | (simp [*]; done), by repeat (first | exact Drawn0.refl _ | apply Drawn0.step)⟩
                  · rw [if_neg c12] at H
                    have c12b0 : (a2 == 0) = false := beq_eq_false_iff_ne.mpr c12
                    have c12b1 : (a2 != 0) = true := bne_iff_ne.mpr c12
                    by_cases c13 : a2 = 1
                    · rw [if_pos c13] at H
                      have c13b0 : (a2 == 1) = true := beq_iff_eq.mpr c13
                      have c13b1 : (a2 != 1) = false := bne_eq_false_iff_eq.mpr c13
                      clear c13
                      obtain rfl := Option.some.inj H
                      go_wp2
                      go_ret
                      exact ⟨by first | rfl | (simp; done) | (simp [*]; done), by repeat (first | exact Drawn0.refl _ | apply Drawn0.step)⟩
                    · rw [if_neg c13] at H
                      have c13b0 : (a2 == 1) = false := beq_eq_false_iff_ne.mpr c13
                      have c13b1 : (a2 != 1) = true := bne_iff_ne.mpr c13
                      by_cases c14 : a2 = 2
                      · rw [if_pos c14] at H
                        have c14b0 : (a2 == 2) = true := beq_iff_eq.mpr c14
                        have c14b1 : (a2 != 2) = false := bne_eq_false_iff_eq.mpr c14
                        clear c14
                        obtain rfl := Option.some.inj H
                        go_wp2
                        go_ret
                        exact ⟨by first | rfl | (simp; done) | (simp [*]; done), by repeat (first | exact Drawn0.refl _ | apply Drawn0.step)⟩
                      · rw [if_neg c14] at H
                        have c14b0 : (a2 == 2) = false := beq_eq_false_iff_ne.mpr c14
                        have c14b1 : (a2 != 2) = true := bne_iff_ne.mpr c14
                        by_cases c15 : a2 = 3
                        · rw [if_pos c15] at H
                          have c15b0 : (a2 == 3) = true := beq_iff_eq.mpr c15
                          have c15b1 : (a2 != 3) = false := bne_eq_false_iff_eq.mpr c15
                          clear c15
                          obtain rfl := Option.some.inj H
                          go_wp2
                          go_ret
                          exact ⟨by first | rfl | (simp; done) | (simp [*]; done), by repeat (first | exact Drawn0.refl _ | apply Drawn0.step)⟩
                        · rw [if_neg c15] at H
                          have c15b0 : (a2 == 3) = false := beq_eq_false_iff_ne.mpr c15
                          have c15b1 : (a2 != 3) = true := bne_iff_ne.mpr c15
                          by_cases c16 : ((wrap64 (a0 - (wrap64 (x7_4 * a1)))) = (wrap64 (a1 - (wrap64 (a0 - (wrap64 (x7_4 * a1)))))))
                          · rw [if_pos c16] at H
                            have c16b0 : ((wrap64 (a0 - (wrap64 (x7_4 * a1)))) == (wrap64 (a1 - (wrap64 (a0 - (wrap64 (x7_4 * a1))))))) = true := beq_iff_eq.mpr c16
                            have c16b1 : ((wrap64 (a0 - (wrap64 (x7_4 * a1)))) != (wrap64 (a1 - (wrap64 (a0 - (wrap64 (x7_4 * a1))))))) = false := bne_eq_false_iff_eq.mpr c16
                            clear c16
                            by_cases c17 : a2 = 4
                            · rw [if_pos c17] at H
                              have c17b0 : (a2 == 4) = true := beq_iff_eq.mpr c17
                              have c17b1 : (a2 != 4) = false := bne_eq_false_iff_eq.mpr c17
                              clear c17
                              obtain rfl := Option.some.inj H
                              go_wp2
                              go_ret
                              exact ⟨by first | rfl | (simp; done) | (simp [*]; done), by repeat (first | exact Drawn0.refl _ | apply Drawn0.step)⟩
                            · rw [if_neg c17] at H
                              have c17b0 : (a2 == 4) = false := beq_eq_false_iff_ne.mpr c17
                              have c17b1 : (a2 != 4) = true := bne_iff_ne.mpr c17
                              by_cases c18 : a2 = 5
                              · rw [if_pos c18] at H
                                have c18b0 : (a2 == 5) = true := beq_iff_eq.mpr c18
                                have c18b1 : (a2 != 5) = false := bne_eq_false_iff_eq.mpr c18
                                clear c18
                                obtain rfl := Option.some.inj H
                                go_wp2
                                go_ret
                                exact ⟨by first | rfl | (simp; done) | (simp [*]; done), by repeat (first | exact Drawn0.refl _ | apply Drawn0.step)⟩
                              · rw [if_neg c18] at H
                                have c18b0 : (a2 == 5) = false := beq_eq_false_iff_ne.mpr c18
                                have c18b1 : (a2 != 5) = true := bne_iff_ne.mpr c18
                                by_cases c19 : (Int.tmod x7_4 2) = 0
                                · rw [if_pos c19] at H
                                  have c19b0 : ((Int.tmod x7_4 2) == 0) = true := beq_iff_eq.mpr c19
                                  have c19b1 : ((Int.tmod x7_4 2) != 0) = false := bne_eq_false_iff_eq.mpr c19
                                  clear c19
                                  obtain rfl := Option.some.inj H
                                  go_wp2
                                  go_ret
                                  exact ⟨by first | rfl | (simp; done) | (simp [*]; done), by repeat (first | exact Drawn0.refl _ | apply Drawn0.step)⟩
                                · rw [if_neg c19] at H
                                  have c19b0 : ((Int.tmod x7_4 2) == 0) = false := beq_eq_false_iff_ne.mpr c19
                                  have c19b1 : ((Int.tmod x7_4 2) != 0) = true := bne_iff_ne.mpr c19
                                  obtain rfl := Option.some.inj H
                                  go_wp2
                                  go_ret
                                  exact ⟨by first | rfl | (simp; done) | (simp [*]; done), by repeat (first | exact Drawn0.refl _ | apply Drawn0.step)⟩
                          · rw [if_neg c16] at H
                            have c16b0 : ((wrap64 (a0 - (wrap64 (x7_4 * a1)))) == (wrap64 (a1 - (wrap64 (a0 - (wrap64 (x7_4 * a1))))))) = false := beq_eq_false_iff_ne.mpr c16
                            have c16b1 : ((wrap64 (a0 - (wrap64 (x7_4 * a1)))) != (wrap64 (a1 - (wrap64 (a0 - (wrap64 (x7_4 * a1))))))) = true := bne_iff_ne.mpr c16
                            obtain rfl := Option.some.inj H
                            go_wp2
                            go_ret
                            exact ⟨by first | rfl | (simp; done) | (simp [*]; done), by repeat (first | exact Drawn0.refl _ | apply Drawn0.step)⟩

/-! ### payrollref2_Part: function 19 -/
def payrollref2_Part.j0 : Nat → Int → Int → Int → Int → Int → Bool → Option (Int × Int)
  | 0, _, _, _, _, _, _ => none
  | k + 1, x0, x1, x2, x3, x4, x47 => if x47 = true then (some (0, 2)) else ((payrollref2_nearest.f k (wrap64 (x0 * x1)) (wrap64 (x2 * x3)) x4).bind fun t172 => (if (wrap64 (t172 * x3)) < (-1000000000000) then (some (0, 4)) else (if (wrap64 (t172 * x3)) > 1000000000000 then (some (0, 4)) else (some (wrap64 (t172 * x3), 0)))))
def payrollref2_Part.f (k : Nat) (a0 : Int) (a1 : Int) (a2 : Int) (a3 : Int) (a4 : Int) : Option (Int × Int) := if a0 < (-1000000000000) then (payrollref2_Part.j0 k a0 a1 a2 a3 a4 true) else (if a0 > 1000000000000 then (payrollref2_Part.j0 k a0 a1 a2 a3 a4 true) else (if a1 < 0 then (payrollref2_Part.j0 k a0 a1 a2 a3 a4 true) else (if a1 > 1000000 then (payrollref2_Part.j0 k a0 a1 a2 a3 a4 true) else (if a2 < 1 then (payrollref2_Part.j0 k a0 a1 a2 a3 a4 true) else (if a2 > 1000000 then (payrollref2_Part.j0 k a0 a1 a2 a3 a4 true) else (if a3 < 1 then (payrollref2_Part.j0 k a0 a1 a2 a3 a4 true) else (if a3 > 1000000 then (payrollref2_Part.j0 k a0 a1 a2 a3 a4 true) else ((payrollref2_Mode.f a4).bind fun t171 => (payrollref2_Part.j0 k a0 a1 a2 a3 a4 (!t171))))))))))
theorem payrollref2_Part.mono_l : ∀ k, (∀ y0 y1 y2 y3 y4 y5, LeO (payrollref2_Part.j0 k y0 y1 y2 y3 y4 y5) (payrollref2_Part.j0 (k + 1) y0 y1 y2 y3 y4 y5))
  | 0 => fun _ _ _ _ _ _ r h => by simp [payrollref2_Part.j0] at h
  | k + 1 => by
    have ih0 := payrollref2_Part.mono_l k
    · intro y0 y1 y2 y3 y4 y5
      unfold payrollref2_Part.j0
      repeat' first
      | (with_reducible exact ih0 _ _ _ _ _ _)
      | (with_reducible exact payrollref2_nearest.mono _ _ _ _)
      | (with_reducible exact LeO.refl _)
      | (with_reducible exact LeO.none _)
      | (with_reducible refine LeO.ite ?_ ?_)
      | (with_reducible refine LeO.bind ?_ (fun _ => ?_))
      | exact ih0 _ _ _ _ _ _
      | exact payrollref2_nearest.mono _ _ _ _
      | exact LeO.none _
      | refine LeO.ite ?_ ?_
      | refine LeO.bind ?_ (fun _ => ?_)
theorem payrollref2_Part.mono : ∀ a0 a1 a2 a3 a4 k, LeO (payrollref2_Part.f k a0 a1 a2 a3 a4) (payrollref2_Part.f (k + 1) a0 a1 a2 a3 a4) := by
  intro a0 a1 a2 a3 a4 k
  have ih0 := payrollref2_Part.mono_l k
  unfold payrollref2_Part.f
  repeat' first
      | (with_reducible exact ih0 _ _ _ _ _ _)
      | (with_reducible exact payrollref2_nearest.mono _ _ _ _)
      | (with_reducible exact LeO.refl _)
      | (with_reducible exact LeO.none _)
      | (with_reducible refine LeO.ite ?_ ?_)
      | (with_reducible refine LeO.bind ?_ (fun _ => ?_))
      | exact ih0 _ _ _ _ _ _
      | exact payrollref2_nearest.mono _ _ _ _
      | exact LeO.none _
      | refine LeO.ite ?_ ?_
      | refine LeO.bind ?_ (fun _ => ?_)
set_option maxHeartbeats 8000000 in
set_option maxRecDepth 100000 in
theorem payrollref2_Part.calls (k : Nat) (a0 : Int) (a1 : Int) (a2 : Int) (a3 : Int) (a4 : Int) (r1 : Int) (r2 : Int) (w : World) (h : payrollref2_Part.f k a0 a1 a2 a3 a4 = some (r1, r2)) :
    Calls Try.prog 19 #[.int .i64 a0, .int .i64 a1, .int .i64 a2, .int .i64 a3, .int .i64 a4] w fun e w' => e = .returned (.tuple #[.int .i64 r1, .int .i64 r2]) ∧ Drawn0 w w' := by
  have H : (if a0 < (-1000000000000) then (payrollref2_Part.j0 k a0 a1 a2 a3 a4 true) else (if a0 > 1000000000000 then (payrollref2_Part.j0 k a0 a1 a2 a3 a4 true) else (if a1 < 0 then (payrollref2_Part.j0 k a0 a1 a2 a3 a4 true) else (if a1 > 1000000 then (payrollref2_Part.j0 k a0 a1 a2 a3 a4 true) else (if a2 < 1 then (payrollref2_Part.j0 k a0 a1 a2 a3 a4 true) else (if a2 > 1000000 then (payrollref2_Part.j0 k a0 a1 a2 a3 a4 true) else (if a3 < 1 then (payrollref2_Part.j0 k a0 a1 a2 a3 a4 true) else (if a3 > 1000000 then (payrollref2_Part.j0 k a0 a1 a2 a3 a4 true) else ((payrollref2_Mode.f a4).bind fun t171 => (payrollref2_Part.j0 k a0 a1 a2 a3 a4 (!t171))))))))))) = some (r1, r2) := h
  clear h
  have HC6 := Aside0.mk H
  clear H
  go_enter Try.func19, Try.ntmps19
  go_upto_region 1 with (fail)
  go_cut [47] (fun v47 wc => ∃ (kq : Nat) (x47_5 : Bool), v47 = .bool x47_5 ∧ Aside0 (payrollref2_Part.j0 kq a0 a1 a2 a3 a4 x47_5 = some (r1, r2)) ∧ Aside0 (kq ≤ k) ∧ Drawn0 w wc)
  case first =>
    have H := HC6.out
    clear HC6
    by_cases c7 : a0 < (-1000000000000)
    · rw [if_pos c7] at H
      have c7b0 : decide (a0 < (-1000000000000)) = true := decide_eq_true c7
      clear c7
      (first | rw [c7b0] | (simp only [i64_w, i32_w]; rw [c7b0]) | skip)
      have H' := Aside0.mk H
      clear H
      go_wp2
      go_meet
      case rel => exact ⟨_, (true), (by first | rfl | (simp; done) | (simp [*]; done)), H', ⟨by first | omega | exact Nat.le_refl _⟩, by repeat (first | exact Drawn0.refl _ | apply Drawn0.step)⟩
    · rw [if_neg c7] at H
      have c7b0 : decide (a0 < (-1000000000000)) = false := decide_eq_false c7
      clear c7
      (first | rw [c7b0] | (simp only [i64_w, i32_w]; rw [c7b0]) | skip)
      by_cases c8 : a0 > 1000000000000
      · rw [if_pos c8] at H
        have c8b0 : decide (1000000000000 < a0) = true := decide_eq_true c8
        clear c8
        have H' := Aside0.mk H
        clear H
        go_wp2
        go_meet
        case rel => exact ⟨_, (true), (by first | rfl | (simp; done) | (simp [*]; done)), H', ⟨by first | omega | exact Nat.le_refl _⟩, by repeat (first | exact Drawn0.refl _ | apply Drawn0.step)⟩
      · rw [if_neg c8] at H
        have c8b0 : decide (1000000000000 < a0) = false := decide_eq_false c8
        clear c8
        by_cases c9 : a1 < 0
        · rw [if_pos c9] at H
          have c9b0 : decide (a1 < 0) = true := decide_eq_true c9
          clear c9
          have H' := Aside0.mk H
          clear H
          go_wp2
          go_meet
          case rel => exact ⟨_, (true), (by first | rfl | (simp; done) | (simp [*]; done)), H', ⟨by first | omega | exact Nat.le_refl _⟩, by repeat (first | exact Drawn0.refl _ | apply Drawn0.step)⟩
        · rw [if_neg c9] at H
          have c9b0 : decide (a1 < 0) = false := decide_eq_false c9
          clear c9
          by_cases c10 : a1 > 1000000
          · rw [if_pos c10] at H
            have c10b0 : decide (1000000 < a1) = true := decide_eq_true c10
            clear c10
            have H' := Aside0.mk H
            clear H
            go_wp2
            go_meet
            case rel => exact ⟨_, (true), (by first | rfl | (simp; done) | (simp [*]; done)), H', ⟨by first | omega | exact Nat.le_refl _⟩, by repeat (first | exact Drawn0.refl _ | apply Drawn0.step)⟩
          · rw [if_neg c10] at H
            have c10b0 : decide (1000000 < a1) = false := decide_eq_false c10
            clear c10
            by_cases c11 : a2 < 1
            · rw [if_pos c11] at H
              have c11b0 : decide (a2 < 1) = true := decide_eq_true c11
              clear c11
              have H' := Aside0.mk H
              clear H
              go_wp2
              go_meet
              case rel => exact ⟨_, (true), (by first | rfl | (simp; done) | (simp [*]; done)), H', ⟨by first | omega | exact Nat.le_refl _⟩, by repeat (first | exact Drawn0.refl _ | apply Drawn0.step)⟩
            · rw [if_neg c11] at H
              have c11b0 : decide (a2 < 1) = false := decide_eq_false c11
              clear c11
              by_cases c12 : a2 > 1000000
              · rw [if_pos c12] at H
                have c12b0 : decide (1000000 < a2) = true := decide_eq_true c12
                clear c12
                have H' := Aside0.mk H
                clear H
                go_wp2
                go_meet
                case rel => exact ⟨_, (true), (by first | rfl | (simp; done) | (simp [*]; done)), H', ⟨by first | omega | exact Nat.le_refl _⟩, by repeat (first | exact Drawn0.refl _ | apply Drawn0.step)⟩
              · rw [if_neg c12] at H
                have c12b0 : decide (1000000 < a2) = false := decide_eq_false c12
                clear c12
                by_cases c13 : a3 < 1
                · rw [if_pos c13] at H
                  have c13b0 : decide (a3 < 1) = true := decide_eq_true c13
                  clear c13
                  have H' := Aside0.mk H
                  clear H
                  go_wp2
                  go_meet
                  case rel => exact ⟨_, (true), (by first | rfl | (simp; done) | (simp [*]; done)), H', ⟨by first | omega | exact Nat.le_refl _⟩, by repeat (first | exact Drawn0.refl _ | apply Drawn0.step)⟩
                · rw [if_neg c13] at H
                  have c13b0 : decide (a3 < 1) = false := decide_eq_false c13
                  clear c13
                  by_cases c14 : a3 > 1000000
                  · rw [if_pos c14] at H
                    have c14b0 : decide (1000000 < a3) = true := decide_eq_true c14
                    clear c14
                    have H' := Aside0.mk H
                    clear H
                    go_wp2
                    go_meet
                    case rel => exact ⟨_, (true), (by first | rfl | (simp; done) | (simp [*]; done)), H', ⟨by first | omega | exact Nat.le_refl _⟩, by repeat (first | exact Drawn0.refl _ | apply Drawn0.step)⟩
                  · rw [if_neg c14] at H
                    have c14b0 : decide (1000000 < a3) = false := decide_eq_false c14
                    clear c14
                    replace H := Option.bind_eq_some_iff.mp H
                    obtain ⟨t171, A150, H⟩ := H
                    replace H : (payrollref2_Part.j0 k a0 a1 a2 a3 a4 (!t171)) = some (r1, r2) := H
                    have A15 := Aside0.mk A150
                    clear A150
                    have H' := Aside0.mk H
                    clear H
                    go_wp2_with (first | (go_at_call 39; (with_reducible refine (payrollref2_Mode.calls a4 t171 _ A15.out).mono ?_); rintro e w' ⟨rfl, ⟨nd, rfl⟩⟩))
                    go_meet
                    case rel => exact ⟨_, (!t171), (by first | rfl | (simp; done) | (simp [*]; done)), H', ⟨by first | omega | exact Nat.le_refl _⟩, by repeat (first | exact Drawn0.refl _ | apply Drawn0.step)⟩
  case rest =>
    clear HC6
    try clear c1
    try clear p2
    try clear c7
    try clear c7b0
    try clear c8
    try clear c8b0
    try clear c9
    try clear c9b0
    try clear c10
    try clear c10b0
    try clear c11
    try clear c11b0
    try clear c12
    try clear c12b0
    try clear c13
    try clear c13b0
    try clear c14
    try clear c14b0
    obtain ⟨kq, x47_5, rfl, HA, HJ5, ⟨mc5, rfl⟩⟩ := hcut
    cases kq with
    | zero => exact absurd HA.out (by simp [payrollref2_Part.j0])
    | succ kj5 =>
      have H := HA.out
      clear HA
      simp only [payrollref2_Part.j0] at H
      by_cases c16 : x47_5 = true
      · subst c16
        have H1 : (some (0, 2)) = some (r1, r2) := by rw [if_pos rfl] at H; exact H
        clear H
        have H := H1
        clear H1
        simp only [Option.some.injEq, Prod.mk.injEq] at H
        obtain ⟨rfl, rfl⟩ := H
        go_wp2
        go_ret2
        exact ⟨by first | rfl | (simp; done) | (simp [*]; done), by repeat (first | exact Drawn0.refl _ | apply Drawn0.step)⟩
      · replace c16 := Bool.eq_false_iff.mpr c16
        subst c16
        have H1 : ((payrollref2_nearest.f kj5 (wrap64 (a0 * a1)) (wrap64 (a2 * a3)) a4).bind fun t172 => (if (wrap64 (t172 * a3)) < (-1000000000000) then (some (0, 4)) else (if (wrap64 (t172 * a3)) > 1000000000000 then (some (0, 4)) else (some (wrap64 (t172 * a3), 0))))) = some (r1, r2) := by rw [if_neg (show ¬ (false = true) by decide)] at H; exact H
        clear H
        have H := H1
        clear H1
        replace H := Option.bind_eq_some_iff.mp H
        obtain ⟨t172, A170, H⟩ := H
        replace H : (if (wrap64 (t172 * a3)) < (-1000000000000) then (some (0, 4)) else (if (wrap64 (t172 * a3)) > 1000000000000 then (some (0, 4)) else (some (wrap64 (t172 * a3), 0)))) = some (r1, r2) := H
        have A17 := Aside0.mk A170
        clear A170
        by_cases c18 : (wrap64 (t172 * a3)) < (-1000000000000)
        · rw [if_pos c18] at H
          have c18b0 : decide ((wrap64 (t172 * a3)) < (-1000000000000)) = true := decide_eq_true c18
          clear c18
          simp only [Option.some.injEq, Prod.mk.injEq] at H
          obtain ⟨rfl, rfl⟩ := H
          go_wp2_with (first | ((with_reducible refine gate_callee (f := 40) rfl ?_); refine goesL_ (some 55) rfl rfl Try.func40 (by kernel_rfl) rfl #[.int .i64 (wrap64 (a0 * a1)), .int .i64 (wrap64 (a2 * a3)), .int .i64 a4] rfl (by (try simp only [List.map_toArray, List.map_cons, List.map_nil]); first | done | rfl | (simp only [List.length_drop, List.length_take]; rfl)) ?_; (with_reducible refine (payrollref2_nearest.calls kj5 (wrap64 (a0 * a1)) (wrap64 (a2 * a3)) a4 t172 _ A17.out).mono ?_); rintro e w' ⟨rfl, ⟨nd, rfl⟩⟩; refine ⟨_, rfl, ?_⟩))
          go_ret2
          exact ⟨by first | rfl | (simp; done) | (simp [*]; done), by repeat (first | exact Drawn0.refl _ | apply Drawn0.step)⟩
        · rw [if_neg c18] at H
          have c18b0 : decide ((wrap64 (t172 * a3)) < (-1000000000000)) = false := decide_eq_false c18
          clear c18
          by_cases c19 : (wrap64 (t172 * a3)) > 1000000000000
          · rw [if_pos c19] at H
            have c19b0 : decide (1000000000000 < (wrap64 (t172 * a3))) = true := decide_eq_true c19
            clear c19
            simp only [Option.some.injEq, Prod.mk.injEq] at H
            obtain ⟨rfl, rfl⟩ := H
            go_wp2_with (first | ((with_reducible refine gate_callee (f := 40) rfl ?_); refine goesL_ (some 55) rfl rfl Try.func40 (by kernel_rfl) rfl #[.int .i64 (wrap64 (a0 * a1)), .int .i64 (wrap64 (a2 * a3)), .int .i64 a4] rfl (by (try simp only [List.map_toArray, List.map_cons, List.map_nil]); first | done | rfl | (simp only [List.length_drop, List.length_take]; rfl)) ?_; (with_reducible refine (payrollref2_nearest.calls kj5 (wrap64 (a0 * a1)) (wrap64 (a2 * a3)) a4 t172 _ A17.out).mono ?_); rintro e w' ⟨rfl, ⟨nd, rfl⟩⟩; refine ⟨_, rfl, ?_⟩))
            go_ret2
            exact ⟨by first | rfl | (simp; done) | (simp [*]; done), by repeat (first | exact Drawn0.refl _ | apply Drawn0.step)⟩
          · rw [if_neg c19] at H
            have c19b0 : decide (1000000000000 < (wrap64 (t172 * a3))) = false := decide_eq_false c19
            clear c19
            simp only [Option.some.injEq, Prod.mk.injEq] at H
            obtain ⟨rfl, rfl⟩ := H
            go_wp2_with (first | ((with_reducible refine gate_callee (f := 40) rfl ?_); refine goesL_ (some 55) rfl rfl Try.func40 (by kernel_rfl) rfl #[.int .i64 (wrap64 (a0 * a1)), .int .i64 (wrap64 (a2 * a3)), .int .i64 a4] rfl (by (try simp only [List.map_toArray, List.map_cons, List.map_nil]); first | done | rfl | (simp only [List.length_drop, List.length_take]; rfl)) ?_; (with_reducible refine (payrollref2_nearest.calls kj5 (wrap64 (a0 * a1)) (wrap64 (a2 * a3)) a4 t172 _ A17.out).mono ?_); rintro e w' ⟨rfl, ⟨nd, rfl⟩⟩; refine ⟨_, rfl, ?_⟩))
            go_ret2
            exact ⟨by first | rfl | (simp; done) | (simp [*]; done), by repeat (first | exact Drawn0.refl _ | apply Drawn0.step)⟩

/-! ### payrolllaw2_RoundingParts: function 4 -/
def payrolllaw2_RoundingParts.l0 : Nat → Int → Int → Int → Int → Int → Int → List Int → Int → Option (Bool)
  | 0, _, _, _, _, _, _, _, _ => none
  | k + 1, x1, x2, x3, x4, x5, x14, x176000, x176001 => if x14 < 5 then ((payrollgen_Tape_Next.f x176000 x176001 200001).bind fun bt181 => ((payrollgen_Tape_Pick.f x176000 bt181.2 (([wrap64 (bt181.1 - 100000), 1000000000000, (-1000000000000), (-5)] : List Int))).bind fun bt186 => ((payrollgen_Tape_Next.f x176000 bt186.2 1000).bind fun bt188 => ((payrollgen_Tape_Pick.f x176000 bt188.2 (([bt188.1, 1000000, 0] : List Int))).bind fun bt193 => ((payrollgen_Tape_Next.f x176000 bt193.2 1000).bind fun bt195 => ((payrollgen_Tape_Pick.f x176000 bt195.2 (([wrap64 (1 + bt195.1), 1000000, 1] : List Int))).bind fun bt200 => ((payrollgen_Tape_Pick.f x176000 bt200.2 (([1, 5, 100, 1000000] : List Int))).bind fun bt205 => ((payrollgen_Tape_Next.f x176000 bt205.2 7).bind fun bt207 => ((rounding_Part.f k bt186.1 bt193.1 bt200.1 bt205.1 bt207.1).bind fun bt209 => ((payrollref2_Part.f k bt186.1 bt193.1 bt200.1 bt205.1 bt207.1).bind fun bt211 => (if bt209.1 = bt211.1 then (if bt209.2 = bt211.2 then (payrolllaw2_RoundingParts.l0 k x1 x2 x3 x4 x5 (wrap64 (x14 + 1)) x176000 bt207.2) else (some false)) else (some false)))))))))))) else ((rounding_Part.f k x1 x2 x3 x4 x5).bind fun bt176 => ((payrollref2_Part.f k x1 x2 x3 x4 x5).bind fun bt178 => (if bt176.1 = bt178.1 then (if bt176.2 = bt178.2 then ((payrolllaw2_sane.f k).bind fun t180 => (some t180)) else (some false)) else (some false))))
def payrolllaw2_RoundingParts.f (k : Nat) (l0 : List Int) (a1 : Int) (a2 : Int) (a3 : Int) (a4 : Int) (a5 : Int) : Option (Bool) := (payrollgen_New.f l0).bind fun bt173 => (payrolllaw2_RoundingParts.l0 k a1 a2 a3 a4 a5 0 bt173.1 bt173.2)
theorem payrolllaw2_RoundingParts.mono_l : ∀ k, (∀ y0 y1 y2 y3 y4 y5 y6 y7, LeO (payrolllaw2_RoundingParts.l0 k y0 y1 y2 y3 y4 y5 y6 y7) (payrolllaw2_RoundingParts.l0 (k + 1) y0 y1 y2 y3 y4 y5 y6 y7))
  | 0 => fun _ _ _ _ _ _ _ _ r h => by simp [payrolllaw2_RoundingParts.l0] at h
  | k + 1 => by
    have ih0 := payrolllaw2_RoundingParts.mono_l k
    · intro y0 y1 y2 y3 y4 y5 y6 y7
      unfold payrolllaw2_RoundingParts.l0
      repeat' first
      | (with_reducible exact ih0 _ _ _ _ _ _ _ _)
      | (with_reducible exact payrolllaw2_sane.mono _)
      | (with_reducible exact payrollref2_Part.mono _ _ _ _ _ _)
      | (with_reducible exact rounding_Part.mono _ _ _ _ _ _)
      | (with_reducible exact LeO.refl _)
      | (with_reducible exact LeO.none _)
      | (with_reducible refine LeO.ite ?_ ?_)
      | (with_reducible refine LeO.bind ?_ (fun _ => ?_))
      | exact ih0 _ _ _ _ _ _ _ _
      | exact payrolllaw2_sane.mono _
      | exact payrollref2_Part.mono _ _ _ _ _ _
      | exact rounding_Part.mono _ _ _ _ _ _
      | exact LeO.none _
      | refine LeO.ite ?_ ?_
      | refine LeO.bind ?_ (fun _ => ?_)
theorem payrolllaw2_RoundingParts.mono : ∀ a0 a1 a2 a3 a4 a5 k, LeO (payrolllaw2_RoundingParts.f k a0 a1 a2 a3 a4 a5) (payrolllaw2_RoundingParts.f (k + 1) a0 a1 a2 a3 a4 a5) := by
  intro a0 a1 a2 a3 a4 a5 k
  have ih0 := payrolllaw2_RoundingParts.mono_l k
  unfold payrolllaw2_RoundingParts.f
  repeat' first
      | (with_reducible exact ih0 _ _ _ _ _ _ _ _)
      | (with_reducible exact payrolllaw2_sane.mono _)
      | (with_reducible exact payrollref2_Part.mono _ _ _ _ _ _)
      | (with_reducible exact rounding_Part.mono _ _ _ _ _ _)
      | (with_reducible exact LeO.refl _)
      | (with_reducible exact LeO.none _)
      | (with_reducible refine LeO.ite ?_ ?_)
      | (with_reducible refine LeO.bind ?_ (fun _ => ?_))
      | exact ih0 _ _ _ _ _ _ _ _
      | exact payrolllaw2_sane.mono _
      | exact payrollref2_Part.mono _ _ _ _ _ _
      | exact rounding_Part.mono _ _ _ _ _ _
      | exact LeO.none _
      | refine LeO.ite ?_ ?_
      | refine LeO.bind ?_ (fun _ => ?_)
set_option maxHeartbeats 8000000 in
set_option maxRecDepth 100000 in
theorem payrolllaw2_RoundingParts.calls (k : Nat) (A0 : Option Addr) (c0 : Nat) (l0 : List Int) (a1 : Int) (a2 : Int) (a3 : Int) (a4 : Int) (a5 : Int) (r : Bool) (w : World) (hr0 : Kd.C (Kd.int .i64) w A0 l0.length l0) (hc0 : l0.length ≤ c0) (h : payrolllaw2_RoundingParts.f k l0 a1 a2 a3 a4 a5 = some r) :
    Calls Try.prog 4 #[.slice A0 l0.length c0, .int .i64 a1, .int .i64 a2, .int .i64 a3, .int .i64 a4, .int .i64 a5] w fun e w' => e = .returned (.bool r) ∧ Below w.heap.size w w' := by
  have HR0 := Aside0.mk hr0
  have HC0 := Aside0.mk hc0
  clear hr0 hc0
  have HB := Aside0.mk (Below.refl w.heap.size w)
  have H : ((payrollgen_New.f l0).bind fun bt173 => (payrolllaw2_RoundingParts.l0 k a1 a2 a3 a4 a5 0 bt173.1 bt173.2)) = some r := h
  clear h
  replace H := Option.bind_eq_some_iff.mp H
  obtain ⟨⟨t173, t174⟩, A70, H⟩ := H
  replace H : (payrolllaw2_RoundingParts.l0 k a1 a2 a3 a4 a5 0 t173 t174) = some r := H
  have A7 := Aside0.mk A70
  clear A70
  have H' := Aside0.mk H
  clear H
  go_enter Try.func4, Try.ntmps4
  go_wp2_with (first | ((with_reducible refine gate_callee (f := 11) rfl ?_); refine goesL_ (some 29) rfl rfl Try.func11 (by kernel_rfl) rfl #[.slice A0 l0.length c0] rfl (by (try simp only [List.map_toArray, List.map_cons, List.map_nil]); first | done | rfl | (simp only [List.length_drop, List.length_take]; rfl)) ?_; (with_reducible refine (payrollgen_New.calls _ _ l0 t173 t174 w _ ?side1 ?side2 ?side3 A7.out).mono ?_); (case side1 => repeat (first | (with_reducible first | exact HB.out | apply below_alloc | apply pw_below_drewN | apply below_drew1) | exact HB.out)); (case side2 => exact HR0.out); (case side3 => exact HC0.out); rintro e w8 ⟨g175, rfl, hi, hb, hb2⟩; refine ⟨_, rfl, ?_⟩; have n0_ := Aside0.mk (hb); have n1_ := Aside0.mk (hi); clear HB; have HB := n0_; have HI175 := n1_; clear n0_ n1_; (try clear hb); (try clear hb2); (try clear hk); (try clear hi)))
  go_loopg [14] k (fun kq v14 w' => ∃ (x14_1 : Int) (x176001_1 : Int), v14 = .int .i64 x14_1 ∧ Aside0 (payrolllaw2_RoundingParts.l0 kq a1 a2 a3 a4 a5 x14_1 t173 x176001_1 = some r) ∧ Aside0 (kq ≤ k) ∧ Aside0 (IsS53 w w' g175 t173 x176001_1) ∧ Aside0 (Below w.heap.size w w'))
  case atStart => exact ⟨(0), (t174), (by first | rfl | (simp; done) | (simp [*]; done)), H', ⟨Nat.le_refl _⟩, ⟨by repeat (first | (with_reducible first | exact HI175.out | apply IsS53.alloc | apply IsS53.drewN | apply IsS53.drew | apply IsS53.set_1) | exact HI175.out)⟩, ⟨by repeat (first | (with_reducible first | exact HB.out | apply below_alloc | apply pw_below_drewN | apply below_drew1 | refine below_set ?_ (IsS53.ge HI175.out)) | exact HB.out)⟩⟩
  case round =>
    clear H'
    try clear c1
    try clear p2
    try clear c4
    obtain ⟨x14_1, x176001_1, rfl, HA, HK1, HI175, HB⟩ := hrel
    cases gk with
    | zero => exact absurd HA.out (by simp [payrolllaw2_RoundingParts.l0])
    | succ k1 =>
      have H := HA.out
      clear HA
      simp only [payrolllaw2_RoundingParts.l0] at H
      by_cases c9 : x14_1 < 5
      · rw [if_pos c9] at H
        have c9b0 : decide (x14_1 < 5) = true := decide_eq_true c9
        clear c9
        replace H := Option.bind_eq_some_iff.mp H
        obtain ⟨⟨t181, t182⟩, A100, H⟩ := H
        replace H : ((payrollgen_Tape_Pick.f t173 t182 (([wrap64 (t181 - 100000), 1000000000000, (-1000000000000), (-5)] : List Int))).bind fun bt186 => ((payrollgen_Tape_Next.f t173 bt186.2 1000).bind fun bt188 => ((payrollgen_Tape_Pick.f t173 bt188.2 (([bt188.1, 1000000, 0] : List Int))).bind fun bt193 => ((payrollgen_Tape_Next.f t173 bt193.2 1000).bind fun bt195 => ((payrollgen_Tape_Pick.f t173 bt195.2 (([wrap64 (1 + bt195.1), 1000000, 1] : List Int))).bind fun bt200 => ((payrollgen_Tape_Pick.f t173 bt200.2 (([1, 5, 100, 1000000] : List Int))).bind fun bt205 => ((payrollgen_Tape_Next.f t173 bt205.2 7).bind fun bt207 => ((rounding_Part.f k1 bt186.1 bt193.1 bt200.1 bt205.1 bt207.1).bind fun bt209 => ((payrollref2_Part.f k1 bt186.1 bt193.1 bt200.1 bt205.1 bt207.1).bind fun bt211 => (if bt209.1 = bt211.1 then (if bt209.2 = bt211.2 then (payrolllaw2_RoundingParts.l0 k1 a1 a2 a3 a4 a5 (wrap64 (x14_1 + 1)) t173 bt207.2) else (some false)) else (some false))))))))))) = some r := H
        have A10 := Aside0.mk A100
        clear A100
        obtain ⟨y183, hy183⟩ : ∃ y_ : List Int, y_ = (([wrap64 (t181 - 100000), 1000000000000, (-1000000000000), (-5)] : List Int)) := ⟨_, rfl⟩
        replace H : ((payrollgen_Tape_Pick.f t173 t182 y183).bind fun bt186 => ((payrollgen_Tape_Next.f t173 bt186.2 1000).bind fun bt188 => ((payrollgen_Tape_Pick.f t173 bt188.2 (([bt188.1, 1000000, 0] : List Int))).bind fun bt193 => ((payrollgen_Tape_Next.f t173 bt193.2 1000).bind fun bt195 => ((payrollgen_Tape_Pick.f t173 bt195.2 (([wrap64 (1 + bt195.1), 1000000, 1] : List Int))).bind fun bt200 => ((payrollgen_Tape_Pick.f t173 bt200.2 (([1, 5, 100, 1000000] : List Int))).bind fun bt205 => ((payrollgen_Tape_Next.f t173 bt205.2 7).bind fun bt207 => ((rounding_Part.f k1 bt186.1 bt193.1 bt200.1 bt205.1 bt207.1).bind fun bt209 => ((payrollref2_Part.f k1 bt186.1 bt193.1 bt200.1 bt205.1 bt207.1).bind fun bt211 => (if bt209.1 = bt211.1 then (if bt209.2 = bt211.2 then (payrolllaw2_RoundingParts.l0 k1 a1 a2 a3 a4 a5 (wrap64 (x14_1 + 1)) t173 bt207.2) else (some false)) else (some false))))))))))) = some r := by first | (rw [hy183]; with_reducible exact H) | (have H2_ := (Option.bind_some _ _).symm.trans H; rw [hy183]; with_reducible exact H2_) | (have H2_ := (Option.bind_some _ _).symm.trans H; with_reducible exact H2_) | with_reducible exact H | (rw [hy183]; exact H) | exact H
        have Ny183 := Aside0.mk hy183
        clear hy183
        replace H := Option.bind_eq_some_iff.mp H
        obtain ⟨⟨t186, t187⟩, A110, H⟩ := H
        replace H : ((payrollgen_Tape_Next.f t173 t187 1000).bind fun bt188 => ((payrollgen_Tape_Pick.f t173 bt188.2 (([bt188.1, 1000000, 0] : List Int))).bind fun bt193 => ((payrollgen_Tape_Next.f t173 bt193.2 1000).bind fun bt195 => ((payrollgen_Tape_Pick.f t173 bt195.2 (([wrap64 (1 + bt195.1), 1000000, 1] : List Int))).bind fun bt200 => ((payrollgen_Tape_Pick.f t173 bt200.2 (([1, 5, 100, 1000000] : List Int))).bind fun bt205 => ((payrollgen_Tape_Next.f t173 bt205.2 7).bind fun bt207 => ((rounding_Part.f k1 t186 bt193.1 bt200.1 bt205.1 bt207.1).bind fun bt209 => ((payrollref2_Part.f k1 t186 bt193.1 bt200.1 bt205.1 bt207.1).bind fun bt211 => (if bt209.1 = bt211.1 then (if bt209.2 = bt211.2 then (payrolllaw2_RoundingParts.l0 k1 a1 a2 a3 a4 a5 (wrap64 (x14_1 + 1)) t173 bt207.2) else (some false)) else (some false)))))))))) = some r := H
        have A11 := Aside0.mk A110
        clear A110
        replace H := Option.bind_eq_some_iff.mp H
        obtain ⟨⟨t188, t189⟩, A120, H⟩ := H
        replace H : ((payrollgen_Tape_Pick.f t173 t189 (([t188, 1000000, 0] : List Int))).bind fun bt193 => ((payrollgen_Tape_Next.f t173 bt193.2 1000).bind fun bt195 => ((payrollgen_Tape_Pick.f t173 bt195.2 (([wrap64 (1 + bt195.1), 1000000, 1] : List Int))).bind fun bt200 => ((payrollgen_Tape_Pick.f t173 bt200.2 (([1, 5, 100, 1000000] : List Int))).bind fun bt205 => ((payrollgen_Tape_Next.f t173 bt205.2 7).bind fun bt207 => ((rounding_Part.f k1 t186 bt193.1 bt200.1 bt205.1 bt207.1).bind fun bt209 => ((payrollref2_Part.f k1 t186 bt193.1 bt200.1 bt205.1 bt207.1).bind fun bt211 => (if bt209.1 = bt211.1 then (if bt209.2 = bt211.2 then (payrolllaw2_RoundingParts.l0 k1 a1 a2 a3 a4 a5 (wrap64 (x14_1 + 1)) t173 bt207.2) else (some false)) else (some false))))))))) = some r := H
        have A12 := Aside0.mk A120
        clear A120
        obtain ⟨y190, hy190⟩ : ∃ y_ : List Int, y_ = (([t188, 1000000, 0] : List Int)) := ⟨_, rfl⟩
        replace H : ((payrollgen_Tape_Pick.f t173 t189 y190).bind fun bt193 => ((payrollgen_Tape_Next.f t173 bt193.2 1000).bind fun bt195 => ((payrollgen_Tape_Pick.f t173 bt195.2 (([wrap64 (1 + bt195.1), 1000000, 1] : List Int))).bind fun bt200 => ((payrollgen_Tape_Pick.f t173 bt200.2 (([1, 5, 100, 1000000] : List Int))).bind fun bt205 => ((payrollgen_Tape_Next.f t173 bt205.2 7).bind fun bt207 => ((rounding_Part.f k1 t186 bt193.1 bt200.1 bt205.1 bt207.1).bind fun bt209 => ((payrollref2_Part.f k1 t186 bt193.1 bt200.1 bt205.1 bt207.1).bind fun bt211 => (if bt209.1 = bt211.1 then (if bt209.2 = bt211.2 then (payrolllaw2_RoundingParts.l0 k1 a1 a2 a3 a4 a5 (wrap64 (x14_1 + 1)) t173 bt207.2) else (some false)) else (some false))))))))) = some r := by first | (rw [hy190]; with_reducible exact H) | (have H2_ := (Option.bind_some _ _).symm.trans H; rw [hy190]; with_reducible exact H2_) | (have H2_ := (Option.bind_some _ _).symm.trans H; with_reducible exact H2_) | with_reducible exact H | (rw [hy190]; exact H) | exact H
        have Ny190 := Aside0.mk hy190
        clear hy190
        replace H := Option.bind_eq_some_iff.mp H
        obtain ⟨⟨t193, t194⟩, A130, H⟩ := H
        replace H : ((payrollgen_Tape_Next.f t173 t194 1000).bind fun bt195 => ((payrollgen_Tape_Pick.f t173 bt195.2 (([wrap64 (1 + bt195.1), 1000000, 1] : List Int))).bind fun bt200 => ((payrollgen_Tape_Pick.f t173 bt200.2 (([1, 5, 100, 1000000] : List Int))).bind fun bt205 => ((payrollgen_Tape_Next.f t173 bt205.2 7).bind fun bt207 => ((rounding_Part.f k1 t186 t193 bt200.1 bt205.1 bt207.1).bind fun bt209 => ((payrollref2_Part.f k1 t186 t193 bt200.1 bt205.1 bt207.1).bind fun bt211 => (if bt209.1 = bt211.1 then (if bt209.2 = bt211.2 then (payrolllaw2_RoundingParts.l0 k1 a1 a2 a3 a4 a5 (wrap64 (x14_1 + 1)) t173 bt207.2) else (some false)) else (some false)))))))) = some r := H
        have A13 := Aside0.mk A130
        clear A130
        replace H := Option.bind_eq_some_iff.mp H
        obtain ⟨⟨t195, t196⟩, A140, H⟩ := H
        replace H : ((payrollgen_Tape_Pick.f t173 t196 (([wrap64 (1 + t195), 1000000, 1] : List Int))).bind fun bt200 => ((payrollgen_Tape_Pick.f t173 bt200.2 (([1, 5, 100, 1000000] : List Int))).bind fun bt205 => ((payrollgen_Tape_Next.f t173 bt205.2 7).bind fun bt207 => ((rounding_Part.f k1 t186 t193 bt200.1 bt205.1 bt207.1).bind fun bt209 => ((payrollref2_Part.f k1 t186 t193 bt200.1 bt205.1 bt207.1).bind fun bt211 => (if bt209.1 = bt211.1 then (if bt209.2 = bt211.2 then (payrolllaw2_RoundingParts.l0 k1 a1 a2 a3 a4 a5 (wrap64 (x14_1 + 1)) t173 bt207.2) else (some false)) else (some false))))))) = some r := H
        have A14 := Aside0.mk A140
        clear A140
        obtain ⟨y197, hy197⟩ : ∃ y_ : List Int, y_ = (([wrap64 (1 + t195), 1000000, 1] : List Int)) := ⟨_, rfl⟩
        replace H : ((payrollgen_Tape_Pick.f t173 t196 y197).bind fun bt200 => ((payrollgen_Tape_Pick.f t173 bt200.2 (([1, 5, 100, 1000000] : List Int))).bind fun bt205 => ((payrollgen_Tape_Next.f t173 bt205.2 7).bind fun bt207 => ((rounding_Part.f k1 t186 t193 bt200.1 bt205.1 bt207.1).bind fun bt209 => ((payrollref2_Part.f k1 t186 t193 bt200.1 bt205.1 bt207.1).bind fun bt211 => (if bt209.1 = bt211.1 then (if bt209.2 = bt211.2 then (payrolllaw2_RoundingParts.l0 k1 a1 a2 a3 a4 a5 (wrap64 (x14_1 + 1)) t173 bt207.2) else (some false)) else (some false))))))) = some r := by first | (rw [hy197]; with_reducible exact H) | (have H2_ := (Option.bind_some _ _).symm.trans H; rw [hy197]; with_reducible exact H2_) | (have H2_ := (Option.bind_some _ _).symm.trans H; with_reducible exact H2_) | with_reducible exact H | (rw [hy197]; exact H) | exact H
        have Ny197 := Aside0.mk hy197
        clear hy197
        replace H := Option.bind_eq_some_iff.mp H
        obtain ⟨⟨t200, t201⟩, A150, H⟩ := H
        replace H : ((payrollgen_Tape_Pick.f t173 t201 (([1, 5, 100, 1000000] : List Int))).bind fun bt205 => ((payrollgen_Tape_Next.f t173 bt205.2 7).bind fun bt207 => ((rounding_Part.f k1 t186 t193 t200 bt205.1 bt207.1).bind fun bt209 => ((payrollref2_Part.f k1 t186 t193 t200 bt205.1 bt207.1).bind fun bt211 => (if bt209.1 = bt211.1 then (if bt209.2 = bt211.2 then (payrolllaw2_RoundingParts.l0 k1 a1 a2 a3 a4 a5 (wrap64 (x14_1 + 1)) t173 bt207.2) else (some false)) else (some false)))))) = some r := H
        have A15 := Aside0.mk A150
        clear A150
        obtain ⟨y202, hy202⟩ : ∃ y_ : List Int, y_ = (([1, 5, 100, 1000000] : List Int)) := ⟨_, rfl⟩
        replace H : ((payrollgen_Tape_Pick.f t173 t201 y202).bind fun bt205 => ((payrollgen_Tape_Next.f t173 bt205.2 7).bind fun bt207 => ((rounding_Part.f k1 t186 t193 t200 bt205.1 bt207.1).bind fun bt209 => ((payrollref2_Part.f k1 t186 t193 t200 bt205.1 bt207.1).bind fun bt211 => (if bt209.1 = bt211.1 then (if bt209.2 = bt211.2 then (payrolllaw2_RoundingParts.l0 k1 a1 a2 a3 a4 a5 (wrap64 (x14_1 + 1)) t173 bt207.2) else (some false)) else (some false)))))) = some r := by first | (rw [hy202]; with_reducible exact H) | (have H2_ := (Option.bind_some _ _).symm.trans H; rw [hy202]; with_reducible exact H2_) | (have H2_ := (Option.bind_some _ _).symm.trans H; with_reducible exact H2_) | with_reducible exact H | (rw [hy202]; exact H) | exact H
        have Ny202 := Aside0.mk hy202
        clear hy202
        replace H := Option.bind_eq_some_iff.mp H
        obtain ⟨⟨t205, t206⟩, A160, H⟩ := H
        replace H : ((payrollgen_Tape_Next.f t173 t206 7).bind fun bt207 => ((rounding_Part.f k1 t186 t193 t200 t205 bt207.1).bind fun bt209 => ((payrollref2_Part.f k1 t186 t193 t200 t205 bt207.1).bind fun bt211 => (if bt209.1 = bt211.1 then (if bt209.2 = bt211.2 then (payrolllaw2_RoundingParts.l0 k1 a1 a2 a3 a4 a5 (wrap64 (x14_1 + 1)) t173 bt207.2) else (some false)) else (some false))))) = some r := H
        have A16 := Aside0.mk A160
        clear A160
        replace H := Option.bind_eq_some_iff.mp H
        obtain ⟨⟨t207, t208⟩, A170, H⟩ := H
        replace H : ((rounding_Part.f k1 t186 t193 t200 t205 t207).bind fun bt209 => ((payrollref2_Part.f k1 t186 t193 t200 t205 t207).bind fun bt211 => (if bt209.1 = bt211.1 then (if bt209.2 = bt211.2 then (payrolllaw2_RoundingParts.l0 k1 a1 a2 a3 a4 a5 (wrap64 (x14_1 + 1)) t173 t208) else (some false)) else (some false)))) = some r := H
        have A17 := Aside0.mk A170
        clear A170
        replace H := Option.bind_eq_some_iff.mp H
        obtain ⟨⟨t209, t210⟩, A180, H⟩ := H
        replace H : ((payrollref2_Part.f k1 t186 t193 t200 t205 t207).bind fun bt211 => (if t209 = bt211.1 then (if t210 = bt211.2 then (payrolllaw2_RoundingParts.l0 k1 a1 a2 a3 a4 a5 (wrap64 (x14_1 + 1)) t173 t208) else (some false)) else (some false))) = some r := H
        have A18 := Aside0.mk A180
        clear A180
        replace H := Option.bind_eq_some_iff.mp H
        obtain ⟨⟨t211, t212⟩, A190, H⟩ := H
        replace H : (if t209 = t211 then (if t210 = t212 then (payrolllaw2_RoundingParts.l0 k1 a1 a2 a3 a4 a5 (wrap64 (x14_1 + 1)) t173 t208) else (some false)) else (some false)) = some r := H
        have A19 := Aside0.mk A190
        clear A190
        by_cases c20 : t209 = t211
        · rw [if_pos c20] at H
          have c20b0 : (t209 == t211) = true := beq_iff_eq.mpr c20
          have c20b1 : (t209 != t211) = false := bne_eq_false_iff_eq.mpr c20
          clear c20
          by_cases c21 : t210 = t212
          · rw [if_pos c21] at H
            have c21b0 : (t210 == t212) = true := beq_iff_eq.mpr c21
            have c21b1 : (t210 != t212) = false := bne_eq_false_iff_eq.mpr c21
            clear c21
            have H' := Aside0.mk H
            clear H
            go_wp2_with (first | ((with_reducible refine gate_callee (f := 14) rfl ?_); refine goesL_ (some 36) rfl rfl Try.func14 (by kernel_rfl) rfl #[.pointer (some ⟨g175, 0, none⟩), .int .i64 200001] rfl (by (try simp only [List.map_toArray, List.map_cons, List.map_nil]); first | done | rfl | (simp only [List.length_drop, List.length_take]; rfl)) ?_; (with_reducible refine (payrollgen_Tape_Next.calls g175 t173 x176001_1 200001 t181 t182 w _ ?side1 ?side2 A10.out).mono ?_); (case side1 => repeat (first | (with_reducible first | exact HI175.out | apply IsS53.alloc | apply IsS53.drewN | apply IsS53.drew | apply IsS53.set_1) | exact HI175.out)); (case side2 => repeat (first | (with_reducible first | exact HB.out | apply below_alloc | apply pw_below_drewN | apply below_drew1 | refine below_set ?_ (IsS53.ge HI175.out)) | exact HB.out)); rintro e w22 ⟨rfl, hi, hb, hk⟩; refine ⟨_, rfl, ?_⟩; have n0_ := Aside0.mk (hb); have n1_ := Aside0.mk (hi); clear HB; clear HI175; have HB := n0_; have HI175 := n1_; clear n0_ n1_; (try clear hb); (try clear hb2); (try clear hk); (try clear hi)) | ((with_reducible refine gate_dst (N := 38) rfl ?_); refine Kd.R_lit (Kd.int .i64) _ 3 ?hg (N := 38) ?hd (xs := ([wrap64 (t181 - 100000), 1000000000000, (-1000000000000), (-5)] : List Int)) (inner := [.int .i64 (wrap64 (t181 - 100000)), .int .i64 1000000000000, .int .i64 (-1000000000000), .int .i64 (-5)]) (ok := fun _ => True) (okp := fun _ => True) ?hr ?hp (fun _ hk => hk) trivial (Below.refl _ _) (Nat.le_refl _) (by simp) ?_; (case hd => rfl); (case hg => rfl); (case hr => first | (go_simp; done) | (go_simp; rfl)); (case hp => exact (Reps.one (show Kd.M (Kd.int .i64) _ _ _ (wrap64 (t181 - 100000)) [.int .i64 (wrap64 (t181 - 100000))] from rfl) (Reps.one (show Kd.M (Kd.int .i64) _ _ _ 1000000000000 [.int .i64 1000000000000] from rfl) (Reps.one (show Kd.M (Kd.int .i64) _ _ _ (-1000000000000) [.int .i64 (-1000000000000)] from rfl) (Reps.one (show Kd.M (Kd.int .i64) _ _ _ (-5) [.int .i64 (-5)] from rfl) (Reps.none _ _)))))); intro v184 w23 ho24 hb hg_ hnew_; clear hg_ hnew_; (first | rw [← Ny183.out] at ho24 | (simp only [Int.reduceToNat] at ho24; rw [← Ny183.out] at ho24)); have n0_ := Aside0.mk (Kd.R_lower ho24 (below_size (by repeat (first | (with_reducible first | exact HB.out | apply below_alloc | apply pw_below_drewN | apply below_drew1 | refine below_set ?_ (IsS53.ge HI175.out)) | exact HB.out)))); have n1_ := Aside0.mk (IsS53.below (by repeat (first | (with_reducible first | exact HI175.out | apply IsS53.alloc | apply IsS53.drewN | apply IsS53.drew | apply IsS53.set_1) | exact HI175.out)) hb); have n2_ := Aside0.mk (below_step (by repeat (first | (with_reducible first | exact HB.out | apply below_alloc | apply pw_below_drewN | apply below_drew1 | refine below_set ?_ (IsS53.ge HI175.out)) | exact HB.out)) hb); clear HI175; clear HB; have HO185 := n0_; have HI175 := n1_; have HB := n2_; clear n0_ n1_ n2_; clear hb ho24; obtain ⟨Ao25, co25, eo25⟩ := Kd.R_slice HO185.out; subst eo25) | ((with_reducible refine gate_callee (f := 13) rfl ?_); refine goesL_ (some 39) rfl rfl Try.func13 (by kernel_rfl) rfl #[.pointer (some ⟨g175, 0, none⟩), .slice Ao25 y183.length co25] rfl (by (try simp only [List.map_toArray, List.map_cons, List.map_nil]); first | done | rfl | (simp only [List.length_drop, List.length_take]; rfl)) ?_; (with_reducible refine (payrollgen_Tape_Pick.calls g175 t173 t182 _ _ y183 t186 t187 w _ ?side1 ?side2 ?side3 ?side4 ?side5 A11.out).mono ?_); (case side1 => repeat (first | (with_reducible first | exact HI175.out | apply IsS53.alloc | apply IsS53.drewN | apply IsS53.drew | apply IsS53.set_1) | exact HI175.out)); (case side2 => repeat (first | (with_reducible first | exact HB.out | apply below_alloc | apply pw_below_drewN | apply below_drew1 | refine below_set ?_ (IsS53.ge HI175.out)) | exact HB.out)); (case side3 => repeat (first | exact (Kd.R_reads' HO185.out).2.2 | (with_reducible refine Kd.C_alloc ?_ _) | (with_reducible refine Kd.C_drewN ?_ _) | (with_reducible refine Kd.C_drew ?_))); (case side4 => exact (Kd.R_reads' HO185.out).2.1); (case side5 => exact far_slice (IsS53.own_ne HI175.out HO185.out (by decide))); rintro e w26 ⟨rfl, hi, hb, hk⟩; refine ⟨_, rfl, ?_⟩; have n0_ := Aside0.mk (Kd.R_mono (Kd.R_keep (IsS53.apart (show IsS53 w _ g175 t173 t182 from by repeat (first | (with_reducible first | exact HI175.out | apply IsS53.alloc | apply IsS53.drewN | apply IsS53.drew | apply IsS53.set_1) | exact HI175.out)) (by (with_reducible repeat (first | apply Kd.R_alloc | apply Kd.R_drewN | apply Kd.R_drew)); exact HO185.out) (by decide)) hk (fun _ h => h.2)) (fun _ h => h.1)); have n1_ := Aside0.mk (hb); have n2_ := Aside0.mk (hi); clear HO185; clear HB; clear HI175; have HO185 := n0_; have HB := n1_; have HI175 := n2_; clear n0_ n1_ n2_; (try clear hb); (try clear hb2); (try clear hk); (try clear hi)) | ((with_reducible refine gate_callee (f := 14) rfl ?_); refine goesL_ (some 42) rfl rfl Try.func14 (by kernel_rfl) rfl #[.pointer (some ⟨g175, 0, none⟩), .int .i64 1000] rfl (by (try simp only [List.map_toArray, List.map_cons, List.map_nil]); first | done | rfl | (simp only [List.length_drop, List.length_take]; rfl)) ?_; (with_reducible refine (payrollgen_Tape_Next.calls g175 t173 t187 1000 t188 t189 w _ ?side1 ?side2 A12.out).mono ?_); (case side1 => repeat (first | (with_reducible first | exact HI175.out | apply IsS53.alloc | apply IsS53.drewN | apply IsS53.drew | apply IsS53.set_1) | exact HI175.out)); (case side2 => repeat (first | (with_reducible first | exact HB.out | apply below_alloc | apply pw_below_drewN | apply below_drew1 | refine below_set ?_ (IsS53.ge HI175.out)) | exact HB.out)); rintro e w27 ⟨rfl, hi, hb, hk⟩; refine ⟨_, rfl, ?_⟩; have n0_ := Aside0.mk (Kd.R_mono (Kd.R_keep (IsS53.apart (show IsS53 w _ g175 t173 t187 from by repeat (first | (with_reducible first | exact HI175.out | apply IsS53.alloc | apply IsS53.drewN | apply IsS53.drew | apply IsS53.set_1) | exact HI175.out)) (by (with_reducible repeat (first | apply Kd.R_alloc | apply Kd.R_drewN | apply Kd.R_drew)); exact HO185.out) (by decide)) hk (fun _ h => h.2)) (fun _ h => h.1)); have n1_ := Aside0.mk (hb); have n2_ := Aside0.mk (hi); clear HO185; clear HB; clear HI175; have HO185 := n0_; have HB := n1_; have HI175 := n2_; clear n0_ n1_ n2_; (try clear hb); (try clear hb2); (try clear hk); (try clear hi)) | ((with_reducible refine gate_dst (N := 43) rfl ?_); refine Kd.R_lit (Kd.int .i64) _ 3 ?hg (N := 43) ?hd (xs := ([t188, 1000000, 0] : List Int)) (inner := [.int .i64 t188, .int .i64 1000000, .int .i64 0]) (ok := fun _ => True) (okp := fun _ => True) ?hr ?hp (fun _ hk => hk) trivial (Below.refl _ _) (Nat.le_refl _) (by simp) ?_; (case hd => rfl); (case hg => rfl); (case hr => first | (go_simp; done) | (go_simp; rfl)); (case hp => exact (Reps.one (show Kd.M (Kd.int .i64) _ _ _ t188 [.int .i64 t188] from rfl) (Reps.one (show Kd.M (Kd.int .i64) _ _ _ 1000000 [.int .i64 1000000] from rfl) (Reps.one (show Kd.M (Kd.int .i64) _ _ _ 0 [.int .i64 0] from rfl) (Reps.none _ _))))); intro v191 w28 ho29 hb hg_ hnew_; clear hg_ hnew_; (first | rw [← Ny190.out] at ho29 | (simp only [Int.reduceToNat] at ho29; rw [← Ny190.out] at ho29)); have n0_ := Aside0.mk (Kd.R_elder' (by (with_reducible repeat (first | apply Kd.R_alloc | apply Kd.R_drewN | apply Kd.R_drew)); exact HO185.out) (Kd.R_base ho29) hb); have n1_ := Aside0.mk (Kd.R_lower (Kd.R_new' ho29 (Kd.R_lt (by (with_reducible repeat (first | apply Kd.R_alloc | apply Kd.R_drewN | apply Kd.R_drew)); exact HO185.out))) (below_size (by repeat (first | (with_reducible first | exact HB.out | apply below_alloc | apply pw_below_drewN | apply below_drew1 | refine below_set ?_ (IsS53.ge HI175.out)) | exact HB.out)))); have n2_ := Aside0.mk (IsS53.below (by repeat (first | (with_reducible first | exact HI175.out | apply IsS53.alloc | apply IsS53.drewN | apply IsS53.drew | apply IsS53.set_1) | exact HI175.out)) hb); have n3_ := Aside0.mk (below_step (by repeat (first | (with_reducible first | exact HB.out | apply below_alloc | apply pw_below_drewN | apply below_drew1 | refine below_set ?_ (IsS53.ge HI175.out)) | exact HB.out)) hb); clear HO185; clear HI175; clear HB; have HO185 := n0_; have HO192 := n1_; have HI175 := n2_; have HB := n3_; clear n0_ n1_ n2_ n3_; clear hb ho29; obtain ⟨Ao30, co30, eo30⟩ := Kd.R_slice HO192.out; subst eo30) | ((with_reducible refine gate_callee (f := 13) rfl ?_); refine goesL_ (some 44) rfl rfl Try.func13 (by kernel_rfl) rfl #[.pointer (some ⟨g175, 0, none⟩), .slice Ao30 y190.length co30] rfl (by (try simp only [List.map_toArray, List.map_cons, List.map_nil]); first | done | rfl | (simp only [List.length_drop, List.length_take]; rfl)) ?_; (with_reducible refine (payrollgen_Tape_Pick.calls g175 t173 t189 _ _ y190 t193 t194 w _ ?side1 ?side2 ?side3 ?side4 ?side5 A13.out).mono ?_); (case side1 => repeat (first | (with_reducible first | exact HI175.out | apply IsS53.alloc | apply IsS53.drewN | apply IsS53.drew | apply IsS53.set_1) | exact HI175.out)); (case side2 => repeat (first | (with_reducible first | exact HB.out | apply below_alloc | apply pw_below_drewN | apply below_drew1 | refine below_set ?_ (IsS53.ge HI175.out)) | exact HB.out)); (case side3 => repeat (first | exact (Kd.R_reads' HO192.out).2.2 | (with_reducible refine Kd.C_alloc ?_ _) | (with_reducible refine Kd.C_drewN ?_ _) | (with_reducible refine Kd.C_drew ?_))); (case side4 => exact (Kd.R_reads' HO192.out).2.1); (case side5 => exact far_slice (IsS53.own_ne HI175.out HO192.out (by decide))); rintro e w31 ⟨rfl, hi, hb, hk⟩; refine ⟨_, rfl, ?_⟩; have n0_ := Aside0.mk (Kd.R_mono (Kd.R_keep (IsS53.apart (show IsS53 w _ g175 t173 t189 from by repeat (first | (with_reducible first | exact HI175.out | apply IsS53.alloc | apply IsS53.drewN | apply IsS53.drew | apply IsS53.set_1) | exact HI175.out)) (by (with_reducible repeat (first | apply Kd.R_alloc | apply Kd.R_drewN | apply Kd.R_drew)); exact HO185.out) (by decide)) hk (fun _ h => h.2)) (fun _ h => h.1)); have n1_ := Aside0.mk (Kd.R_mono (Kd.R_keep (IsS53.apart (show IsS53 w _ g175 t173 t189 from by repeat (first | (with_reducible first | exact HI175.out | apply IsS53.alloc | apply IsS53.drewN | apply IsS53.drew | apply IsS53.set_1) | exact HI175.out)) (by (with_reducible repeat (first | apply Kd.R_alloc | apply Kd.R_drewN | apply Kd.R_drew)); exact HO192.out) (by decide)) hk (fun _ h => h.2)) (fun _ h => h.1)); have n2_ := Aside0.mk (hb); have n3_ := Aside0.mk (hi); clear HO185; clear HO192; clear HB; clear HI175; have HO185 := n0_; have HO192 := n1_; have HB := n2_; have HI175 := n3_; clear n0_ n1_ n2_ n3_; (try clear hb); (try clear hb2); (try clear hk); (try clear hi)) | ((with_reducible refine gate_callee (f := 14) rfl ?_); refine goesL_ (some 47) rfl rfl Try.func14 (by kernel_rfl) rfl #[.pointer (some ⟨g175, 0, none⟩), .int .i64 1000] rfl (by (try simp only [List.map_toArray, List.map_cons, List.map_nil]); first | done | rfl | (simp only [List.length_drop, List.length_take]; rfl)) ?_; (with_reducible refine (payrollgen_Tape_Next.calls g175 t173 t194 1000 t195 t196 w _ ?side1 ?side2 A14.out).mono ?_); (case side1 => repeat (first | (with_reducible first | exact HI175.out | apply IsS53.alloc | apply IsS53.drewN | apply IsS53.drew | apply IsS53.set_1) | exact HI175.out)); (case side2 => repeat (first | (with_reducible first | exact HB.out | apply below_alloc | apply pw_below_drewN | apply below_drew1 | refine below_set ?_ (IsS53.ge HI175.out)) | exact HB.out)); rintro e w32 ⟨rfl, hi, hb, hk⟩; refine ⟨_, rfl, ?_⟩; have n0_ := Aside0.mk (Kd.R_mono (Kd.R_keep (IsS53.apart (show IsS53 w _ g175 t173 t194 from by repeat (first | (with_reducible first | exact HI175.out | apply IsS53.alloc | apply IsS53.drewN | apply IsS53.drew | apply IsS53.set_1) | exact HI175.out)) (by (with_reducible repeat (first | apply Kd.R_alloc | apply Kd.R_drewN | apply Kd.R_drew)); exact HO185.out) (by decide)) hk (fun _ h => h.2)) (fun _ h => h.1)); have n1_ := Aside0.mk (Kd.R_mono (Kd.R_keep (IsS53.apart (show IsS53 w _ g175 t173 t194 from by repeat (first | (with_reducible first | exact HI175.out | apply IsS53.alloc | apply IsS53.drewN | apply IsS53.drew | apply IsS53.set_1) | exact HI175.out)) (by (with_reducible repeat (first | apply Kd.R_alloc | apply Kd.R_drewN | apply Kd.R_drew)); exact HO192.out) (by decide)) hk (fun _ h => h.2)) (fun _ h => h.1)); have n2_ := Aside0.mk (hb); have n3_ := Aside0.mk (hi); clear HO185; clear HO192; clear HB; clear HI175; have HO185 := n0_; have HO192 := n1_; have HB := n2_; have HI175 := n3_; clear n0_ n1_ n2_ n3_; (try clear hb); (try clear hb2); (try clear hk); (try clear hi)) | ((with_reducible refine gate_dst (N := 49) rfl ?_); refine Kd.R_lit (Kd.int .i64) _ 3 ?hg (N := 49) ?hd (xs := ([wrap64 (1 + t195), 1000000, 1] : List Int)) (inner := [.int .i64 (wrap64 (1 + t195)), .int .i64 1000000, .int .i64 1]) (ok := fun _ => True) (okp := fun _ => True) ?hr ?hp (fun _ hk => hk) trivial (Below.refl _ _) (Nat.le_refl _) (by simp) ?_; (case hd => rfl); (case hg => rfl); (case hr => first | (go_simp; done) | (go_simp; rfl)); (case hp => exact (Reps.one (show Kd.M (Kd.int .i64) _ _ _ (wrap64 (1 + t195)) [.int .i64 (wrap64 (1 + t195))] from rfl) (Reps.one (show Kd.M (Kd.int .i64) _ _ _ 1000000 [.int .i64 1000000] from rfl) (Reps.one (show Kd.M (Kd.int .i64) _ _ _ 1 [.int .i64 1] from rfl) (Reps.none _ _))))); intro v198 w33 ho34 hb hg_ hnew_; clear hg_ hnew_; (first | rw [← Ny197.out] at ho34 | (simp only [Int.reduceToNat] at ho34; rw [← Ny197.out] at ho34)); have n0_ := Aside0.mk (Kd.R_elder' (by (with_reducible repeat (first | apply Kd.R_alloc | apply Kd.R_drewN | apply Kd.R_drew)); exact HO185.out) (Kd.R_base ho34) hb); have n1_ := Aside0.mk (Kd.R_elder' (by (with_reducible repeat (first | apply Kd.R_alloc | apply Kd.R_drewN | apply Kd.R_drew)); exact HO192.out) (Kd.R_base ho34) hb); have n2_ := Aside0.mk (Kd.R_lower (Kd.R_new' (Kd.R_new' ho34 (Kd.R_lt (by (with_reducible repeat (first | apply Kd.R_alloc | apply Kd.R_drewN | apply Kd.R_drew)); exact HO185.out))) (Kd.R_lt (by (with_reducible repeat (first | apply Kd.R_alloc | apply Kd.R_drewN | apply Kd.R_drew)); exact HO192.out))) (below_size (by repeat (first | (with_reducible first | exact HB.out | apply below_alloc | apply pw_below_drewN | apply below_drew1 | refine below_set ?_ (IsS53.ge HI175.out)) | exact HB.out)))); have n3_ := Aside0.mk (IsS53.below (by repeat (first | (with_reducible first | exact HI175.out | apply IsS53.alloc | apply IsS53.drewN | apply IsS53.drew | apply IsS53.set_1) | exact HI175.out)) hb); have n4_ := Aside0.mk (below_step (by repeat (first | (with_reducible first | exact HB.out | apply below_alloc | apply pw_below_drewN | apply below_drew1 | refine below_set ?_ (IsS53.ge HI175.out)) | exact HB.out)) hb); clear HO185; clear HO192; clear HI175; clear HB; have HO185 := n0_; have HO192 := n1_; have HO199 := n2_; have HI175 := n3_; have HB := n4_; clear n0_ n1_ n2_ n3_ n4_; clear hb ho34; obtain ⟨Ao35, co35, eo35⟩ := Kd.R_slice HO199.out; subst eo35) | ((with_reducible refine gate_callee (f := 13) rfl ?_); refine goesL_ (some 50) rfl rfl Try.func13 (by kernel_rfl) rfl #[.pointer (some ⟨g175, 0, none⟩), .slice Ao35 y197.length co35] rfl (by (try simp only [List.map_toArray, List.map_cons, List.map_nil]); first | done | rfl | (simp only [List.length_drop, List.length_take]; rfl)) ?_; (with_reducible refine (payrollgen_Tape_Pick.calls g175 t173 t196 _ _ y197 t200 t201 w _ ?side1 ?side2 ?side3 ?side4 ?side5 A15.out).mono ?_); (case side1 => repeat (first | (with_reducible first | exact HI175.out | apply IsS53.alloc | apply IsS53.drewN | apply IsS53.drew | apply IsS53.set_1) | exact HI175.out)); (case side2 => repeat (first | (with_reducible first | exact HB.out | apply below_alloc | apply pw_below_drewN | apply below_drew1 | refine below_set ?_ (IsS53.ge HI175.out)) | exact HB.out)); (case side3 => repeat (first | exact (Kd.R_reads' HO199.out).2.2 | (with_reducible refine Kd.C_alloc ?_ _) | (with_reducible refine Kd.C_drewN ?_ _) | (with_reducible refine Kd.C_drew ?_))); (case side4 => exact (Kd.R_reads' HO199.out).2.1); (case side5 => exact far_slice (IsS53.own_ne HI175.out HO199.out (by decide))); rintro e w36 ⟨rfl, hi, hb, hk⟩; refine ⟨_, rfl, ?_⟩; have n0_ := Aside0.mk (Kd.R_mono (Kd.R_keep (IsS53.apart (show IsS53 w _ g175 t173 t196 from by repeat (first | (with_reducible first | exact HI175.out | apply IsS53.alloc | apply IsS53.drewN | apply IsS53.drew | apply IsS53.set_1) | exact HI175.out)) (by (with_reducible repeat (first | apply Kd.R_alloc | apply Kd.R_drewN | apply Kd.R_drew)); exact HO185.out) (by decide)) hk (fun _ h => h.2)) (fun _ h => h.1)); have n1_ := Aside0.mk (Kd.R_mono (Kd.R_keep (IsS53.apart (show IsS53 w _ g175 t173 t196 from by repeat (first | (with_reducible first | exact HI175.out | apply IsS53.alloc | apply IsS53.drewN | apply IsS53.drew | apply IsS53.set_1) | exact HI175.out)) (by (with_reducible repeat (first | apply Kd.R_alloc | apply Kd.R_drewN | apply Kd.R_drew)); exact HO192.out) (by decide)) hk (fun _ h => h.2)) (fun _ h => h.1)); have n2_ := Aside0.mk (Kd.R_mono (Kd.R_keep (IsS53.apart (show IsS53 w _ g175 t173 t196 from by repeat (first | (with_reducible first | exact HI175.out | apply IsS53.alloc | apply IsS53.drewN | apply IsS53.drew | apply IsS53.set_1) | exact HI175.out)) (by (with_reducible repeat (first | apply Kd.R_alloc | apply Kd.R_drewN | apply Kd.R_drew)); exact HO199.out) (by decide)) hk (fun _ h => h.2)) (fun _ h => h.1)); have n3_ := Aside0.mk (hb); have n4_ := Aside0.mk (hi); clear HO185; clear HO192; clear HO199; clear HB; clear HI175; have HO185 := n0_; have HO192 := n1_; have HO199 := n2_; have HB := n3_; have HI175 := n4_; clear n0_ n1_ n2_ n3_ n4_; (try clear hb); (try clear hb2); (try clear hk); (try clear hi)) | ((with_reducible refine gate_dst (N := 52) rfl ?_); refine Kd.R_lit (Kd.int .i64) _ 3 ?hg (N := 52) ?hd (xs := ([1, 5, 100, 1000000] : List Int)) (inner := [.int .i64 1, .int .i64 5, .int .i64 100, .int .i64 1000000]) (ok := fun _ => True) (okp := fun _ => True) ?hr ?hp (fun _ hk => hk) trivial (Below.refl _ _) (Nat.le_refl _) (by simp) ?_; (case hd => rfl); (case hg => rfl); (case hr => first | (go_simp; done) | (go_simp; rfl)); (case hp => exact (Reps.one (show Kd.M (Kd.int .i64) _ _ _ 1 [.int .i64 1] from rfl) (Reps.one (show Kd.M (Kd.int .i64) _ _ _ 5 [.int .i64 5] from rfl) (Reps.one (show Kd.M (Kd.int .i64) _ _ _ 100 [.int .i64 100] from rfl) (Reps.one (show Kd.M (Kd.int .i64) _ _ _ 1000000 [.int .i64 1000000] from rfl) (Reps.none _ _)))))); intro v203 w37 ho38 hb hg_ hnew_; clear hg_ hnew_; (first | rw [← Ny202.out] at ho38 | (simp only [Int.reduceToNat] at ho38; rw [← Ny202.out] at ho38)); have n0_ := Aside0.mk (Kd.R_elder' (by (with_reducible repeat (first | apply Kd.R_alloc | apply Kd.R_drewN | apply Kd.R_drew)); exact HO185.out) (Kd.R_base ho38) hb); have n1_ := Aside0.mk (Kd.R_elder' (by (with_reducible repeat (first | apply Kd.R_alloc | apply Kd.R_drewN | apply Kd.R_drew)); exact HO192.out) (Kd.R_base ho38) hb); have n2_ := Aside0.mk (Kd.R_elder' (by (with_reducible repeat (first | apply Kd.R_alloc | apply Kd.R_drewN | apply Kd.R_drew)); exact HO199.out) (Kd.R_base ho38) hb); have n3_ := Aside0.mk (Kd.R_lower (Kd.R_new' (Kd.R_new' (Kd.R_new' ho38 (Kd.R_lt (by (with_reducible repeat (first | apply Kd.R_alloc | apply Kd.R_drewN | apply Kd.R_drew)); exact HO185.out))) (Kd.R_lt (by (with_reducible repeat (first | apply Kd.R_alloc | apply Kd.R_drewN | apply Kd.R_drew)); exact HO192.out))) (Kd.R_lt (by (with_reducible repeat (first | apply Kd.R_alloc | apply Kd.R_drewN | apply Kd.R_drew)); exact HO199.out))) (below_size (by repeat (first | (with_reducible first | exact HB.out | apply below_alloc | apply pw_below_drewN | apply below_drew1 | refine below_set ?_ (IsS53.ge HI175.out)) | exact HB.out)))); have n4_ := Aside0.mk (IsS53.below (by repeat (first | (with_reducible first | exact HI175.out | apply IsS53.alloc | apply IsS53.drewN | apply IsS53.drew | apply IsS53.set_1) | exact HI175.out)) hb); have n5_ := Aside0.mk (below_step (by repeat (first | (with_reducible first | exact HB.out | apply below_alloc | apply pw_below_drewN | apply below_drew1 | refine below_set ?_ (IsS53.ge HI175.out)) | exact HB.out)) hb); clear HO185; clear HO192; clear HO199; clear HI175; clear HB; have HO185 := n0_; have HO192 := n1_; have HO199 := n2_; have HO204 := n3_; have HI175 := n4_; have HB := n5_; clear n0_ n1_ n2_ n3_ n4_ n5_; clear hb ho38; obtain ⟨Ao39, co39, eo39⟩ := Kd.R_slice HO204.out; subst eo39) | ((with_reducible refine gate_callee (f := 13) rfl ?_); refine goesL_ (some 53) rfl rfl Try.func13 (by kernel_rfl) rfl #[.pointer (some ⟨g175, 0, none⟩), .slice Ao39 y202.length co39] rfl (by (try simp only [List.map_toArray, List.map_cons, List.map_nil]); first | done | rfl | (simp only [List.length_drop, List.length_take]; rfl)) ?_; (with_reducible refine (payrollgen_Tape_Pick.calls g175 t173 t201 _ _ y202 t205 t206 w _ ?side1 ?side2 ?side3 ?side4 ?side5 A16.out).mono ?_); (case side1 => repeat (first | (with_reducible first | exact HI175.out | apply IsS53.alloc | apply IsS53.drewN | apply IsS53.drew | apply IsS53.set_1) | exact HI175.out)); (case side2 => repeat (first | (with_reducible first | exact HB.out | apply below_alloc | apply pw_below_drewN | apply below_drew1 | refine below_set ?_ (IsS53.ge HI175.out)) | exact HB.out)); (case side3 => repeat (first | exact (Kd.R_reads' HO204.out).2.2 | (with_reducible refine Kd.C_alloc ?_ _) | (with_reducible refine Kd.C_drewN ?_ _) | (with_reducible refine Kd.C_drew ?_))); (case side4 => exact (Kd.R_reads' HO204.out).2.1); (case side5 => exact far_slice (IsS53.own_ne HI175.out HO204.out (by decide))); rintro e w40 ⟨rfl, hi, hb, hk⟩; refine ⟨_, rfl, ?_⟩; have n0_ := Aside0.mk (Kd.R_mono (Kd.R_keep (IsS53.apart (show IsS53 w _ g175 t173 t201 from by repeat (first | (with_reducible first | exact HI175.out | apply IsS53.alloc | apply IsS53.drewN | apply IsS53.drew | apply IsS53.set_1) | exact HI175.out)) (by (with_reducible repeat (first | apply Kd.R_alloc | apply Kd.R_drewN | apply Kd.R_drew)); exact HO185.out) (by decide)) hk (fun _ h => h.2)) (fun _ h => h.1)); have n1_ := Aside0.mk (Kd.R_mono (Kd.R_keep (IsS53.apart (show IsS53 w _ g175 t173 t201 from by repeat (first | (with_reducible first | exact HI175.out | apply IsS53.alloc | apply IsS53.drewN | apply IsS53.drew | apply IsS53.set_1) | exact HI175.out)) (by (with_reducible repeat (first | apply Kd.R_alloc | apply Kd.R_drewN | apply Kd.R_drew)); exact HO192.out) (by decide)) hk (fun _ h => h.2)) (fun _ h => h.1)); have n2_ := Aside0.mk (Kd.R_mono (Kd.R_keep (IsS53.apart (show IsS53 w _ g175 t173 t201 from by repeat (first | (with_reducible first | exact HI175.out | apply IsS53.alloc | apply IsS53.drewN | apply IsS53.drew | apply IsS53.set_1) | exact HI175.out)) (by (with_reducible repeat (first | apply Kd.R_alloc | apply Kd.R_drewN | apply Kd.R_drew)); exact HO199.out) (by decide)) hk (fun _ h => h.2)) (fun _ h => h.1)); have n3_ := Aside0.mk (Kd.R_mono (Kd.R_keep (IsS53.apart (show IsS53 w _ g175 t173 t201 from by repeat (first | (with_reducible first | exact HI175.out | apply IsS53.alloc | apply IsS53.drewN | apply IsS53.drew | apply IsS53.set_1) | exact HI175.out)) (by (with_reducible repeat (first | apply Kd.R_alloc | apply Kd.R_drewN | apply Kd.R_drew)); exact HO204.out) (by decide)) hk (fun _ h => h.2)) (fun _ h => h.1)); have n4_ := Aside0.mk (hb); have n5_ := Aside0.mk (hi); clear HO185; clear HO192; clear HO199; clear HO204; clear HB; clear HI175; have HO185 := n0_; have HO192 := n1_; have HO199 := n2_; have HO204 := n3_; have HB := n4_; have HI175 := n5_; clear n0_ n1_ n2_ n3_ n4_ n5_; (try clear hb); (try clear hb2); (try clear hk); (try clear hi)) | ((with_reducible refine gate_callee (f := 14) rfl ?_); refine goesL_ (some 55) rfl rfl Try.func14 (by kernel_rfl) rfl #[.pointer (some ⟨g175, 0, none⟩), .int .i64 7] rfl (by (try simp only [List.map_toArray, List.map_cons, List.map_nil]); first | done | rfl | (simp only [List.length_drop, List.length_take]; rfl)) ?_; (with_reducible refine (payrollgen_Tape_Next.calls g175 t173 t206 7 t207 t208 w _ ?side1 ?side2 A17.out).mono ?_); (case side1 => repeat (first | (with_reducible first | exact HI175.out | apply IsS53.alloc | apply IsS53.drewN | apply IsS53.drew | apply IsS53.set_1) | exact HI175.out)); (case side2 => repeat (first | (with_reducible first | exact HB.out | apply below_alloc | apply pw_below_drewN | apply below_drew1 | refine below_set ?_ (IsS53.ge HI175.out)) | exact HB.out)); rintro e w41 ⟨rfl, hi, hb, hk⟩; refine ⟨_, rfl, ?_⟩; have n0_ := Aside0.mk (Kd.R_mono (Kd.R_keep (IsS53.apart (show IsS53 w _ g175 t173 t206 from by repeat (first | (with_reducible first | exact HI175.out | apply IsS53.alloc | apply IsS53.drewN | apply IsS53.drew | apply IsS53.set_1) | exact HI175.out)) (by (with_reducible repeat (first | apply Kd.R_alloc | apply Kd.R_drewN | apply Kd.R_drew)); exact HO185.out) (by decide)) hk (fun _ h => h.2)) (fun _ h => h.1)); have n1_ := Aside0.mk (Kd.R_mono (Kd.R_keep (IsS53.apart (show IsS53 w _ g175 t173 t206 from by repeat (first | (with_reducible first | exact HI175.out | apply IsS53.alloc | apply IsS53.drewN | apply IsS53.drew | apply IsS53.set_1) | exact HI175.out)) (by (with_reducible repeat (first | apply Kd.R_alloc | apply Kd.R_drewN | apply Kd.R_drew)); exact HO192.out) (by decide)) hk (fun _ h => h.2)) (fun _ h => h.1)); have n2_ := Aside0.mk (Kd.R_mono (Kd.R_keep (IsS53.apart (show IsS53 w _ g175 t173 t206 from by repeat (first | (with_reducible first | exact HI175.out | apply IsS53.alloc | apply IsS53.drewN | apply IsS53.drew | apply IsS53.set_1) | exact HI175.out)) (by (with_reducible repeat (first | apply Kd.R_alloc | apply Kd.R_drewN | apply Kd.R_drew)); exact HO199.out) (by decide)) hk (fun _ h => h.2)) (fun _ h => h.1)); have n3_ := Aside0.mk (Kd.R_mono (Kd.R_keep (IsS53.apart (show IsS53 w _ g175 t173 t206 from by repeat (first | (with_reducible first | exact HI175.out | apply IsS53.alloc | apply IsS53.drewN | apply IsS53.drew | apply IsS53.set_1) | exact HI175.out)) (by (with_reducible repeat (first | apply Kd.R_alloc | apply Kd.R_drewN | apply Kd.R_drew)); exact HO204.out) (by decide)) hk (fun _ h => h.2)) (fun _ h => h.1)); have n4_ := Aside0.mk (hb); have n5_ := Aside0.mk (hi); clear HO185; clear HO192; clear HO199; clear HO204; clear HB; clear HI175; have HO185 := n0_; have HO192 := n1_; have HO199 := n2_; have HO204 := n3_; have HB := n4_; have HI175 := n5_; clear n0_ n1_ n2_ n3_ n4_ n5_; (try clear hb); (try clear hb2); (try clear hk); (try clear hi)) | ((with_reducible refine gate_callee (f := 18) rfl ?_); refine goesL_ (some 62) rfl rfl Try.func18 (by kernel_rfl) rfl #[.int .i64 t186, .int .i64 t193, .int .i64 t200, .int .i64 t205, .int .i64 t207] rfl (by (try simp only [List.map_toArray, List.map_cons, List.map_nil]); first | done | rfl | (simp only [List.length_drop, List.length_take]; rfl)) ?_; (with_reducible refine (rounding_Part.calls k1 t186 t193 t200 t205 t207 t209 t210 _ A18.out).mono ?_); rintro e w' ⟨rfl, ⟨nd, rfl⟩⟩; refine ⟨_, rfl, ?_⟩) | ((with_reducible refine gate_callee (f := 19) rfl ?_); refine goesL_ (some 71) rfl rfl Try.func19 (by kernel_rfl) rfl #[.int .i64 t186, .int .i64 t193, .int .i64 t200, .int .i64 t205, .int .i64 t207] rfl (by (try simp only [List.map_toArray, List.map_cons, List.map_nil]); first | done | rfl | (simp only [List.length_drop, List.length_take]; rfl)) ?_; (with_reducible refine (payrollref2_Part.calls k1 t186 t193 t200 t205 t207 t211 t212 _ A19.out).mono ?_); rintro e w' ⟨rfl, ⟨nd, rfl⟩⟩; refine ⟨_, rfl, ?_⟩))
            go_roundg k1
            case measure => have := HK1.out; omega
            case rel => exact ⟨(wrap64 (x14_1 + 1)), (t208), (by first | rfl | (simp; done) | (simp [*]; done)), H', ⟨by have := HK1.out; omega⟩, ⟨by repeat (first | (with_reducible first | exact HI175.out | apply IsS53.alloc | apply IsS53.drewN | apply IsS53.drew | apply IsS53.set_1) | exact HI175.out)⟩, ⟨by repeat (first | (with_reducible first | exact HB.out | apply below_alloc | apply pw_below_drewN | apply below_drew1 | refine below_set ?_ (IsS53.ge HI175.out)) | exact HB.out)⟩⟩
          · rw [if_neg c21] at H
            have c21b0 : (t210 == t212) = false := beq_eq_false_iff_ne.mpr c21
            have c21b1 : (t210 != t212) = true := bne_iff_ne.mpr c21
            obtain rfl := Option.some.inj H
            go_wp2_with (first | ((with_reducible refine gate_callee (f := 14) rfl ?_); refine goesL_ (some 36) rfl rfl Try.func14 (by kernel_rfl) rfl #[.pointer (some ⟨g175, 0, none⟩), .int .i64 200001] rfl (by (try simp only [List.map_toArray, List.map_cons, List.map_nil]); first | done | rfl | (simp only [List.length_drop, List.length_take]; rfl)) ?_; (with_reducible refine (payrollgen_Tape_Next.calls g175 t173 x176001_1 200001 t181 t182 w _ ?side1 ?side2 A10.out).mono ?_); (case side1 => repeat (first | (with_reducible first | exact HI175.out | apply IsS53.alloc | apply IsS53.drewN | apply IsS53.drew | apply IsS53.set_1) | exact HI175.out)); (case side2 => repeat (first | (with_reducible first | exact HB.out | apply below_alloc | apply pw_below_drewN | apply below_drew1 | refine below_set ?_ (IsS53.ge HI175.out)) | exact HB.out)); rintro e w42 ⟨rfl, hi, hb, hk⟩; refine ⟨_, rfl, ?_⟩; have n0_ := Aside0.mk (hb); have n1_ := Aside0.mk (hi); clear HB; clear HI175; have HB := n0_; have HI175 := n1_; clear n0_ n1_; (try clear hb); (try clear hb2); (try clear hk); (try clear hi)) | ((with_reducible refine gate_dst (N := 38) rfl ?_); refine Kd.R_lit (Kd.int .i64) _ 3 ?hg (N := 38) ?hd (xs := ([wrap64 (t181 - 100000), 1000000000000, (-1000000000000), (-5)] : List Int)) (inner := [.int .i64 (wrap64 (t181 - 100000)), .int .i64 1000000000000, .int .i64 (-1000000000000), .int .i64 (-5)]) (ok := fun _ => True) (okp := fun _ => True) ?hr ?hp (fun _ hk => hk) trivial (Below.refl _ _) (Nat.le_refl _) (by simp) ?_; (case hd => rfl); (case hg => rfl); (case hr => first | (go_simp; done) | (go_simp; rfl)); (case hp => exact (Reps.one (show Kd.M (Kd.int .i64) _ _ _ (wrap64 (t181 - 100000)) [.int .i64 (wrap64 (t181 - 100000))] from rfl) (Reps.one (show Kd.M (Kd.int .i64) _ _ _ 1000000000000 [.int .i64 1000000000000] from rfl) (Reps.one (show Kd.M (Kd.int .i64) _ _ _ (-1000000000000) [.int .i64 (-1000000000000)] from rfl) (Reps.one (show Kd.M (Kd.int .i64) _ _ _ (-5) [.int .i64 (-5)] from rfl) (Reps.none _ _)))))); intro v184 w43 ho44 hb hg_ hnew_; clear hg_ hnew_; (first | rw [← Ny183.out] at ho44 | (simp only [Int.reduceToNat] at ho44; rw [← Ny183.out] at ho44)); have n0_ := Aside0.mk (Kd.R_lower ho44 (below_size (by repeat (first | (with_reducible first | exact HB.out | apply below_alloc | apply pw_below_drewN | apply below_drew1 | refine below_set ?_ (IsS53.ge HI175.out)) | exact HB.out)))); have n1_ := Aside0.mk (IsS53.below (by repeat (first | (with_reducible first | exact HI175.out | apply IsS53.alloc | apply IsS53.drewN | apply IsS53.drew | apply IsS53.set_1) | exact HI175.out)) hb); have n2_ := Aside0.mk (below_step (by repeat (first | (with_reducible first | exact HB.out | apply below_alloc | apply pw_below_drewN | apply below_drew1 | refine below_set ?_ (IsS53.ge HI175.out)) | exact HB.out)) hb); clear HI175; clear HB; have HO185 := n0_; have HI175 := n1_; have HB := n2_; clear n0_ n1_ n2_; clear hb ho44; obtain ⟨Ao45, co45, eo45⟩ := Kd.R_slice HO185.out; subst eo45) | ((with_reducible refine gate_callee (f := 13) rfl ?_); refine goesL_ (some 39) rfl rfl Try.func13 (by kernel_rfl) rfl #[.pointer (some ⟨g175, 0, none⟩), .slice Ao45 y183.length co45] rfl (by (try simp only [List.map_toArray, List.map_cons, List.map_nil]); first | done | rfl | (simp only [List.length_drop, List.length_take]; rfl)) ?_; (with_reducible refine (payrollgen_Tape_Pick.calls g175 t173 t182 _ _ y183 t186 t187 w _ ?side1 ?side2 ?side3 ?side4 ?side5 A11.out).mono ?_); (case side1 => repeat (first | (with_reducible first | exact HI175.out | apply IsS53.alloc | apply IsS53.drewN | apply IsS53.drew | apply IsS53.set_1) | exact HI175.out)); (case side2 => repeat (first | (with_reducible first | exact HB.out | apply below_alloc | apply pw_below_drewN | apply below_drew1 | refine below_set ?_ (IsS53.ge HI175.out)) | exact HB.out)); (case side3 => repeat (first | exact (Kd.R_reads' HO185.out).2.2 | (with_reducible refine Kd.C_alloc ?_ _) | (with_reducible refine Kd.C_drewN ?_ _) | (with_reducible refine Kd.C_drew ?_))); (case side4 => exact (Kd.R_reads' HO185.out).2.1); (case side5 => exact far_slice (IsS53.own_ne HI175.out HO185.out (by decide))); rintro e w46 ⟨rfl, hi, hb, hk⟩; refine ⟨_, rfl, ?_⟩; have n0_ := Aside0.mk (Kd.R_mono (Kd.R_keep (IsS53.apart (show IsS53 w _ g175 t173 t182 from by repeat (first | (with_reducible first | exact HI175.out | apply IsS53.alloc | apply IsS53.drewN | apply IsS53.drew | apply IsS53.set_1) | exact HI175.out)) (by (with_reducible repeat (first | apply Kd.R_alloc | apply Kd.R_drewN | apply Kd.R_drew)); exact HO185.out) (by decide)) hk (fun _ h => h.2)) (fun _ h => h.1)); have n1_ := Aside0.mk (hb); have n2_ := Aside0.mk (hi); clear HO185; clear HB; clear HI175; have HO185 := n0_; have HB := n1_; have HI175 := n2_; clear n0_ n1_ n2_; (try clear hb); (try clear hb2); (try clear hk); (try clear hi)) | ((with_reducible refine gate_callee (f := 14) rfl ?_); refine goesL_ (some 42) rfl rfl Try.func14 (by kernel_rfl) rfl #[.pointer (some ⟨g175, 0, none⟩), .int .i64 1000] rfl (by (try simp only [List.map_toArray, List.map_cons, List.map_nil]); first | done | rfl | (simp only [List.length_drop, List.length_take]; rfl)) ?_; (with_reducible refine (payrollgen_Tape_Next.calls g175 t173 t187 1000 t188 t189 w _ ?side1 ?side2 A12.out).mono ?_); (case side1 => repeat (first | (with_reducible first | exact HI175.out | apply IsS53.alloc | apply IsS53.drewN | apply IsS53.drew | apply IsS53.set_1) | exact HI175.out)); (case side2 => repeat (first | (with_reducible first | exact HB.out | apply below_alloc | apply pw_below_drewN | apply below_drew1 | refine below_set ?_ (IsS53.ge HI175.out)) | exact HB.out)); rintro e w47 ⟨rfl, hi, hb, hk⟩; refine ⟨_, rfl, ?_⟩; have n0_ := Aside0.mk (Kd.R_mono (Kd.R_keep (IsS53.apart (show IsS53 w _ g175 t173 t187 from by repeat (first | (with_reducible first | exact HI175.out | apply IsS53.alloc | apply IsS53.drewN | apply IsS53.drew | apply IsS53.set_1) | exact HI175.out)) (by (with_reducible repeat (first | apply Kd.R_alloc | apply Kd.R_drewN | apply Kd.R_drew)); exact HO185.out) (by decide)) hk (fun _ h => h.2)) (fun _ h => h.1)); have n1_ := Aside0.mk (hb); have n2_ := Aside0.mk (hi); clear HO185; clear HB; clear HI175; have HO185 := n0_; have HB := n1_; have HI175 := n2_; clear n0_ n1_ n2_; (try clear hb); (try clear hb2); (try clear hk); (try clear hi)) | ((with_reducible refine gate_dst (N := 43) rfl ?_); refine Kd.R_lit (Kd.int .i64) _ 3 ?hg (N := 43) ?hd (xs := ([t188, 1000000, 0] : List Int)) (inner := [.int .i64 t188, .int .i64 1000000, .int .i64 0]) (ok := fun _ => True) (okp := fun _ => True) ?hr ?hp (fun _ hk => hk) trivial (Below.refl _ _) (Nat.le_refl _) (by simp) ?_; (case hd => rfl); (case hg => rfl); (case hr => first | (go_simp; done) | (go_simp; rfl)); (case hp => exact (Reps.one (show Kd.M (Kd.int .i64) _ _ _ t188 [.int .i64 t188] from rfl) (Reps.one (show Kd.M (Kd.int .i64) _ _ _ 1000000 [.int .i64 1000000] from rfl) (Reps.one (show Kd.M (Kd.int .i64) _ _ _ 0 [.int .i64 0] from rfl) (Reps.none _ _))))); intro v191 w48 ho49 hb hg_ hnew_; clear hg_ hnew_; (first | rw [← Ny190.out] at ho49 | (simp only [Int.reduceToNat] at ho49; rw [← Ny190.out] at ho49)); have n0_ := Aside0.mk (Kd.R_elder' (by (with_reducible repeat (first | apply Kd.R_alloc | apply Kd.R_drewN | apply Kd.R_drew)); exact HO185.out) (Kd.R_base ho49) hb); have n1_ := Aside0.mk (Kd.R_lower (Kd.R_new' ho49 (Kd.R_lt (by (with_reducible repeat (first | apply Kd.R_alloc | apply Kd.R_drewN | apply Kd.R_drew)); exact HO185.out))) (below_size (by repeat (first | (with_reducible first | exact HB.out | apply below_alloc | apply pw_below_drewN | apply below_drew1 | refine below_set ?_ (IsS53.ge HI175.out)) | exact HB.out)))); have n2_ := Aside0.mk (IsS53.below (by repeat (first | (with_reducible first | exact HI175.out | apply IsS53.alloc | apply IsS53.drewN | apply IsS53.drew | apply IsS53.set_1) | exact HI175.out)) hb); have n3_ := Aside0.mk (below_step (by repeat (first | (with_reducible first | exact HB.out | apply below_alloc | apply pw_below_drewN | apply below_drew1 | refine below_set ?_ (IsS53.ge HI175.out)) | exact HB.out)) hb); clear HO185; clear HI175; clear HB; have HO185 := n0_; have HO192 := n1_; have HI175 := n2_; have HB := n3_; clear n0_ n1_ n2_ n3_; clear hb ho49; obtain ⟨Ao50, co50, eo50⟩ := Kd.R_slice HO192.out; subst eo50) | ((with_reducible refine gate_callee (f := 13) rfl ?_); refine goesL_ (some 44) rfl rfl Try.func13 (by kernel_rfl) rfl #[.pointer (some ⟨g175, 0, none⟩), .slice Ao50 y190.length co50] rfl (by (try simp only [List.map_toArray, List.map_cons, List.map_nil]); first | done | rfl | (simp only [List.length_drop, List.length_take]; rfl)) ?_; (with_reducible refine (payrollgen_Tape_Pick.calls g175 t173 t189 _ _ y190 t193 t194 w _ ?side1 ?side2 ?side3 ?side4 ?side5 A13.out).mono ?_); (case side1 => repeat (first | (with_reducible first | exact HI175.out | apply IsS53.alloc | apply IsS53.drewN | apply IsS53.drew | apply IsS53.set_1) | exact HI175.out)); (case side2 => repeat (first | (with_reducible first | exact HB.out | apply below_alloc | apply pw_below_drewN | apply below_drew1 | refine below_set ?_ (IsS53.ge HI175.out)) | exact HB.out)); (case side3 => repeat (first | exact (Kd.R_reads' HO192.out).2.2 | (with_reducible refine Kd.C_alloc ?_ _) | (with_reducible refine Kd.C_drewN ?_ _) | (with_reducible refine Kd.C_drew ?_))); (case side4 => exact (Kd.R_reads' HO192.out).2.1); (case side5 => exact far_slice (IsS53.own_ne HI175.out HO192.out (by decide))); rintro e w51 ⟨rfl, hi, hb, hk⟩; refine ⟨_, rfl, ?_⟩; have n0_ := Aside0.mk (Kd.R_mono (Kd.R_keep (IsS53.apart (show IsS53 w _ g175 t173 t189 from by repeat (first | (with_reducible first | exact HI175.out | apply IsS53.alloc | apply IsS53.drewN | apply IsS53.drew | apply IsS53.set_1) | exact HI175.out)) (by (with_reducible repeat (first | apply Kd.R_alloc | apply Kd.R_drewN | apply Kd.R_drew)); exact HO185.out) (by decide)) hk (fun _ h => h.2)) (fun _ h => h.1)); have n1_ := Aside0.mk (Kd.R_mono (Kd.R_keep (IsS53.apart (show IsS53 w _ g175 t173 t189 from by repeat (first | (with_reducible first | exact HI175.out | apply IsS53.alloc | apply IsS53.drewN | apply IsS53.drew | apply IsS53.set_1) | exact HI175.out)) (by (with_reducible repeat (first | apply Kd.R_alloc | apply Kd.R_drewN | apply Kd.R_drew)); exact HO192.out) (by decide)) hk (fun _ h => h.2)) (fun _ h => h.1)); have n2_ := Aside0.mk (hb); have n3_ := Aside0.mk (hi); clear HO185; clear HO192; clear HB; clear HI175; have HO185 := n0_; have HO192 := n1_; have HB := n2_; have HI175 := n3_; clear n0_ n1_ n2_ n3_; (try clear hb); (try clear hb2); (try clear hk); (try clear hi)) | ((with_reducible refine gate_callee (f := 14) rfl ?_); refine goesL_ (some 47) rfl rfl Try.func14 (by kernel_rfl) rfl #[.pointer (some ⟨g175, 0, none⟩), .int .i64 1000] rfl (by (try simp only [List.map_toArray, List.map_cons, List.map_nil]); first | done | rfl | (simp only [List.length_drop, List.length_take]; rfl)) ?_; (with_reducible refine (payrollgen_Tape_Next.calls g175 t173 t194 1000 t195 t196 w _ ?side1 ?side2 A14.out).mono ?_); (case side1 => repeat (first | (with_reducible first | exact HI175.out | apply IsS53.alloc | apply IsS53.drewN | apply IsS53.drew | apply IsS53.set_1) | exact HI175.out)); (case side2 => repeat (first | (with_reducible first | exact HB.out | apply below_alloc | apply pw_below_drewN | apply below_drew1 | refine below_set ?_ (IsS53.ge HI175.out)) | exact HB.out)); rintro e w52 ⟨rfl, hi, hb, hk⟩; refine ⟨_, rfl, ?_⟩; have n0_ := Aside0.mk (Kd.R_mono (Kd.R_keep (IsS53.apart (show IsS53 w _ g175 t173 t194 from by repeat (first | (with_reducible first | exact HI175.out | apply IsS53.alloc | apply IsS53.drewN | apply IsS53.drew | apply IsS53.set_1) | exact HI175.out)) (by (with_reducible repeat (first | apply Kd.R_alloc | apply Kd.R_drewN | apply Kd.R_drew)); exact HO185.out) (by decide)) hk (fun _ h => h.2)) (fun _ h => h.1)); have n1_ := Aside0.mk (Kd.R_mono (Kd.R_keep (IsS53.apart (show IsS53 w _ g175 t173 t194 from by repeat (first | (with_reducible first | exact HI175.out | apply IsS53.alloc | apply IsS53.drewN | apply IsS53.drew | apply IsS53.set_1) | exact HI175.out)) (by (with_reducible repeat (first | apply Kd.R_alloc | apply Kd.R_drewN | apply Kd.R_drew)); exact HO192.out) (by decide)) hk (fun _ h => h.2)) (fun _ h => h.1)); have n2_ := Aside0.mk (hb); have n3_ := Aside0.mk (hi); clear HO185; clear HO192; clear HB; clear HI175; have HO185 := n0_; have HO192 := n1_; have HB := n2_; have HI175 := n3_; clear n0_ n1_ n2_ n3_; (try clear hb); (try clear hb2); (try clear hk); (try clear hi)) | ((with_reducible refine gate_dst (N := 49) rfl ?_); refine Kd.R_lit (Kd.int .i64) _ 3 ?hg (N := 49) ?hd (xs := ([wrap64 (1 + t195), 1000000, 1] : List Int)) (inner := [.int .i64 (wrap64 (1 + t195)), .int .i64 1000000, .int .i64 1]) (ok := fun _ => True) (okp := fun _ => True) ?hr ?hp (fun _ hk => hk) trivial (Below.refl _ _) (Nat.le_refl _) (by simp) ?_; (case hd => rfl); (case hg => rfl); (case hr => first | (go_simp; done) | (go_simp; rfl)); (case hp => exact (Reps.one (show Kd.M (Kd.int .i64) _ _ _ (wrap64 (1 + t195)) [.int .i64 (wrap64 (1 + t195))] from rfl) (Reps.one (show Kd.M (Kd.int .i64) _ _ _ 1000000 [.int .i64 1000000] from rfl) (Reps.one (show Kd.M (Kd.int .i64) _ _ _ 1 [.int .i64 1] from rfl) (Reps.none _ _))))); intro v198 w53 ho54 hb hg_ hnew_; clear hg_ hnew_; (first | rw [← Ny197.out] at ho54 | (simp only [Int.reduceToNat] at ho54; rw [← Ny197.out] at ho54)); have n0_ := Aside0.mk (Kd.R_elder' (by (with_reducible repeat (first | apply Kd.R_alloc | apply Kd.R_drewN | apply Kd.R_drew)); exact HO185.out) (Kd.R_base ho54) hb); have n1_ := Aside0.mk (Kd.R_elder' (by (with_reducible repeat (first | apply Kd.R_alloc | apply Kd.R_drewN | apply Kd.R_drew)); exact HO192.out) (Kd.R_base ho54) hb); have n2_ := Aside0.mk (Kd.R_lower (Kd.R_new' (Kd.R_new' ho54 (Kd.R_lt (by (with_reducible repeat (first | apply Kd.R_alloc | apply Kd.R_drewN | apply Kd.R_drew)); exact HO185.out))) (Kd.R_lt (by (with_reducible repeat (first | apply Kd.R_alloc | apply Kd.R_drewN | apply Kd.R_drew)); exact HO192.out))) (below_size (by repeat (first | (with_reducible first | exact HB.out | apply below_alloc | apply pw_below_drewN | apply below_drew1 | refine below_set ?_ (IsS53.ge HI175.out)) | exact HB.out)))); have n3_ := Aside0.mk (IsS53.below (by repeat (first | (with_reducible first | exact HI175.out | apply IsS53.alloc | apply IsS53.drewN | apply IsS53.drew | apply IsS53.set_1) | exact HI175.out)) hb); have n4_ := Aside0.mk (below_step (by repeat (first | (with_reducible first | exact HB.out | apply below_alloc | apply pw_below_drewN | apply below_drew1 | refine below_set ?_ (IsS53.ge HI175.out)) | exact HB.out)) hb); clear HO185; clear HO192; clear HI175; clear HB; have HO185 := n0_; have HO192 := n1_; have HO199 := n2_; have HI175 := n3_; have HB := n4_; clear n0_ n1_ n2_ n3_ n4_; clear hb ho54; obtain ⟨Ao55, co55, eo55⟩ := Kd.R_slice HO199.out; subst eo55) | ((with_reducible refine gate_callee (f := 13) rfl ?_); refine goesL_ (some 50) rfl rfl Try.func13 (by kernel_rfl) rfl #[.pointer (some ⟨g175, 0, none⟩), .slice Ao55 y197.length co55] rfl (by (try simp only [List.map_toArray, List.map_cons, List.map_nil]); first | done | rfl | (simp only [List.length_drop, List.length_take]; rfl)) ?_; (with_reducible refine (payrollgen_Tape_Pick.calls g175 t173 t196 _ _ y197 t200 t201 w _ ?side1 ?side2 ?side3 ?side4 ?side5 A15.out).mono ?_); (case side1 => repeat (first | (with_reducible first | exact HI175.out | apply IsS53.alloc | apply IsS53.drewN | apply IsS53.drew | apply IsS53.set_1) | exact HI175.out)); (case side2 => repeat (first | (with_reducible first | exact HB.out | apply below_alloc | apply pw_below_drewN | apply below_drew1 | refine below_set ?_ (IsS53.ge HI175.out)) | exact HB.out)); (case side3 => repeat (first | exact (Kd.R_reads' HO199.out).2.2 | (with_reducible refine Kd.C_alloc ?_ _) | (with_reducible refine Kd.C_drewN ?_ _) | (with_reducible refine Kd.C_drew ?_))); (case side4 => exact (Kd.R_reads' HO199.out).2.1); (case side5 => exact far_slice (IsS53.own_ne HI175.out HO199.out (by decide))); rintro e w56 ⟨rfl, hi, hb, hk⟩; refine ⟨_, rfl, ?_⟩; have n0_ := Aside0.mk (Kd.R_mono (Kd.R_keep (IsS53.apart (show IsS53 w _ g175 t173 t196 from by repeat (first | (with_reducible first | exact HI175.out | apply IsS53.alloc | apply IsS53.drewN | apply IsS53.drew | apply IsS53.set_1) | exact HI175.out)) (by (with_reducible repeat (first | apply Kd.R_alloc | apply Kd.R_drewN | apply Kd.R_drew)); exact HO185.out) (by decide)) hk (fun _ h => h.2)) (fun _ h => h.1)); have n1_ := Aside0.mk (Kd.R_mono (Kd.R_keep (IsS53.apart (show IsS53 w _ g175 t173 t196 from by repeat (first | (with_reducible first | exact HI175.out | apply IsS53.alloc | apply IsS53.drewN | apply IsS53.drew | apply IsS53.set_1) | exact HI175.out)) (by (with_reducible repeat (first | apply Kd.R_alloc | apply Kd.R_drewN | apply Kd.R_drew)); exact HO192.out) (by decide)) hk (fun _ h => h.2)) (fun _ h => h.1)); have n2_ := Aside0.mk (Kd.R_mono (Kd.R_keep (IsS53.apart (show IsS53 w _ g175 t173 t196 from by repeat (first | (with_reducible first | exact HI175.out | apply IsS53.alloc | apply IsS53.drewN | apply IsS53.drew | apply IsS53.set_1) | exact HI175.out)) (by (with_reducible repeat (first | apply Kd.R_alloc | apply Kd.R_drewN | apply Kd.R_drew)); exact HO199.out) (by decide)) hk (fun _ h => h.2)) (fun _ h => h.1)); have n3_ := Aside0.mk (hb); have n4_ := Aside0.mk (hi); clear HO185; clear HO192; clear HO199; clear HB; clear HI175; have HO185 := n0_; have HO192 := n1_; have HO199 := n2_; have HB := n3_; have HI175 := n4_; clear n0_ n1_ n2_ n3_ n4_; (try clear hb); (try clear hb2); (try clear hk); (try clear hi)) | ((with_reducible refine gate_dst (N := 52) rfl ?_); refine Kd.R_lit (Kd.int .i64) _ 3 ?hg (N := 52) ?hd (xs := ([1, 5, 100, 1000000] : List Int)) (inner := [.int .i64 1, .int .i64 5, .int .i64 100, .int .i64 1000000]) (ok := fun _ => True) (okp := fun _ => True) ?hr ?hp (fun _ hk => hk) trivial (Below.refl _ _) (Nat.le_refl _) (by simp) ?_; (case hd => rfl); (case hg => rfl); (case hr => first | (go_simp; done) | (go_simp; rfl)); (case hp => exact (Reps.one (show Kd.M (Kd.int .i64) _ _ _ 1 [.int .i64 1] from rfl) (Reps.one (show Kd.M (Kd.int .i64) _ _ _ 5 [.int .i64 5] from rfl) (Reps.one (show Kd.M (Kd.int .i64) _ _ _ 100 [.int .i64 100] from rfl) (Reps.one (show Kd.M (Kd.int .i64) _ _ _ 1000000 [.int .i64 1000000] from rfl) (Reps.none _ _)))))); intro v203 w57 ho58 hb hg_ hnew_; clear hg_ hnew_; (first | rw [← Ny202.out] at ho58 | (simp only [Int.reduceToNat] at ho58; rw [← Ny202.out] at ho58)); have n0_ := Aside0.mk (Kd.R_elder' (by (with_reducible repeat (first | apply Kd.R_alloc | apply Kd.R_drewN | apply Kd.R_drew)); exact HO185.out) (Kd.R_base ho58) hb); have n1_ := Aside0.mk (Kd.R_elder' (by (with_reducible repeat (first | apply Kd.R_alloc | apply Kd.R_drewN | apply Kd.R_drew)); exact HO192.out) (Kd.R_base ho58) hb); have n2_ := Aside0.mk (Kd.R_elder' (by (with_reducible repeat (first | apply Kd.R_alloc | apply Kd.R_drewN | apply Kd.R_drew)); exact HO199.out) (Kd.R_base ho58) hb); have n3_ := Aside0.mk (Kd.R_lower (Kd.R_new' (Kd.R_new' (Kd.R_new' ho58 (Kd.R_lt (by (with_reducible repeat (first | apply Kd.R_alloc | apply Kd.R_drewN | apply Kd.R_drew)); exact HO185.out))) (Kd.R_lt (by (with_reducible repeat (first | apply Kd.R_alloc | apply Kd.R_drewN | apply Kd.R_drew)); exact HO192.out))) (Kd.R_lt (by (with_reducible repeat (first | apply Kd.R_alloc | apply Kd.R_drewN | apply Kd.R_drew)); exact HO199.out))) (below_size (by repeat (first | (with_reducible first | exact HB.out | apply below_alloc | apply pw_below_drewN | apply below_drew1 | refine below_set ?_ (IsS53.ge HI175.out)) | exact HB.out)))); have n4_ := Aside0.mk (IsS53.below (by repeat (first | (with_reducible first | exact HI175.out | apply IsS53.alloc | apply IsS53.drewN | apply IsS53.drew | apply IsS53.set_1) | exact HI175.out)) hb); have n5_ := Aside0.mk (below_step (by repeat (first | (with_reducible first | exact HB.out | apply below_alloc | apply pw_below_drewN | apply below_drew1 | refine below_set ?_ (IsS53.ge HI175.out)) | exact HB.out)) hb); clear HO185; clear HO192; clear HO199; clear HI175; clear HB; have HO185 := n0_; have HO192 := n1_; have HO199 := n2_; have HO204 := n3_; have HI175 := n4_; have HB := n5_; clear n0_ n1_ n2_ n3_ n4_ n5_; clear hb ho58; obtain ⟨Ao59, co59, eo59⟩ := Kd.R_slice HO204.out; subst eo59) | ((with_reducible refine gate_callee (f := 13) rfl ?_); refine goesL_ (some 53) rfl rfl Try.func13 (by kernel_rfl) rfl #[.pointer (some ⟨g175, 0, none⟩), .slice Ao59 y202.length co59] rfl (by (try simp only [List.map_toArray, List.map_cons, List.map_nil]); first | done | rfl | (simp only [List.length_drop, List.length_take]; rfl)) ?_; (with_reducible refine (payrollgen_Tape_Pick.calls g175 t173 t201 _ _ y202 t205 t206 w _ ?side1 ?side2 ?side3 ?side4 ?side5 A16.out).mono ?_); (case side1 => repeat (first | (with_reducible first | exact HI175.out | apply IsS53.alloc | apply IsS53.drewN | apply IsS53.drew | apply IsS53.set_1) | exact HI175.out)); (case side2 => repeat (first | (with_reducible first | exact HB.out | apply below_alloc | apply pw_below_drewN | apply below_drew1 | refine below_set ?_ (IsS53.ge HI175.out)) | exact HB.out)); (case side3 => repeat (first | exact (Kd.R_reads' HO204.out).2.2 | (with_reducible refine Kd.C_alloc ?_ _) | (with_reducible refine Kd.C_drewN ?_ _) | (with_reducible refine Kd.C_drew ?_))); (case side4 => exact (Kd.R_reads' HO204.out).2.1); (case side5 => exact far_slice (IsS53.own_ne HI175.out HO204.out (by decide))); rintro e w60 ⟨rfl, hi, hb, hk⟩; refine ⟨_, rfl, ?_⟩; have n0_ := Aside0.mk (Kd.R_mono (Kd.R_keep (IsS53.apart (show IsS53 w _ g175 t173 t201 from by repeat (first | (with_reducible first | exact HI175.out | apply IsS53.alloc | apply IsS53.drewN | apply IsS53.drew | apply IsS53.set_1) | exact HI175.out)) (by (with_reducible repeat (first | apply Kd.R_alloc | apply Kd.R_drewN | apply Kd.R_drew)); exact HO185.out) (by decide)) hk (fun _ h => h.2)) (fun _ h => h.1)); have n1_ := Aside0.mk (Kd.R_mono (Kd.R_keep (IsS53.apart (show IsS53 w _ g175 t173 t201 from by repeat (first | (with_reducible first | exact HI175.out | apply IsS53.alloc | apply IsS53.drewN | apply IsS53.drew | apply IsS53.set_1) | exact HI175.out)) (by (with_reducible repeat (first | apply Kd.R_alloc | apply Kd.R_drewN | apply Kd.R_drew)); exact HO192.out) (by decide)) hk (fun _ h => h.2)) (fun _ h => h.1)); have n2_ := Aside0.mk (Kd.R_mono (Kd.R_keep (IsS53.apart (show IsS53 w _ g175 t173 t201 from by repeat (first | (with_reducible first | exact HI175.out | apply IsS53.alloc | apply IsS53.drewN | apply IsS53.drew | apply IsS53.set_1) | exact HI175.out)) (by (with_reducible repeat (first | apply Kd.R_alloc | apply Kd.R_drewN | apply Kd.R_drew)); exact HO199.out) (by decide)) hk (fun _ h => h.2)) (fun _ h => h.1)); have n3_ := Aside0.mk (Kd.R_mono (Kd.R_keep (IsS53.apart (show IsS53 w _ g175 t173 t201 from by repeat (first | (with_reducible first | exact HI175.out | apply IsS53.alloc | apply IsS53.drewN | apply IsS53.drew | apply IsS53.set_1) | exact HI175.out)) (by (with_reducible repeat (first | apply Kd.R_alloc | apply Kd.R_drewN | apply Kd.R_drew)); exact HO204.out) (by decide)) hk (fun _ h => h.2)) (fun _ h => h.1)); have n4_ := Aside0.mk (hb); have n5_ := Aside0.mk (hi); clear HO185; clear HO192; clear HO199; clear HO204; clear HB; clear HI175; have HO185 := n0_; have HO192 := n1_; have HO199 := n2_; have HO204 := n3_; have HB := n4_; have HI175 := n5_; clear n0_ n1_ n2_ n3_ n4_ n5_; (try clear hb); (try clear hb2); (try clear hk); (try clear hi)) | ((with_reducible refine gate_callee (f := 14) rfl ?_); refine goesL_ (some 55) rfl rfl Try.func14 (by kernel_rfl) rfl #[.pointer (some ⟨g175, 0, none⟩), .int .i64 7] rfl (by (try simp only [List.map_toArray, List.map_cons, List.map_nil]); first | done | rfl | (simp only [List.length_drop, List.length_take]; rfl)) ?_; (with_reducible refine (payrollgen_Tape_Next.calls g175 t173 t206 7 t207 t208 w _ ?side1 ?side2 A17.out).mono ?_); (case side1 => repeat (first | (with_reducible first | exact HI175.out | apply IsS53.alloc | apply IsS53.drewN | apply IsS53.drew | apply IsS53.set_1) | exact HI175.out)); (case side2 => repeat (first | (with_reducible first | exact HB.out | apply below_alloc | apply pw_below_drewN | apply below_drew1 | refine below_set ?_ (IsS53.ge HI175.out)) | exact HB.out)); rintro e w61 ⟨rfl, hi, hb, hk⟩; refine ⟨_, rfl, ?_⟩; have n0_ := Aside0.mk (Kd.R_mono (Kd.R_keep (IsS53.apart (show IsS53 w _ g175 t173 t206 from by repeat (first | (with_reducible first | exact HI175.out | apply IsS53.alloc | apply IsS53.drewN | apply IsS53.drew | apply IsS53.set_1) | exact HI175.out)) (by (with_reducible repeat (first | apply Kd.R_alloc | apply Kd.R_drewN | apply Kd.R_drew)); exact HO185.out) (by decide)) hk (fun _ h => h.2)) (fun _ h => h.1)); have n1_ := Aside0.mk (Kd.R_mono (Kd.R_keep (IsS53.apart (show IsS53 w _ g175 t173 t206 from by repeat (first | (with_reducible first | exact HI175.out | apply IsS53.alloc | apply IsS53.drewN | apply IsS53.drew | apply IsS53.set_1) | exact HI175.out)) (by (with_reducible repeat (first | apply Kd.R_alloc | apply Kd.R_drewN | apply Kd.R_drew)); exact HO192.out) (by decide)) hk (fun _ h => h.2)) (fun _ h => h.1)); have n2_ := Aside0.mk (Kd.R_mono (Kd.R_keep (IsS53.apart (show IsS53 w _ g175 t173 t206 from by repeat (first | (with_reducible first | exact HI175.out | apply IsS53.alloc | apply IsS53.drewN | apply IsS53.drew | apply IsS53.set_1) | exact HI175.out)) (by (with_reducible repeat (first | apply Kd.R_alloc | apply Kd.R_drewN | apply Kd.R_drew)); exact HO199.out) (by decide)) hk (fun _ h => h.2)) (fun _ h => h.1)); have n3_ := Aside0.mk (Kd.R_mono (Kd.R_keep (IsS53.apart (show IsS53 w _ g175 t173 t206 from by repeat (first | (with_reducible first | exact HI175.out | apply IsS53.alloc | apply IsS53.drewN | apply IsS53.drew | apply IsS53.set_1) | exact HI175.out)) (by (with_reducible repeat (first | apply Kd.R_alloc | apply Kd.R_drewN | apply Kd.R_drew)); exact HO204.out) (by decide)) hk (fun _ h => h.2)) (fun _ h => h.1)); have n4_ := Aside0.mk (hb); have n5_ := Aside0.mk (hi); clear HO185; clear HO192; clear HO199; clear HO204; clear HB; clear HI175; have HO185 := n0_; have HO192 := n1_; have HO199 := n2_; have HO204 := n3_; have HB := n4_; have HI175 := n5_; clear n0_ n1_ n2_ n3_ n4_ n5_; (try clear hb); (try clear hb2); (try clear hk); (try clear hi)) | ((with_reducible refine gate_callee (f := 18) rfl ?_); refine goesL_ (some 62) rfl rfl Try.func18 (by kernel_rfl) rfl #[.int .i64 t186, .int .i64 t193, .int .i64 t200, .int .i64 t205, .int .i64 t207] rfl (by (try simp only [List.map_toArray, List.map_cons, List.map_nil]); first | done | rfl | (simp only [List.length_drop, List.length_take]; rfl)) ?_; (with_reducible refine (rounding_Part.calls k1 t186 t193 t200 t205 t207 t209 t210 _ A18.out).mono ?_); rintro e w' ⟨rfl, ⟨nd, rfl⟩⟩; refine ⟨_, rfl, ?_⟩) | ((with_reducible refine gate_callee (f := 19) rfl ?_); refine goesL_ (some 71) rfl rfl Try.func19 (by kernel_rfl) rfl #[.int .i64 t186, .int .i64 t193, .int .i64 t200, .int .i64 t205, .int .i64 t207] rfl (by (try simp only [List.map_toArray, List.map_cons, List.map_nil]); first | done | rfl | (simp only [List.length_drop, List.length_take]; rfl)) ?_; (with_reducible refine (payrollref2_Part.calls k1 t186 t193 t200 t205 t207 t211 t212 _ A19.out).mono ?_); rintro e w' ⟨rfl, ⟨nd, rfl⟩⟩; refine ⟨_, rfl, ?_⟩))
            go_ret
            exact ⟨by first | rfl | (simp [errW_none, errW_some] <;> rfl) | (simp [*, errW_none, errW_some] <;> rfl), by repeat (first | (with_reducible first | exact HB.out | apply below_alloc | apply pw_below_drewN | apply below_drew1 | refine below_set ?_ (IsS53.ge HI175.out)) | exact HB.out)⟩
        · rw [if_neg c20] at H
          have c20b0 : (t209 == t211) = false := beq_eq_false_iff_ne.mpr c20
          have c20b1 : (t209 != t211) = true := bne_iff_ne.mpr c20
          obtain rfl := Option.some.inj H
          go_wp2_with (first | ((with_reducible refine gate_callee (f := 14) rfl ?_); refine goesL_ (some 36) rfl rfl Try.func14 (by kernel_rfl) rfl #[.pointer (some ⟨g175, 0, none⟩), .int .i64 200001] rfl (by (try simp only [List.map_toArray, List.map_cons, List.map_nil]); first | done | rfl | (simp only [List.length_drop, List.length_take]; rfl)) ?_; (with_reducible refine (payrollgen_Tape_Next.calls g175 t173 x176001_1 200001 t181 t182 w _ ?side1 ?side2 A10.out).mono ?_); (case side1 => repeat (first | (with_reducible first | exact HI175.out | apply IsS53.alloc | apply IsS53.drewN | apply IsS53.drew | apply IsS53.set_1) | exact HI175.out)); (case side2 => repeat (first | (with_reducible first | exact HB.out | apply below_alloc | apply pw_below_drewN | apply below_drew1 | refine below_set ?_ (IsS53.ge HI175.out)) | exact HB.out)); rintro e w62 ⟨rfl, hi, hb, hk⟩; refine ⟨_, rfl, ?_⟩; have n0_ := Aside0.mk (hb); have n1_ := Aside0.mk (hi); clear HB; clear HI175; have HB := n0_; have HI175 := n1_; clear n0_ n1_; (try clear hb); (try clear hb2); (try clear hk); (try clear hi)) | ((with_reducible refine gate_dst (N := 38) rfl ?_); refine Kd.R_lit (Kd.int .i64) _ 3 ?hg (N := 38) ?hd (xs := ([wrap64 (t181 - 100000), 1000000000000, (-1000000000000), (-5)] : List Int)) (inner := [.int .i64 (wrap64 (t181 - 100000)), .int .i64 1000000000000, .int .i64 (-1000000000000), .int .i64 (-5)]) (ok := fun _ => True) (okp := fun _ => True) ?hr ?hp (fun _ hk => hk) trivial (Below.refl _ _) (Nat.le_refl _) (by simp) ?_; (case hd => rfl); (case hg => rfl); (case hr => first | (go_simp; done) | (go_simp; rfl)); (case hp => exact (Reps.one (show Kd.M (Kd.int .i64) _ _ _ (wrap64 (t181 - 100000)) [.int .i64 (wrap64 (t181 - 100000))] from rfl) (Reps.one (show Kd.M (Kd.int .i64) _ _ _ 1000000000000 [.int .i64 1000000000000] from rfl) (Reps.one (show Kd.M (Kd.int .i64) _ _ _ (-1000000000000) [.int .i64 (-1000000000000)] from rfl) (Reps.one (show Kd.M (Kd.int .i64) _ _ _ (-5) [.int .i64 (-5)] from rfl) (Reps.none _ _)))))); intro v184 w63 ho64 hb hg_ hnew_; clear hg_ hnew_; (first | rw [← Ny183.out] at ho64 | (simp only [Int.reduceToNat] at ho64; rw [← Ny183.out] at ho64)); have n0_ := Aside0.mk (Kd.R_lower ho64 (below_size (by repeat (first | (with_reducible first | exact HB.out | apply below_alloc | apply pw_below_drewN | apply below_drew1 | refine below_set ?_ (IsS53.ge HI175.out)) | exact HB.out)))); have n1_ := Aside0.mk (IsS53.below (by repeat (first | (with_reducible first | exact HI175.out | apply IsS53.alloc | apply IsS53.drewN | apply IsS53.drew | apply IsS53.set_1) | exact HI175.out)) hb); have n2_ := Aside0.mk (below_step (by repeat (first | (with_reducible first | exact HB.out | apply below_alloc | apply pw_below_drewN | apply below_drew1 | refine below_set ?_ (IsS53.ge HI175.out)) | exact HB.out)) hb); clear HI175; clear HB; have HO185 := n0_; have HI175 := n1_; have HB := n2_; clear n0_ n1_ n2_; clear hb ho64; obtain ⟨Ao65, co65, eo65⟩ := Kd.R_slice HO185.out; subst eo65) | ((with_reducible refine gate_callee (f := 13) rfl ?_); refine goesL_ (some 39) rfl rfl Try.func13 (by kernel_rfl) rfl #[.pointer (some ⟨g175, 0, none⟩), .slice Ao65 y183.length co65] rfl (by (try simp only [List.map_toArray, List.map_cons, List.map_nil]); first | done | rfl | (simp only [List.length_drop, List.length_take]; rfl)) ?_; (with_reducible refine (payrollgen_Tape_Pick.calls g175 t173 t182 _ _ y183 t186 t187 w _ ?side1 ?side2 ?side3 ?side4 ?side5 A11.out).mono ?_); (case side1 => repeat (first | (with_reducible first | exact HI175.out | apply IsS53.alloc | apply IsS53.drewN | apply IsS53.drew | apply IsS53.set_1) | exact HI175.out)); (case side2 => repeat (first | (with_reducible first | exact HB.out | apply below_alloc | apply pw_below_drewN | apply below_drew1 | refine below_set ?_ (IsS53.ge HI175.out)) | exact HB.out)); (case side3 => repeat (first | exact (Kd.R_reads' HO185.out).2.2 | (with_reducible refine Kd.C_alloc ?_ _) | (with_reducible refine Kd.C_drewN ?_ _) | (with_reducible refine Kd.C_drew ?_))); (case side4 => exact (Kd.R_reads' HO185.out).2.1); (case side5 => exact far_slice (IsS53.own_ne HI175.out HO185.out (by decide))); rintro e w66 ⟨rfl, hi, hb, hk⟩; refine ⟨_, rfl, ?_⟩; have n0_ := Aside0.mk (Kd.R_mono (Kd.R_keep (IsS53.apart (show IsS53 w _ g175 t173 t182 from by repeat (first | (with_reducible first | exact HI175.out | apply IsS53.alloc | apply IsS53.drewN | apply IsS53.drew | apply IsS53.set_1) | exact HI175.out)) (by (with_reducible repeat (first | apply Kd.R_alloc | apply Kd.R_drewN | apply Kd.R_drew)); exact HO185.out) (by decide)) hk (fun _ h => h.2)) (fun _ h => h.1)); have n1_ := Aside0.mk (hb); have n2_ := Aside0.mk (hi); clear HO185; clear HB; clear HI175; have HO185 := n0_; have HB := n1_; have HI175 := n2_; clear n0_ n1_ n2_; (try clear hb); (try clear hb2); (try clear hk); (try clear hi)) | ((with_reducible refine gate_callee (f := 14) rfl ?_); refine goesL_ (some 42) rfl rfl Try.func14 (by kernel_rfl) rfl #[.pointer (some ⟨g175, 0, none⟩), .int .i64 1000] rfl (by (try simp only [List.map_toArray, List.map_cons, List.map_nil]); first | done | rfl | (simp only [List.length_drop, List.length_take]; rfl)) ?_; (with_reducible refine (payrollgen_Tape_Next.calls g175 t173 t187 1000 t188 t189 w _ ?side1 ?side2 A12.out).mono ?_); (case side1 => repeat (first | (with_reducible first | exact HI175.out | apply IsS53.alloc | apply IsS53.drewN | apply IsS53.drew | apply IsS53.set_1) | exact HI175.out)); (case side2 => repeat (first | (with_reducible first | exact HB.out | apply below_alloc | apply pw_below_drewN | apply below_drew1 | refine below_set ?_ (IsS53.ge HI175.out)) | exact HB.out)); rintro e w67 ⟨rfl, hi, hb, hk⟩; refine ⟨_, rfl, ?_⟩; have n0_ := Aside0.mk (Kd.R_mono (Kd.R_keep (IsS53.apart (show IsS53 w _ g175 t173 t187 from by repeat (first | (with_reducible first | exact HI175.out | apply IsS53.alloc | apply IsS53.drewN | apply IsS53.drew | apply IsS53.set_1) | exact HI175.out)) (by (with_reducible repeat (first | apply Kd.R_alloc | apply Kd.R_drewN | apply Kd.R_drew)); exact HO185.out) (by decide)) hk (fun _ h => h.2)) (fun _ h => h.1)); have n1_ := Aside0.mk (hb); have n2_ := Aside0.mk (hi); clear HO185; clear HB; clear HI175; have HO185 := n0_; have HB := n1_; have HI175 := n2_; clear n0_ n1_ n2_; (try clear hb); (try clear hb2); (try clear hk); (try clear hi)) | ((with_reducible refine gate_dst (N := 43) rfl ?_); refine Kd.R_lit (Kd.int .i64) _ 3 ?hg (N := 43) ?hd (xs := ([t188, 1000000, 0] : List Int)) (inner := [.int .i64 t188, .int .i64 1000000, .int .i64 0]) (ok := fun _ => True) (okp := fun _ => True) ?hr ?hp (fun _ hk => hk) trivial (Below.refl _ _) (Nat.le_refl _) (by simp) ?_; (case hd => rfl); (case hg => rfl); (case hr => first | (go_simp; done) | (go_simp; rfl)); (case hp => exact (Reps.one (show Kd.M (Kd.int .i64) _ _ _ t188 [.int .i64 t188] from rfl) (Reps.one (show Kd.M (Kd.int .i64) _ _ _ 1000000 [.int .i64 1000000] from rfl) (Reps.one (show Kd.M (Kd.int .i64) _ _ _ 0 [.int .i64 0] from rfl) (Reps.none _ _))))); intro v191 w68 ho69 hb hg_ hnew_; clear hg_ hnew_; (first | rw [← Ny190.out] at ho69 | (simp only [Int.reduceToNat] at ho69; rw [← Ny190.out] at ho69)); have n0_ := Aside0.mk (Kd.R_elder' (by (with_reducible repeat (first | apply Kd.R_alloc | apply Kd.R_drewN | apply Kd.R_drew)); exact HO185.out) (Kd.R_base ho69) hb); have n1_ := Aside0.mk (Kd.R_lower (Kd.R_new' ho69 (Kd.R_lt (by (with_reducible repeat (first | apply Kd.R_alloc | apply Kd.R_drewN | apply Kd.R_drew)); exact HO185.out))) (below_size (by repeat (first | (with_reducible first | exact HB.out | apply below_alloc | apply pw_below_drewN | apply below_drew1 | refine below_set ?_ (IsS53.ge HI175.out)) | exact HB.out)))); have n2_ := Aside0.mk (IsS53.below (by repeat (first | (with_reducible first | exact HI175.out | apply IsS53.alloc | apply IsS53.drewN | apply IsS53.drew | apply IsS53.set_1) | exact HI175.out)) hb); have n3_ := Aside0.mk (below_step (by repeat (first | (with_reducible first | exact HB.out | apply below_alloc | apply pw_below_drewN | apply below_drew1 | refine below_set ?_ (IsS53.ge HI175.out)) | exact HB.out)) hb); clear HO185; clear HI175; clear HB; have HO185 := n0_; have HO192 := n1_; have HI175 := n2_; have HB := n3_; clear n0_ n1_ n2_ n3_; clear hb ho69; obtain ⟨Ao70, co70, eo70⟩ := Kd.R_slice HO192.out; subst eo70) | ((with_reducible refine gate_callee (f := 13) rfl ?_); refine goesL_ (some 44) rfl rfl Try.func13 (by kernel_rfl) rfl #[.pointer (some ⟨g175, 0, none⟩), .slice Ao70 y190.length co70] rfl (by (try simp only [List.map_toArray, List.map_cons, List.map_nil]); first | done | rfl | (simp only [List.length_drop, List.length_take]; rfl)) ?_; (with_reducible refine (payrollgen_Tape_Pick.calls g175 t173 t189 _ _ y190 t193 t194 w _ ?side1 ?side2 ?side3 ?side4 ?side5 A13.out).mono ?_); (case side1 => repeat (first | (with_reducible first | exact HI175.out | apply IsS53.alloc | apply IsS53.drewN | apply IsS53.drew | apply IsS53.set_1) | exact HI175.out)); (case side2 => repeat (first | (with_reducible first | exact HB.out | apply below_alloc | apply pw_below_drewN | apply below_drew1 | refine below_set ?_ (IsS53.ge HI175.out)) | exact HB.out)); (case side3 => repeat (first | exact (Kd.R_reads' HO192.out).2.2 | (with_reducible refine Kd.C_alloc ?_ _) | (with_reducible refine Kd.C_drewN ?_ _) | (with_reducible refine Kd.C_drew ?_))); (case side4 => exact (Kd.R_reads' HO192.out).2.1); (case side5 => exact far_slice (IsS53.own_ne HI175.out HO192.out (by decide))); rintro e w71 ⟨rfl, hi, hb, hk⟩; refine ⟨_, rfl, ?_⟩; have n0_ := Aside0.mk (Kd.R_mono (Kd.R_keep (IsS53.apart (show IsS53 w _ g175 t173 t189 from by repeat (first | (with_reducible first | exact HI175.out | apply IsS53.alloc | apply IsS53.drewN | apply IsS53.drew | apply IsS53.set_1) | exact HI175.out)) (by (with_reducible repeat (first | apply Kd.R_alloc | apply Kd.R_drewN | apply Kd.R_drew)); exact HO185.out) (by decide)) hk (fun _ h => h.2)) (fun _ h => h.1)); have n1_ := Aside0.mk (Kd.R_mono (Kd.R_keep (IsS53.apart (show IsS53 w _ g175 t173 t189 from by repeat (first | (with_reducible first | exact HI175.out | apply IsS53.alloc | apply IsS53.drewN | apply IsS53.drew | apply IsS53.set_1) | exact HI175.out)) (by (with_reducible repeat (first | apply Kd.R_alloc | apply Kd.R_drewN | apply Kd.R_drew)); exact HO192.out) (by decide)) hk (fun _ h => h.2)) (fun _ h => h.1)); have n2_ := Aside0.mk (hb); have n3_ := Aside0.mk (hi); clear HO185; clear HO192; clear HB; clear HI175; have HO185 := n0_; have HO192 := n1_; have HB := n2_; have HI175 := n3_; clear n0_ n1_ n2_ n3_; (try clear hb); (try clear hb2); (try clear hk); (try clear hi)) | ((with_reducible refine gate_callee (f := 14) rfl ?_); refine goesL_ (some 47) rfl rfl Try.func14 (by kernel_rfl) rfl #[.pointer (some ⟨g175, 0, none⟩), .int .i64 1000] rfl (by (try simp only [List.map_toArray, List.map_cons, List.map_nil]); first | done | rfl | (simp only [List.length_drop, List.length_take]; rfl)) ?_; (with_reducible refine (payrollgen_Tape_Next.calls g175 t173 t194 1000 t195 t196 w _ ?side1 ?side2 A14.out).mono ?_); (case side1 => repeat (first | (with_reducible first | exact HI175.out | apply IsS53.alloc | apply IsS53.drewN | apply IsS53.drew | apply IsS53.set_1) | exact HI175.out)); (case side2 => repeat (first | (with_reducible first | exact HB.out | apply below_alloc | apply pw_below_drewN | apply below_drew1 | refine below_set ?_ (IsS53.ge HI175.out)) | exact HB.out)); rintro e w72 ⟨rfl, hi, hb, hk⟩; refine ⟨_, rfl, ?_⟩; have n0_ := Aside0.mk (Kd.R_mono (Kd.R_keep (IsS53.apart (show IsS53 w _ g175 t173 t194 from by repeat (first | (with_reducible first | exact HI175.out | apply IsS53.alloc | apply IsS53.drewN | apply IsS53.drew | apply IsS53.set_1) | exact HI175.out)) (by (with_reducible repeat (first | apply Kd.R_alloc | apply Kd.R_drewN | apply Kd.R_drew)); exact HO185.out) (by decide)) hk (fun _ h => h.2)) (fun _ h => h.1)); have n1_ := Aside0.mk (Kd.R_mono (Kd.R_keep (IsS53.apart (show IsS53 w _ g175 t173 t194 from by repeat (first | (with_reducible first | exact HI175.out | apply IsS53.alloc | apply IsS53.drewN | apply IsS53.drew | apply IsS53.set_1) | exact HI175.out)) (by (with_reducible repeat (first | apply Kd.R_alloc | apply Kd.R_drewN | apply Kd.R_drew)); exact HO192.out) (by decide)) hk (fun _ h => h.2)) (fun _ h => h.1)); have n2_ := Aside0.mk (hb); have n3_ := Aside0.mk (hi); clear HO185; clear HO192; clear HB; clear HI175; have HO185 := n0_; have HO192 := n1_; have HB := n2_; have HI175 := n3_; clear n0_ n1_ n2_ n3_; (try clear hb); (try clear hb2); (try clear hk); (try clear hi)) | ((with_reducible refine gate_dst (N := 49) rfl ?_); refine Kd.R_lit (Kd.int .i64) _ 3 ?hg (N := 49) ?hd (xs := ([wrap64 (1 + t195), 1000000, 1] : List Int)) (inner := [.int .i64 (wrap64 (1 + t195)), .int .i64 1000000, .int .i64 1]) (ok := fun _ => True) (okp := fun _ => True) ?hr ?hp (fun _ hk => hk) trivial (Below.refl _ _) (Nat.le_refl _) (by simp) ?_; (case hd => rfl); (case hg => rfl); (case hr => first | (go_simp; done) | (go_simp; rfl)); (case hp => exact (Reps.one (show Kd.M (Kd.int .i64) _ _ _ (wrap64 (1 + t195)) [.int .i64 (wrap64 (1 + t195))] from rfl) (Reps.one (show Kd.M (Kd.int .i64) _ _ _ 1000000 [.int .i64 1000000] from rfl) (Reps.one (show Kd.M (Kd.int .i64) _ _ _ 1 [.int .i64 1] from rfl) (Reps.none _ _))))); intro v198 w73 ho74 hb hg_ hnew_; clear hg_ hnew_; (first | rw [← Ny197.out] at ho74 | (simp only [Int.reduceToNat] at ho74; rw [← Ny197.out] at ho74)); have n0_ := Aside0.mk (Kd.R_elder' (by (with_reducible repeat (first | apply Kd.R_alloc | apply Kd.R_drewN | apply Kd.R_drew)); exact HO185.out) (Kd.R_base ho74) hb); have n1_ := Aside0.mk (Kd.R_elder' (by (with_reducible repeat (first | apply Kd.R_alloc | apply Kd.R_drewN | apply Kd.R_drew)); exact HO192.out) (Kd.R_base ho74) hb); have n2_ := Aside0.mk (Kd.R_lower (Kd.R_new' (Kd.R_new' ho74 (Kd.R_lt (by (with_reducible repeat (first | apply Kd.R_alloc | apply Kd.R_drewN | apply Kd.R_drew)); exact HO185.out))) (Kd.R_lt (by (with_reducible repeat (first | apply Kd.R_alloc | apply Kd.R_drewN | apply Kd.R_drew)); exact HO192.out))) (below_size (by repeat (first | (with_reducible first | exact HB.out | apply below_alloc | apply pw_below_drewN | apply below_drew1 | refine below_set ?_ (IsS53.ge HI175.out)) | exact HB.out)))); have n3_ := Aside0.mk (IsS53.below (by repeat (first | (with_reducible first | exact HI175.out | apply IsS53.alloc | apply IsS53.drewN | apply IsS53.drew | apply IsS53.set_1) | exact HI175.out)) hb); have n4_ := Aside0.mk (below_step (by repeat (first | (with_reducible first | exact HB.out | apply below_alloc | apply pw_below_drewN | apply below_drew1 | refine below_set ?_ (IsS53.ge HI175.out)) | exact HB.out)) hb); clear HO185; clear HO192; clear HI175; clear HB; have HO185 := n0_; have HO192 := n1_; have HO199 := n2_; have HI175 := n3_; have HB := n4_; clear n0_ n1_ n2_ n3_ n4_; clear hb ho74; obtain ⟨Ao75, co75, eo75⟩ := Kd.R_slice HO199.out; subst eo75) | ((with_reducible refine gate_callee (f := 13) rfl ?_); refine goesL_ (some 50) rfl rfl Try.func13 (by kernel_rfl) rfl #[.pointer (some ⟨g175, 0, none⟩), .slice Ao75 y197.length co75] rfl (by (try simp only [List.map_toArray, List.map_cons, List.map_nil]); first | done | rfl | (simp only [List.length_drop, List.length_take]; rfl)) ?_; (with_reducible refine (payrollgen_Tape_Pick.calls g175 t173 t196 _ _ y197 t200 t201 w _ ?side1 ?side2 ?side3 ?side4 ?side5 A15.out).mono ?_); (case side1 => repeat (first | (with_reducible first | exact HI175.out | apply IsS53.alloc | apply IsS53.drewN | apply IsS53.drew | apply IsS53.set_1) | exact HI175.out)); (case side2 => repeat (first | (with_reducible first | exact HB.out | apply below_alloc | apply pw_below_drewN | apply below_drew1 | refine below_set ?_ (IsS53.ge HI175.out)) | exact HB.out)); (case side3 => repeat (first | exact (Kd.R_reads' HO199.out).2.2 | (with_reducible refine Kd.C_alloc ?_ _) | (with_reducible refine Kd.C_drewN ?_ _) | (with_reducible refine Kd.C_drew ?_))); (case side4 => exact (Kd.R_reads' HO199.out).2.1); (case side5 => exact far_slice (IsS53.own_ne HI175.out HO199.out (by decide))); rintro e w76 ⟨rfl, hi, hb, hk⟩; refine ⟨_, rfl, ?_⟩; have n0_ := Aside0.mk (Kd.R_mono (Kd.R_keep (IsS53.apart (show IsS53 w _ g175 t173 t196 from by repeat (first | (with_reducible first | exact HI175.out | apply IsS53.alloc | apply IsS53.drewN | apply IsS53.drew | apply IsS53.set_1) | exact HI175.out)) (by (with_reducible repeat (first | apply Kd.R_alloc | apply Kd.R_drewN | apply Kd.R_drew)); exact HO185.out) (by decide)) hk (fun _ h => h.2)) (fun _ h => h.1)); have n1_ := Aside0.mk (Kd.R_mono (Kd.R_keep (IsS53.apart (show IsS53 w _ g175 t173 t196 from by repeat (first | (with_reducible first | exact HI175.out | apply IsS53.alloc | apply IsS53.drewN | apply IsS53.drew | apply IsS53.set_1) | exact HI175.out)) (by (with_reducible repeat (first | apply Kd.R_alloc | apply Kd.R_drewN | apply Kd.R_drew)); exact HO192.out) (by decide)) hk (fun _ h => h.2)) (fun _ h => h.1)); have n2_ := Aside0.mk (Kd.R_mono (Kd.R_keep (IsS53.apart (show IsS53 w _ g175 t173 t196 from by repeat (first | (with_reducible first | exact HI175.out | apply IsS53.alloc | apply IsS53.drewN | apply IsS53.drew | apply IsS53.set_1) | exact HI175.out)) (by (with_reducible repeat (first | apply Kd.R_alloc | apply Kd.R_drewN | apply Kd.R_drew)); exact HO199.out) (by decide)) hk (fun _ h => h.2)) (fun _ h => h.1)); have n3_ := Aside0.mk (hb); have n4_ := Aside0.mk (hi); clear HO185; clear HO192; clear HO199; clear HB; clear HI175; have HO185 := n0_; have HO192 := n1_; have HO199 := n2_; have HB := n3_; have HI175 := n4_; clear n0_ n1_ n2_ n3_ n4_; (try clear hb); (try clear hb2); (try clear hk); (try clear hi)) | ((with_reducible refine gate_dst (N := 52) rfl ?_); refine Kd.R_lit (Kd.int .i64) _ 3 ?hg (N := 52) ?hd (xs := ([1, 5, 100, 1000000] : List Int)) (inner := [.int .i64 1, .int .i64 5, .int .i64 100, .int .i64 1000000]) (ok := fun _ => True) (okp := fun _ => True) ?hr ?hp (fun _ hk => hk) trivial (Below.refl _ _) (Nat.le_refl _) (by simp) ?_; (case hd => rfl); (case hg => rfl); (case hr => first | (go_simp; done) | (go_simp; rfl)); (case hp => exact (Reps.one (show Kd.M (Kd.int .i64) _ _ _ 1 [.int .i64 1] from rfl) (Reps.one (show Kd.M (Kd.int .i64) _ _ _ 5 [.int .i64 5] from rfl) (Reps.one (show Kd.M (Kd.int .i64) _ _ _ 100 [.int .i64 100] from rfl) (Reps.one (show Kd.M (Kd.int .i64) _ _ _ 1000000 [.int .i64 1000000] from rfl) (Reps.none _ _)))))); intro v203 w77 ho78 hb hg_ hnew_; clear hg_ hnew_; (first | rw [← Ny202.out] at ho78 | (simp only [Int.reduceToNat] at ho78; rw [← Ny202.out] at ho78)); have n0_ := Aside0.mk (Kd.R_elder' (by (with_reducible repeat (first | apply Kd.R_alloc | apply Kd.R_drewN | apply Kd.R_drew)); exact HO185.out) (Kd.R_base ho78) hb); have n1_ := Aside0.mk (Kd.R_elder' (by (with_reducible repeat (first | apply Kd.R_alloc | apply Kd.R_drewN | apply Kd.R_drew)); exact HO192.out) (Kd.R_base ho78) hb); have n2_ := Aside0.mk (Kd.R_elder' (by (with_reducible repeat (first | apply Kd.R_alloc | apply Kd.R_drewN | apply Kd.R_drew)); exact HO199.out) (Kd.R_base ho78) hb); have n3_ := Aside0.mk (Kd.R_lower (Kd.R_new' (Kd.R_new' (Kd.R_new' ho78 (Kd.R_lt (by (with_reducible repeat (first | apply Kd.R_alloc | apply Kd.R_drewN | apply Kd.R_drew)); exact HO185.out))) (Kd.R_lt (by (with_reducible repeat (first | apply Kd.R_alloc | apply Kd.R_drewN | apply Kd.R_drew)); exact HO192.out))) (Kd.R_lt (by (with_reducible repeat (first | apply Kd.R_alloc | apply Kd.R_drewN | apply Kd.R_drew)); exact HO199.out))) (below_size (by repeat (first | (with_reducible first | exact HB.out | apply below_alloc | apply pw_below_drewN | apply below_drew1 | refine below_set ?_ (IsS53.ge HI175.out)) | exact HB.out)))); have n4_ := Aside0.mk (IsS53.below (by repeat (first | (with_reducible first | exact HI175.out | apply IsS53.alloc | apply IsS53.drewN | apply IsS53.drew | apply IsS53.set_1) | exact HI175.out)) hb); have n5_ := Aside0.mk (below_step (by repeat (first | (with_reducible first | exact HB.out | apply below_alloc | apply pw_below_drewN | apply below_drew1 | refine below_set ?_ (IsS53.ge HI175.out)) | exact HB.out)) hb); clear HO185; clear HO192; clear HO199; clear HI175; clear HB; have HO185 := n0_; have HO192 := n1_; have HO199 := n2_; have HO204 := n3_; have HI175 := n4_; have HB := n5_; clear n0_ n1_ n2_ n3_ n4_ n5_; clear hb ho78; obtain ⟨Ao79, co79, eo79⟩ := Kd.R_slice HO204.out; subst eo79) | ((with_reducible refine gate_callee (f := 13) rfl ?_); refine goesL_ (some 53) rfl rfl Try.func13 (by kernel_rfl) rfl #[.pointer (some ⟨g175, 0, none⟩), .slice Ao79 y202.length co79] rfl (by (try simp only [List.map_toArray, List.map_cons, List.map_nil]); first | done | rfl | (simp only [List.length_drop, List.length_take]; rfl)) ?_; (with_reducible refine (payrollgen_Tape_Pick.calls g175 t173 t201 _ _ y202 t205 t206 w _ ?side1 ?side2 ?side3 ?side4 ?side5 A16.out).mono ?_); (case side1 => repeat (first | (with_reducible first | exact HI175.out | apply IsS53.alloc | apply IsS53.drewN | apply IsS53.drew | apply IsS53.set_1) | exact HI175.out)); (case side2 => repeat (first | (with_reducible first | exact HB.out | apply below_alloc | apply pw_below_drewN | apply below_drew1 | refine below_set ?_ (IsS53.ge HI175.out)) | exact HB.out)); (case side3 => repeat (first | exact (Kd.R_reads' HO204.out).2.2 | (with_reducible refine Kd.C_alloc ?_ _) | (with_reducible refine Kd.C_drewN ?_ _) | (with_reducible refine Kd.C_drew ?_))); (case side4 => exact (Kd.R_reads' HO204.out).2.1); (case side5 => exact far_slice (IsS53.own_ne HI175.out HO204.out (by decide))); rintro e w80 ⟨rfl, hi, hb, hk⟩; refine ⟨_, rfl, ?_⟩; have n0_ := Aside0.mk (Kd.R_mono (Kd.R_keep (IsS53.apart (show IsS53 w _ g175 t173 t201 from by repeat (first | (with_reducible first | exact HI175.out | apply IsS53.alloc | apply IsS53.drewN | apply IsS53.drew | apply IsS53.set_1) | exact HI175.out)) (by (with_reducible repeat (first | apply Kd.R_alloc | apply Kd.R_drewN | apply Kd.R_drew)); exact HO185.out) (by decide)) hk (fun _ h => h.2)) (fun _ h => h.1)); have n1_ := Aside0.mk (Kd.R_mono (Kd.R_keep (IsS53.apart (show IsS53 w _ g175 t173 t201 from by repeat (first | (with_reducible first | exact HI175.out | apply IsS53.alloc | apply IsS53.drewN | apply IsS53.drew | apply IsS53.set_1) | exact HI175.out)) (by (with_reducible repeat (first | apply Kd.R_alloc | apply Kd.R_drewN | apply Kd.R_drew)); exact HO192.out) (by decide)) hk (fun _ h => h.2)) (fun _ h => h.1)); have n2_ := Aside0.mk (Kd.R_mono (Kd.R_keep (IsS53.apart (show IsS53 w _ g175 t173 t201 from by repeat (first | (with_reducible first | exact HI175.out | apply IsS53.alloc | apply IsS53.drewN | apply IsS53.drew | apply IsS53.set_1) | exact HI175.out)) (by (with_reducible repeat (first | apply Kd.R_alloc | apply Kd.R_drewN | apply Kd.R_drew)); exact HO199.out) (by decide)) hk (fun _ h => h.2)) (fun _ h => h.1)); have n3_ := Aside0.mk (Kd.R_mono (Kd.R_keep (IsS53.apart (show IsS53 w _ g175 t173 t201 from by repeat (first | (with_reducible first | exact HI175.out | apply IsS53.alloc | apply IsS53.drewN | apply IsS53.drew | apply IsS53.set_1) | exact HI175.out)) (by (with_reducible repeat (first | apply Kd.R_alloc | apply Kd.R_drewN | apply Kd.R_drew)); exact HO204.out) (by decide)) hk (fun _ h => h.2)) (fun _ h => h.1)); have n4_ := Aside0.mk (hb); have n5_ := Aside0.mk (hi); clear HO185; clear HO192; clear HO199; clear HO204; clear HB; clear HI175; have HO185 := n0_; have HO192 := n1_; have HO199 := n2_; have HO204 := n3_; have HB := n4_; have HI175 := n5_; clear n0_ n1_ n2_ n3_ n4_ n5_; (try clear hb); (try clear hb2); (try clear hk); (try clear hi)) | ((with_reducible refine gate_callee (f := 14) rfl ?_); refine goesL_ (some 55) rfl rfl Try.func14 (by kernel_rfl) rfl #[.pointer (some ⟨g175, 0, none⟩), .int .i64 7] rfl (by (try simp only [List.map_toArray, List.map_cons, List.map_nil]); first | done | rfl | (simp only [List.length_drop, List.length_take]; rfl)) ?_; (with_reducible refine (payrollgen_Tape_Next.calls g175 t173 t206 7 t207 t208 w _ ?side1 ?side2 A17.out).mono ?_); (case side1 => repeat (first | (with_reducible first | exact HI175.out | apply IsS53.alloc | apply IsS53.drewN | apply IsS53.drew | apply IsS53.set_1) | exact HI175.out)); (case side2 => repeat (first | (with_reducible first | exact HB.out | apply below_alloc | apply pw_below_drewN | apply below_drew1 | refine below_set ?_ (IsS53.ge HI175.out)) | exact HB.out)); rintro e w81 ⟨rfl, hi, hb, hk⟩; refine ⟨_, rfl, ?_⟩; have n0_ := Aside0.mk (Kd.R_mono (Kd.R_keep (IsS53.apart (show IsS53 w _ g175 t173 t206 from by repeat (first | (with_reducible first | exact HI175.out | apply IsS53.alloc | apply IsS53.drewN | apply IsS53.drew | apply IsS53.set_1) | exact HI175.out)) (by (with_reducible repeat (first | apply Kd.R_alloc | apply Kd.R_drewN | apply Kd.R_drew)); exact HO185.out) (by decide)) hk (fun _ h => h.2)) (fun _ h => h.1)); have n1_ := Aside0.mk (Kd.R_mono (Kd.R_keep (IsS53.apart (show IsS53 w _ g175 t173 t206 from by repeat (first | (with_reducible first | exact HI175.out | apply IsS53.alloc | apply IsS53.drewN | apply IsS53.drew | apply IsS53.set_1) | exact HI175.out)) (by (with_reducible repeat (first | apply Kd.R_alloc | apply Kd.R_drewN | apply Kd.R_drew)); exact HO192.out) (by decide)) hk (fun _ h => h.2)) (fun _ h => h.1)); have n2_ := Aside0.mk (Kd.R_mono (Kd.R_keep (IsS53.apart (show IsS53 w _ g175 t173 t206 from by repeat (first | (with_reducible first | exact HI175.out | apply IsS53.alloc | apply IsS53.drewN | apply IsS53.drew | apply IsS53.set_1) | exact HI175.out)) (by (with_reducible repeat (first | apply Kd.R_alloc | apply Kd.R_drewN | apply Kd.R_drew)); exact HO199.out) (by decide)) hk (fun _ h => h.2)) (fun _ h => h.1)); have n3_ := Aside0.mk (Kd.R_mono (Kd.R_keep (IsS53.apart (show IsS53 w _ g175 t173 t206 from by repeat (first | (with_reducible first | exact HI175.out | apply IsS53.alloc | apply IsS53.drewN | apply IsS53.drew | apply IsS53.set_1) | exact HI175.out)) (by (with_reducible repeat (first | apply Kd.R_alloc | apply Kd.R_drewN | apply Kd.R_drew)); exact HO204.out) (by decide)) hk (fun _ h => h.2)) (fun _ h => h.1)); have n4_ := Aside0.mk (hb); have n5_ := Aside0.mk (hi); clear HO185; clear HO192; clear HO199; clear HO204; clear HB; clear HI175; have HO185 := n0_; have HO192 := n1_; have HO199 := n2_; have HO204 := n3_; have HB := n4_; have HI175 := n5_; clear n0_ n1_ n2_ n3_ n4_ n5_; (try clear hb); (try clear hb2); (try clear hk); (try clear hi)) | ((with_reducible refine gate_callee (f := 18) rfl ?_); refine goesL_ (some 62) rfl rfl Try.func18 (by kernel_rfl) rfl #[.int .i64 t186, .int .i64 t193, .int .i64 t200, .int .i64 t205, .int .i64 t207] rfl (by (try simp only [List.map_toArray, List.map_cons, List.map_nil]); first | done | rfl | (simp only [List.length_drop, List.length_take]; rfl)) ?_; (with_reducible refine (rounding_Part.calls k1 t186 t193 t200 t205 t207 t209 t210 _ A18.out).mono ?_); rintro e w' ⟨rfl, ⟨nd, rfl⟩⟩; refine ⟨_, rfl, ?_⟩) | ((with_reducible refine gate_callee (f := 19) rfl ?_); refine goesL_ (some 71) rfl rfl Try.func19 (by kernel_rfl) rfl #[.int .i64 t186, .int .i64 t193, .int .i64 t200, .int .i64 t205, .int .i64 t207] rfl (by (try simp only [List.map_toArray, List.map_cons, List.map_nil]); first | done | rfl | (simp only [List.length_drop, List.length_take]; rfl)) ?_; (with_reducible refine (payrollref2_Part.calls k1 t186 t193 t200 t205 t207 t211 t212 _ A19.out).mono ?_); rintro e w' ⟨rfl, ⟨nd, rfl⟩⟩; refine ⟨_, rfl, ?_⟩))
          go_ret
          exact ⟨by first | rfl | (simp [errW_none, errW_some] <;> rfl) | (simp [*, errW_none, errW_some] <;> rfl), by repeat (first | (with_reducible first | exact HB.out | apply below_alloc | apply pw_below_drewN | apply below_drew1 | refine below_set ?_ (IsS53.ge HI175.out)) | exact HB.out)⟩
      · rw [if_neg c9] at H
        have c9b0 : decide (x14_1 < 5) = false := decide_eq_false c9
        clear c9
        replace H := Option.bind_eq_some_iff.mp H
        obtain ⟨⟨t176, t177⟩, A820, H⟩ := H
        replace H : ((payrollref2_Part.f k1 a1 a2 a3 a4 a5).bind fun bt178 => (if t176 = bt178.1 then (if t177 = bt178.2 then ((payrolllaw2_sane.f k1).bind fun t180 => (some t180)) else (some false)) else (some false))) = some r := H
        have A82 := Aside0.mk A820
        clear A820
        replace H := Option.bind_eq_some_iff.mp H
        obtain ⟨⟨t178, t179⟩, A830, H⟩ := H
        replace H : (if t176 = t178 then (if t177 = t179 then ((payrolllaw2_sane.f k1).bind fun t180 => (some t180)) else (some false)) else (some false)) = some r := H
        have A83 := Aside0.mk A830
        clear A830
        by_cases c84 : t176 = t178
        · rw [if_pos c84] at H
          have c84b0 : (t176 == t178) = true := beq_iff_eq.mpr c84
          have c84b1 : (t176 != t178) = false := bne_eq_false_iff_eq.mpr c84
          clear c84
          by_cases c85 : t177 = t179
          · rw [if_pos c85] at H
            have c85b0 : (t177 == t179) = true := beq_iff_eq.mpr c85
            have c85b1 : (t177 != t179) = false := bne_eq_false_iff_eq.mpr c85
            clear c85
            replace H := Option.bind_eq_some_iff.mp H
            obtain ⟨t180, A860, H⟩ := H
            replace H : (some t180) = some r := H
            have A86 := Aside0.mk A860
            clear A860
            obtain rfl := Option.some.inj H
            go_wp2_with (first | ((with_reducible refine gate_callee (f := 18) rfl ?_); refine goesL_ (some 88) rfl rfl Try.func18 (by kernel_rfl) rfl #[.int .i64 a1, .int .i64 a2, .int .i64 a3, .int .i64 a4, .int .i64 a5] rfl (by (try simp only [List.map_toArray, List.map_cons, List.map_nil]); first | done | rfl | (simp only [List.length_drop, List.length_take]; rfl)) ?_; (with_reducible refine (rounding_Part.calls k1 a1 a2 a3 a4 a5 t176 t177 _ A82.out).mono ?_); rintro e w' ⟨rfl, ⟨nd, rfl⟩⟩; refine ⟨_, rfl, ?_⟩) | ((with_reducible refine gate_callee (f := 19) rfl ?_); refine goesL_ (some 97) rfl rfl Try.func19 (by kernel_rfl) rfl #[.int .i64 a1, .int .i64 a2, .int .i64 a3, .int .i64 a4, .int .i64 a5] rfl (by (try simp only [List.map_toArray, List.map_cons, List.map_nil]); first | done | rfl | (simp only [List.length_drop, List.length_take]; rfl)) ?_; (with_reducible refine (payrollref2_Part.calls k1 a1 a2 a3 a4 a5 t178 t179 _ A83.out).mono ?_); rintro e w' ⟨rfl, ⟨nd, rfl⟩⟩; refine ⟨_, rfl, ?_⟩) | (go_at_call 17; (with_reducible refine (payrolllaw2_sane.calls k1  t180 _ A86.out).mono ?_); rintro e w87 ⟨rfl, hb⟩; have n0_ := Aside0.mk (IsS53.below (by repeat (first | (with_reducible first | exact HI175.out | apply IsS53.alloc | apply IsS53.drewN | apply IsS53.drew | apply IsS53.set_1) | exact HI175.out)) hb); have n1_ := Aside0.mk (below_step (by repeat (first | (with_reducible first | exact HB.out | apply below_alloc | apply pw_below_drewN | apply below_drew1 | refine below_set ?_ (IsS53.ge HI175.out)) | exact HB.out)) hb); clear HI175; clear HB; have HI175 := n0_; have HB := n1_; clear n0_ n1_; (try clear hb); (try clear hb2); (try clear hk); (try clear hi)))
            go_ret
            exact ⟨by first | rfl | (simp [errW_none, errW_some] <;> rfl) | (simp [*, errW_none, errW_some] <;> rfl), by repeat (first | (with_reducible first | exact HB.out | apply below_alloc | apply pw_below_drewN | apply below_drew1 | refine below_set ?_ (IsS53.ge HI175.out)) | exact HB.out)⟩
          · rw [if_neg c85] at H
            have c85b0 : (t177 == t179) = false := beq_eq_false_iff_ne.mpr c85
            have c85b1 : (t177 != t179) = true := bne_iff_ne.mpr c85
            obtain rfl := Option.some.inj H
            go_wp2_with (first | ((with_reducible refine gate_callee (f := 18) rfl ?_); refine goesL_ (some 88) rfl rfl Try.func18 (by kernel_rfl) rfl #[.int .i64 a1, .int .i64 a2, .int .i64 a3, .int .i64 a4, .int .i64 a5] rfl (by (try simp only [List.map_toArray, List.map_cons, List.map_nil]); first | done | rfl | (simp only [List.length_drop, List.length_take]; rfl)) ?_; (with_reducible refine (rounding_Part.calls k1 a1 a2 a3 a4 a5 t176 t177 _ A82.out).mono ?_); rintro e w' ⟨rfl, ⟨nd, rfl⟩⟩; refine ⟨_, rfl, ?_⟩) | ((with_reducible refine gate_callee (f := 19) rfl ?_); refine goesL_ (some 97) rfl rfl Try.func19 (by kernel_rfl) rfl #[.int .i64 a1, .int .i64 a2, .int .i64 a3, .int .i64 a4, .int .i64 a5] rfl (by (try simp only [List.map_toArray, List.map_cons, List.map_nil]); first | done | rfl | (simp only [List.length_drop, List.length_take]; rfl)) ?_; (with_reducible refine (payrollref2_Part.calls k1 a1 a2 a3 a4 a5 t178 t179 _ A83.out).mono ?_); rintro e w' ⟨rfl, ⟨nd, rfl⟩⟩; refine ⟨_, rfl, ?_⟩))
            go_ret
            exact ⟨by first | rfl | (simp [errW_none, errW_some] <;> rfl) | (simp [*, errW_none, errW_some] <;> rfl), by repeat (first | (with_reducible first | exact HB.out | apply below_alloc | apply pw_below_drewN | apply below_drew1 | refine below_set ?_ (IsS53.ge HI175.out)) | exact HB.out)⟩
        · rw [if_neg c84] at H
          have c84b0 : (t176 == t178) = false := beq_eq_false_iff_ne.mpr c84
          have c84b1 : (t176 != t178) = true := bne_iff_ne.mpr c84
          obtain rfl := Option.some.inj H
          go_wp2_with (first | ((with_reducible refine gate_callee (f := 18) rfl ?_); refine goesL_ (some 88) rfl rfl Try.func18 (by kernel_rfl) rfl #[.int .i64 a1, .int .i64 a2, .int .i64 a3, .int .i64 a4, .int .i64 a5] rfl (by (try simp only [List.map_toArray, List.map_cons, List.map_nil]); first | done | rfl | (simp only [List.length_drop, List.length_take]; rfl)) ?_; (with_reducible refine (rounding_Part.calls k1 a1 a2 a3 a4 a5 t176 t177 _ A82.out).mono ?_); rintro e w' ⟨rfl, ⟨nd, rfl⟩⟩; refine ⟨_, rfl, ?_⟩) | ((with_reducible refine gate_callee (f := 19) rfl ?_); refine goesL_ (some 97) rfl rfl Try.func19 (by kernel_rfl) rfl #[.int .i64 a1, .int .i64 a2, .int .i64 a3, .int .i64 a4, .int .i64 a5] rfl (by (try simp only [List.map_toArray, List.map_cons, List.map_nil]); first | done | rfl | (simp only [List.length_drop, List.length_take]; rfl)) ?_; (with_reducible refine (payrollref2_Part.calls k1 a1 a2 a3 a4 a5 t178 t179 _ A83.out).mono ?_); rintro e w' ⟨rfl, ⟨nd, rfl⟩⟩; refine ⟨_, rfl, ?_⟩))
          go_ret
          exact ⟨by first | rfl | (simp [errW_none, errW_some] <;> rfl) | (simp [*, errW_none, errW_some] <;> rfl), by repeat (first | (with_reducible first | exact HB.out | apply below_alloc | apply pw_below_drewN | apply below_drew1 | refine below_set ?_ (IsS53.ge HI175.out)) | exact HB.out)⟩

/-- THE ONE PURE STATEMENT of payrolllaw2_RoundingParts: yours. -/
def payrolllaw2_RoundingParts.Pure : Prop := ∀ (l0 : List Int) (a1 : Int) (a2 : Int) (a3 : Int) (a4 : Int) (a5 : Int), l0.length ≤ maxLen → l0.length * 8 ≤ 140737488351232 → (∀ x ∈ l0, (Lit.int .i64 x).wf = true) → (Lit.int .i64 a1).wf = true → (Lit.int .i64 a2).wf = true → (Lit.int .i64 a3).wf = true → (Lit.int .i64 a4).wf = true → (Lit.int .i64 a5).wf = true → ∃ k, payrolllaw2_RoundingParts.f k l0 a1 a2 a3 a4 a5 = some true
theorem payrolllaw2_RoundingParts.walk (P : payrolllaw2_RoundingParts.Pure) (a0 : Option Addr) (len0 cap0 : Nat) (z0 : List Int) (a1 : Int) (a2 : Int) (a3 : Int) (a4 : Int) (a5 : Int) (w : World) (w0 : (a0 = none ∧ len0 = 0 ∧ cap0 = 0 ∧ z0 = []) ∨ ∃ x, a0 = some x ∧ len0 ≤ cap0 ∧ cap0 ≤ maxLen ∧ z0.length = cap0 ∧ (∀ i, i < z0.length → w.cell? (x.add i) = some (.int .i64 (z0.getD i 0))) ∧ ∀ n ∈ z0, (Lit.int .i64 n).wf = true) (y0 : len0 * 8 ≤ 140737488351232) (w1 : (Lit.int .i64 a1).wf = true) (w2 : (Lit.int .i64 a2).wf = true) (w3 : (Lit.int .i64 a3).wf = true) (w4 : (Lit.int .i64 a4).wf = true) (w5 : (Lit.int .i64 a5).wf = true) :
    Calls Try.prog 4 #[.slice a0 len0 cap0, .int .i64 a1, .int .i64 a2, .int .i64 a3, .int .i64 a4, .int .i64 a5] w fun e w' => e = .returned (.bool true) ∧ Below w.heap.size w w' := by
  obtain ⟨l0, rfl, hr0, hm0, hw0, hc0⟩ := ReadsInt.ofRowC w0
  obtain ⟨k, h⟩ := P l0 a1 a2 a3 a4 a5 hm0 y0 hw0 w1 w2 w3 w4 w5
  refine (payrolllaw2_RoundingParts.calls k _ _ l0 a1 a2 a3 a4 a5 true w (Kd.C_of_reads (d := (0 : Int)) (h1 := fun _ => rfl) hr0) hc0 h).mono ?_
  rintro e w' ⟨rfl, hd⟩
  exact ⟨rfl, hd⟩

end Go.Proofs.Ytcipegkeoheikaa.P
