-- Written by a program of this session: the machine side of the proofs, out of Lean's own print of the program. Lean checks it.
import Derived.Test.YtcipegkeoheikaaPNx0
namespace Go.Proofs.Ytcipegkeoheikaa.PN
open Go.RowKit Go.Proofs.YtcipegkeoheikaaW.PrintWords Go.Proofs.YtcipegkeoheikaaW.PrintLast Go.Proofs.YtcipegkeoheikaaW.PrintMore
attribute [local go_sem] max2_int min2_int max_two min_two max_three min_three max_four min_four   -- for this text's walks alone
set_option linter.unusedVariables false
set_option linter.unusedSimpArgs false

/-! ### rounding_up: function 51 -/
def rounding_up.f (a0 : Bool) (a1 : Int) (a2 : Int) (a3 : Int) : Option (Bool) := if a3 = 2 then (some false) else (if a3 = 3 then (some true) else (if a3 = 0 then (some (!a0)) else (if a3 = 1 then (some a0) else (if a2 = 0 then (if a3 = 4 then (some a0) else (if a3 = 5 then (some (!a0)) else (some ((Int.tmod a1 2) != 0)))) else (some (decide (a2 > 0)))))))
set_option maxHeartbeats 8000000 in
set_option maxRecDepth 100000 in
theorem rounding_up.calls (a0 : Bool) (a1 : Int) (a2 : Int) (a3 : Int) (r : Bool) (w : World) (h : rounding_up.f a0 a1 a2 a3 = some r) :
 Calls Try.prog 51 #[.bool a0, .int .i64 a1, .int .i64 a2, .int .i64 a3] w fun e w' => e = .returned (.bool r) ∧ Drawn0 w w' := by
 have H : (if a3 = 2 then (some false) else (if a3 = 3 then (some true) else (if a3 = 0 then (some (!a0)) else (if a3 = 1 then (some a0) else (if a2 = 0 then (if a3 = 4 then (some a0) else (if a3 = 5 then (some (!a0)) else (some ((Int.tmod a1 2) != 0)))) else (some (decide (a2 > 0)))))))) = some r := h
 clear h
 by_cases c5 : a3 = 2
 ·
  rw [if_pos c5] at H
  have c5b0 : (a3 == 2) = true := beq_iff_eq.mpr c5
  have c5b1 : (a3 != 2) = false := bne_eq_false_iff_eq.mpr c5
  clear c5
  obtain rfl := Option.some.inj H
  go_enter Try.func51, Try.ntmps51
  go_wp2
  go_ret
  exact ⟨by first | rfl | (simp; done) | (simp [*]; done), by repeat (first | exact Drawn0.refl _ | apply Drawn0.step)⟩
 ·
  rw [if_neg c5] at H
  have c5b0 : (a3 == 2) = false := beq_eq_false_iff_ne.mpr c5
  have c5b1 : (a3 != 2) = true := bne_iff_ne.mpr c5
  by_cases c6 : a3 = 3
  ·
   rw [if_pos c6] at H
   have c6b0 : (a3 == 3) = true := beq_iff_eq.mpr c6
   have c6b1 : (a3 != 3) = false := bne_eq_false_iff_eq.mpr c6
   clear c6
   obtain rfl := Option.some.inj H
   go_enter Try.func51, Try.ntmps51
   go_wp2
   go_ret
   exact ⟨by first | rfl | (simp; done) | (simp [*]; done), by repeat (first | exact Drawn0.refl _ | apply Drawn0.step)⟩
  ·
   rw [if_neg c6] at H
   have c6b0 : (a3 == 3) = false := beq_eq_false_iff_ne.mpr c6
   have c6b1 : (a3 != 3) = true := bne_iff_ne.mpr c6
   by_cases c7 : a3 = 0
   ·
    rw [if_pos c7] at H
    have c7b0 : (a3 == 0) = true := beq_iff_eq.mpr c7
    have c7b1 : (a3 != 0) = false := bne_eq_false_iff_eq.mpr c7
    clear c7
    obtain rfl := Option.some.inj H
    go_enter Try.func51, Try.ntmps51
    go_wp2
    go_ret
    exact ⟨by first | rfl | (simp; done) | (simp [*]; done), by repeat (first | exact Drawn0.refl _ | apply Drawn0.step)⟩
   ·
    rw [if_neg c7] at H
    have c7b0 : (a3 == 0) = false := beq_eq_false_iff_ne.mpr c7
    have c7b1 : (a3 != 0) = true := bne_iff_ne.mpr c7
    by_cases c8 : a3 = 1
    ·
     rw [if_pos c8] at H
     have c8b0 : (a3 == 1) = true := beq_iff_eq.mpr c8
     have c8b1 : (a3 != 1) = false := bne_eq_false_iff_eq.mpr c8
     clear c8
     obtain rfl := Option.some.inj H
     go_enter Try.func51, Try.ntmps51
     go_wp2
     go_ret
     exact ⟨by first | rfl | (simp; done) | (simp [*]; done), by repeat (first | exact Drawn0.refl _ | apply Drawn0.step)⟩
    ·
     rw [if_neg c8] at H
     have c8b0 : (a3 == 1) = false := beq_eq_false_iff_ne.mpr c8
     have c8b1 : (a3 != 1) = true := bne_iff_ne.mpr c8
     by_cases c9 : a2 = 0
     ·
      rw [if_pos c9] at H
      have c9b0 : (a2 == 0) = true := beq_iff_eq.mpr c9
      have c9b1 : (a2 != 0) = false := bne_eq_false_iff_eq.mpr c9
      clear c9
      by_cases c10 : a3 = 4
      ·
       rw [if_pos c10] at H
       have c10b0 : (a3 == 4) = true := beq_iff_eq.mpr c10
       have c10b1 : (a3 != 4) = false := bne_eq_false_iff_eq.mpr c10
       clear c10
       obtain rfl := Option.some.inj H
       go_enter Try.func51, Try.ntmps51
       go_wp2
       go_ret
       exact ⟨by first | rfl | (simp; done) | (simp [*]; done), by repeat (first | exact Drawn0.refl _ | apply Drawn0.step)⟩
      ·
       rw [if_neg c10] at H
       have c10b0 : (a3 == 4) = false := beq_eq_false_iff_ne.mpr c10
       have c10b1 : (a3 != 4) = true := bne_iff_ne.mpr c10
       by_cases c11 : a3 = 5
       ·
        rw [if_pos c11] at H
        have c11b0 : (a3 == 5) = true := beq_iff_eq.mpr c11
        have c11b1 : (a3 != 5) = false := bne_eq_false_iff_eq.mpr c11
        clear c11
        obtain rfl := Option.some.inj H
        go_enter Try.func51, Try.ntmps51
        go_wp2
        go_ret
        exact ⟨by first | rfl | (simp; done) | (simp [*]; done), by repeat (first | exact Drawn0.refl _ | apply Drawn0.step)⟩
       ·
        rw [if_neg c11] at H
        have c11b0 : (a3 == 5) = false := beq_eq_false_iff_ne.mpr c11
        have c11b1 : (a3 != 5) = true := bne_iff_ne.mpr c11
        obtain rfl := Option.some.inj H
        go_enter Try.func51, Try.ntmps51
        go_wp2
        go_ret
        exact ⟨by first | rfl | (simp; done) | (simp [*]; done), by repeat (first | exact Drawn0.refl _ | apply Drawn0.step)⟩
     ·
      rw [if_neg c9] at H
      have c9b0 : (a2 == 0) = false := beq_eq_false_iff_ne.mpr c9
      have c9b1 : (a2 != 0) = true := bne_iff_ne.mpr c9
      obtain rfl := Option.some.inj H
      go_enter Try.func51, Try.ntmps51
      go_wp2
      go_ret
      exact ⟨by first | rfl | (simp; done) | (simp [*]; done), by repeat (first | exact Drawn0.refl _ | apply Drawn0.step)⟩

/-! ### rounding_whole: function 38 -/
def rounding_whole.f (a0 : Int) (a1 : Int) (a2 : Int) : Option (Int) := if a1 = 0 then (none) else (if (Int.tmod a0 a1) < 0 then (if (wrap64 ((Int.tmod a0 a1) + a1)) > 0 then ((rounding_up.f (decide (a0 > 0)) (wrap64 ((wrap64 (Int.tdiv a0 a1)) - 1)) (wrap64 ((wrap64 (2 * (wrap64 ((Int.tmod a0 a1) + a1)))) - a1)) a2).bind fun t125 => (if t125 = true then (some (wrap64 ((wrap64 ((wrap64 (Int.tdiv a0 a1)) - 1)) + 1))) else (some (wrap64 ((wrap64 (Int.tdiv a0 a1)) - 1))))) else (some (wrap64 ((wrap64 (Int.tdiv a0 a1)) - 1)))) else (if (Int.tmod a0 a1) > 0 then ((rounding_up.f (decide (a0 > 0)) (wrap64 (Int.tdiv a0 a1)) (wrap64 ((wrap64 (2 * (Int.tmod a0 a1))) - a1)) a2).bind fun t126 => (if t126 = true then (some (wrap64 ((wrap64 (Int.tdiv a0 a1)) + 1))) else (some (wrap64 (Int.tdiv a0 a1))))) else (some (wrap64 (Int.tdiv a0 a1)))))
set_option maxHeartbeats 8000000 in
set_option maxRecDepth 100000 in
theorem rounding_whole.calls (a0 : Int) (a1 : Int) (a2 : Int) (r : Int) (w : World) (h : rounding_whole.f a0 a1 a2 = some r) :
 Calls Try.prog 38 #[.int .i64 a0, .int .i64 a1, .int .i64 a2] w fun e w' => e = .returned (.int .i64 r) ∧ Drawn0 w w' := by
 have H : (if a1 = 0 then (none) else (if (Int.tmod a0 a1) < 0 then (if (wrap64 ((Int.tmod a0 a1) + a1)) > 0 then ((rounding_up.f (decide (a0 > 0)) (wrap64 ((wrap64 (Int.tdiv a0 a1)) - 1)) (wrap64 ((wrap64 (2 * (wrap64 ((Int.tmod a0 a1) + a1)))) - a1)) a2).bind fun t125 => (if t125 = true then (some (wrap64 ((wrap64 ((wrap64 (Int.tdiv a0 a1)) - 1)) + 1))) else (some (wrap64 ((wrap64 (Int.tdiv a0 a1)) - 1))))) else (some (wrap64 ((wrap64 (Int.tdiv a0 a1)) - 1)))) else (if (Int.tmod a0 a1) > 0 then ((rounding_up.f (decide (a0 > 0)) (wrap64 (Int.tdiv a0 a1)) (wrap64 ((wrap64 (2 * (Int.tmod a0 a1))) - a1)) a2).bind fun t126 => (if t126 = true then (some (wrap64 ((wrap64 (Int.tdiv a0 a1)) + 1))) else (some (wrap64 (Int.tdiv a0 a1))))) else (some (wrap64 (Int.tdiv a0 a1)))))) = some r := h
 clear h
 by_cases c4 : a1 = 0
 ·
  rw [if_pos c4] at H
  exact absurd H (by simp)
 ·
  rw [if_neg c4] at H
  have c4b0 : (a1 == 0) = false := beq_eq_false_iff_ne.mpr c4
  have c4b1 : (a1 != 0) = true := bne_iff_ne.mpr c4
  by_cases c5 : (Int.tmod a0 a1) < 0
  ·
   rw [if_pos c5] at H
   have c5b0 : decide ((Int.tmod a0 a1) < 0) = true := decide_eq_true c5
   clear c5
   by_cases c6 : (wrap64 ((Int.tmod a0 a1) + a1)) > 0
   ·
    rw [if_pos c6] at H
    have c6b0 : decide (0 < (wrap64 ((Int.tmod a0 a1) + a1))) = true := decide_eq_true c6
    clear c6
    replace H := Option.bind_eq_some_iff.mp H
    obtain ⟨t125, A70, H⟩ := H
    replace H : (if t125 = true then (some (wrap64 ((wrap64 ((wrap64 (Int.tdiv a0 a1)) - 1)) + 1))) else (some (wrap64 ((wrap64 (Int.tdiv a0 a1)) - 1)))) = some r := H
    have A7 := Aside0.mk A70
    clear A70
    by_cases c8 : t125 = true
    ·
     subst c8
     have H1 : (some (wrap64 ((wrap64 ((wrap64 (Int.tdiv a0 a1)) - 1)) + 1))) = some r := by rw [if_pos rfl] at H; exact H
     clear H
     have H := H1
     clear H1
     obtain rfl := Option.some.inj H
     go_enter Try.func38, Try.ntmps38
     go_wp2_with (first | (go_at_call 51; (with_reducible refine (rounding_up.calls (decide (a0 > 0)) (wrap64 ((wrap64 (Int.tdiv a0 a1)) - 1)) (wrap64 ((wrap64 (2 * (wrap64 ((Int.tmod a0 a1) + a1)))) - a1)) a2 true _ A7.out).mono ?_); rintro e w' ⟨rfl, ⟨nd, rfl⟩⟩; (try first | exact ⟨rfl, _, World.drewN_drewN _ _ _⟩ | exact ⟨rfl, _, Eq.trans (World.drewN_drewN _ _ _) (congrArg (World.drewN _) (Nat.add_assoc _ _ _))⟩)))
     repeat (go_quiet (first | (go_at_call 51; (with_reducible refine (rounding_up.calls (decide (a0 > 0)) (wrap64 ((wrap64 (Int.tdiv a0 a1)) - 1)) (wrap64 ((wrap64 (2 * (wrap64 ((Int.tmod a0 a1) + a1)))) - a1)) a2 true _ A7.out).mono ?_); rintro e w' ⟨rfl, ⟨nd, rfl⟩⟩; (try first | exact ⟨rfl, _, World.drewN_drewN _ _ _⟩ | exact ⟨rfl, _, Eq.trans (World.drewN_drewN _ _ _) (congrArg (World.drewN _) (Nat.add_assoc _ _ _))⟩))); try go_wp2_with (first | (go_at_call 51; (with_reducible refine (rounding_up.calls (decide (a0 > 0)) (wrap64 ((wrap64 (Int.tdiv a0 a1)) - 1)) (wrap64 ((wrap64 (2 * (wrap64 ((Int.tmod a0 a1) + a1)))) - a1)) a2 true _ A7.out).mono ?_); rintro e w' ⟨rfl, ⟨nd, rfl⟩⟩; (try first | exact ⟨rfl, _, World.drewN_drewN _ _ _⟩ | exact ⟨rfl, _, Eq.trans (World.drewN_drewN _ _ _) (congrArg (World.drewN _) (Nat.add_assoc _ _ _))⟩))))
     go_ret
     exact ⟨by first | rfl | (simp; done) | (simp [*]; done), by repeat (first | exact Drawn0.refl _ | apply Drawn0.step)⟩
    ·
     replace c8 := Bool.eq_false_iff.mpr c8
     subst c8
     have H1 : (some (wrap64 ((wrap64 (Int.tdiv a0 a1)) - 1))) = some r := by rw [if_neg (show ¬ (false = true) by decide)] at H; exact H
     clear H
     have H := H1
     clear H1
     obtain rfl := Option.some.inj H
     go_enter Try.func38, Try.ntmps38
     go_wp2_with (first | (go_at_call 51; (with_reducible refine (rounding_up.calls (decide (a0 > 0)) (wrap64 ((wrap64 (Int.tdiv a0 a1)) - 1)) (wrap64 ((wrap64 (2 * (wrap64 ((Int.tmod a0 a1) + a1)))) - a1)) a2 false _ A7.out).mono ?_); rintro e w' ⟨rfl, ⟨nd, rfl⟩⟩; (try first | exact ⟨rfl, _, World.drewN_drewN _ _ _⟩ | exact ⟨rfl, _, Eq.trans (World.drewN_drewN _ _ _) (congrArg (World.drewN _) (Nat.add_assoc _ _ _))⟩)))
     repeat (go_quiet (first | (go_at_call 51; (with_reducible refine (rounding_up.calls (decide (a0 > 0)) (wrap64 ((wrap64 (Int.tdiv a0 a1)) - 1)) (wrap64 ((wrap64 (2 * (wrap64 ((Int.tmod a0 a1) + a1)))) - a1)) a2 false _ A7.out).mono ?_); rintro e w' ⟨rfl, ⟨nd, rfl⟩⟩; (try first | exact ⟨rfl, _, World.drewN_drewN _ _ _⟩ | exact ⟨rfl, _, Eq.trans (World.drewN_drewN _ _ _) (congrArg (World.drewN _) (Nat.add_assoc _ _ _))⟩))); try go_wp2_with (first | (go_at_call 51; (with_reducible refine (rounding_up.calls (decide (a0 > 0)) (wrap64 ((wrap64 (Int.tdiv a0 a1)) - 1)) (wrap64 ((wrap64 (2 * (wrap64 ((Int.tmod a0 a1) + a1)))) - a1)) a2 false _ A7.out).mono ?_); rintro e w' ⟨rfl, ⟨nd, rfl⟩⟩; (try first | exact ⟨rfl, _, World.drewN_drewN _ _ _⟩ | exact ⟨rfl, _, Eq.trans (World.drewN_drewN _ _ _) (congrArg (World.drewN _) (Nat.add_assoc _ _ _))⟩))))
     go_ret
     exact ⟨by first | rfl | (simp; done) | (simp [*]; done), by repeat (first | exact Drawn0.refl _ | apply Drawn0.step)⟩
   ·
    rw [if_neg c6] at H
    have c6b0 : decide (0 < (wrap64 ((Int.tmod a0 a1) + a1))) = false := decide_eq_false c6
    clear c6
    obtain rfl := Option.some.inj H
    go_enter Try.func38, Try.ntmps38
    go_wp2
    repeat (go_quiet (fail); try go_wp2)
    go_ret
    exact ⟨by first | rfl | (simp; done) | (simp [*]; done), by repeat (first | exact Drawn0.refl _ | apply Drawn0.step)⟩
  ·
   rw [if_neg c5] at H
   have c5b0 : decide ((Int.tmod a0 a1) < 0) = false := decide_eq_false c5
   clear c5
   by_cases c9 : (Int.tmod a0 a1) > 0
   ·
    rw [if_pos c9] at H
    have c9b0 : decide (0 < (Int.tmod a0 a1)) = true := decide_eq_true c9
    clear c9
    replace H := Option.bind_eq_some_iff.mp H
    obtain ⟨t126, A100, H⟩ := H
    replace H : (if t126 = true then (some (wrap64 ((wrap64 (Int.tdiv a0 a1)) + 1))) else (some (wrap64 (Int.tdiv a0 a1)))) = some r := H
    have A10 := Aside0.mk A100
    clear A100
    by_cases c11 : t126 = true
    ·
     subst c11
     have H1 : (some (wrap64 ((wrap64 (Int.tdiv a0 a1)) + 1))) = some r := by rw [if_pos rfl] at H; exact H
     clear H
     have H := H1
     clear H1
     obtain rfl := Option.some.inj H
     go_enter Try.func38, Try.ntmps38
     go_wp2_with (first | (go_at_call 51; (with_reducible refine (rounding_up.calls (decide (a0 > 0)) (wrap64 (Int.tdiv a0 a1)) (wrap64 ((wrap64 (2 * (Int.tmod a0 a1))) - a1)) a2 true _ A10.out).mono ?_); rintro e w' ⟨rfl, ⟨nd, rfl⟩⟩; (try first | exact ⟨rfl, _, World.drewN_drewN _ _ _⟩ | exact ⟨rfl, _, Eq.trans (World.drewN_drewN _ _ _) (congrArg (World.drewN _) (Nat.add_assoc _ _ _))⟩)))
     repeat (go_quiet (first | (go_at_call 51; (with_reducible refine (rounding_up.calls (decide (a0 > 0)) (wrap64 (Int.tdiv a0 a1)) (wrap64 ((wrap64 (2 * (Int.tmod a0 a1))) - a1)) a2 true _ A10.out).mono ?_); rintro e w' ⟨rfl, ⟨nd, rfl⟩⟩; (try first | exact ⟨rfl, _, World.drewN_drewN _ _ _⟩ | exact ⟨rfl, _, Eq.trans (World.drewN_drewN _ _ _) (congrArg (World.drewN _) (Nat.add_assoc _ _ _))⟩))); try go_wp2_with (first | (go_at_call 51; (with_reducible refine (rounding_up.calls (decide (a0 > 0)) (wrap64 (Int.tdiv a0 a1)) (wrap64 ((wrap64 (2 * (Int.tmod a0 a1))) - a1)) a2 true _ A10.out).mono ?_); rintro e w' ⟨rfl, ⟨nd, rfl⟩⟩; (try first | exact ⟨rfl, _, World.drewN_drewN _ _ _⟩ | exact ⟨rfl, _, Eq.trans (World.drewN_drewN _ _ _) (congrArg (World.drewN _) (Nat.add_assoc _ _ _))⟩))))
     go_ret
     exact ⟨by first | rfl | (simp; done) | (simp [*]; done), by repeat (first | exact Drawn0.refl _ | apply Drawn0.step)⟩
    ·
     replace c11 := Bool.eq_false_iff.mpr c11
     subst c11
     have H1 : (some (wrap64 (Int.tdiv a0 a1))) = some r := by rw [if_neg (show ¬ (false = true) by decide)] at H; exact H
     clear H
     have H := H1
     clear H1
     obtain rfl := Option.some.inj H
     go_enter Try.func38, Try.ntmps38
     go_wp2_with (first | (go_at_call 51; (with_reducible refine (rounding_up.calls (decide (a0 > 0)) (wrap64 (Int.tdiv a0 a1)) (wrap64 ((wrap64 (2 * (Int.tmod a0 a1))) - a1)) a2 false _ A10.out).mono ?_); rintro e w' ⟨rfl, ⟨nd, rfl⟩⟩; (try first | exact ⟨rfl, _, World.drewN_drewN _ _ _⟩ | exact ⟨rfl, _, Eq.trans (World.drewN_drewN _ _ _) (congrArg (World.drewN _) (Nat.add_assoc _ _ _))⟩)))
     repeat (go_quiet (first | (go_at_call 51; (with_reducible refine (rounding_up.calls (decide (a0 > 0)) (wrap64 (Int.tdiv a0 a1)) (wrap64 ((wrap64 (2 * (Int.tmod a0 a1))) - a1)) a2 false _ A10.out).mono ?_); rintro e w' ⟨rfl, ⟨nd, rfl⟩⟩; (try first | exact ⟨rfl, _, World.drewN_drewN _ _ _⟩ | exact ⟨rfl, _, Eq.trans (World.drewN_drewN _ _ _) (congrArg (World.drewN _) (Nat.add_assoc _ _ _))⟩))); try go_wp2_with (first | (go_at_call 51; (with_reducible refine (rounding_up.calls (decide (a0 > 0)) (wrap64 (Int.tdiv a0 a1)) (wrap64 ((wrap64 (2 * (Int.tmod a0 a1))) - a1)) a2 false _ A10.out).mono ?_); rintro e w' ⟨rfl, ⟨nd, rfl⟩⟩; (try first | exact ⟨rfl, _, World.drewN_drewN _ _ _⟩ | exact ⟨rfl, _, Eq.trans (World.drewN_drewN _ _ _) (congrArg (World.drewN _) (Nat.add_assoc _ _ _))⟩))))
     go_ret
     exact ⟨by first | rfl | (simp; done) | (simp [*]; done), by repeat (first | exact Drawn0.refl _ | apply Drawn0.step)⟩
   ·
    rw [if_neg c9] at H
    have c9b0 : decide (0 < (Int.tmod a0 a1)) = false := decide_eq_false c9
    clear c9
    obtain rfl := Option.some.inj H
    go_enter Try.func38, Try.ntmps38
    go_wp2
    repeat (go_quiet (fail); try go_wp2)
    go_ret
    exact ⟨by first | rfl | (simp; done) | (simp [*]; done), by repeat (first | exact Drawn0.refl _ | apply Drawn0.step)⟩

/-! ### rounding_Part: function 18 -/
def rounding_Part.j0 : Nat → Int → Int → Int → Int → Int → Bool → Option (Int × Int)
 | 0, _, _, _, _, _, _ => none
 | k + 1, x0, x1, x2, x3, x4, x50 => if x50 = true then (some (0, 2)) else ((rounding_whole.f (wrap64 (x0 * x1)) (wrap64 (x2 * x3)) x4).bind fun t127 => (if (wrap64 (t127 * x3)) < (-1000000000000) then (some (0, 4)) else (if (wrap64 (t127 * x3)) > 1000000000000 then (some (0, 4)) else (some (wrap64 (t127 * x3), 0)))))
def rounding_Part.f (k : Nat) (a0 : Int) (a1 : Int) (a2 : Int) (a3 : Int) (a4 : Int) : Option (Int × Int) := if a0 < (-1000000000000) then (rounding_Part.j0 k a0 a1 a2 a3 a4 true) else (if a0 > 1000000000000 then (rounding_Part.j0 k a0 a1 a2 a3 a4 true) else (if a1 < 0 then (rounding_Part.j0 k a0 a1 a2 a3 a4 true) else (if a1 > 1000000 then (rounding_Part.j0 k a0 a1 a2 a3 a4 true) else (if a2 < 1 then (rounding_Part.j0 k a0 a1 a2 a3 a4 true) else (if a2 > 1000000 then (rounding_Part.j0 k a0 a1 a2 a3 a4 true) else (if a3 < 1 then (rounding_Part.j0 k a0 a1 a2 a3 a4 true) else (if a3 > 1000000 then (rounding_Part.j0 k a0 a1 a2 a3 a4 true) else (if a4 < 0 then (rounding_Part.j0 k a0 a1 a2 a3 a4 true) else (rounding_Part.j0 k a0 a1 a2 a3 a4 (decide (a4 > 6)))))))))))
theorem rounding_Part.mono_l : ∀ k, (∀ y0 y1 y2 y3 y4 y5, LeO (rounding_Part.j0 k y0 y1 y2 y3 y4 y5) (rounding_Part.j0 (k + 1) y0 y1 y2 y3 y4 y5))
 | 0 => fun _ _ _ _ _ _ r h => by simp [rounding_Part.j0] at h
 | k + 1 => by
  have ih0 := rounding_Part.mono_l k
  ·
   intro y0 y1 y2 y3 y4 y5
   unfold rounding_Part.j0
   repeat' first
   | (with_reducible exact ih0 _ _ _ _ _ _)
   | (with_reducible exact LeO.refl _)
   | (with_reducible exact LeO.none _)
   | (with_reducible refine LeO.ite ?_ ?_)
   | (with_reducible refine LeO.bind ?_ (fun _ => ?_))
   | exact ih0 _ _ _ _ _ _
   | exact LeO.none _
   | refine LeO.ite ?_ ?_
   | refine LeO.bind ?_ (fun _ => ?_)
theorem rounding_Part.mono : ∀ a0 a1 a2 a3 a4 k, LeO (rounding_Part.f k a0 a1 a2 a3 a4) (rounding_Part.f (k + 1) a0 a1 a2 a3 a4) := by
 intro a0 a1 a2 a3 a4 k
 have ih0 := rounding_Part.mono_l k
 unfold rounding_Part.f
 repeat' first
  | (with_reducible exact ih0 _ _ _ _ _ _)
  | (with_reducible exact LeO.refl _)
  | (with_reducible exact LeO.none _)
  | (with_reducible refine LeO.ite ?_ ?_)
  | (with_reducible refine LeO.bind ?_ (fun _ => ?_))
  | exact ih0 _ _ _ _ _ _
  | exact LeO.none _
  | refine LeO.ite ?_ ?_
  | refine LeO.bind ?_ (fun _ => ?_)
set_option maxHeartbeats 8000000 in
set_option maxRecDepth 100000 in
theorem rounding_Part.calls (k : Nat) (a0 : Int) (a1 : Int) (a2 : Int) (a3 : Int) (a4 : Int) (r1 : Int) (r2 : Int) (w : World) (h : rounding_Part.f k a0 a1 a2 a3 a4 = some (r1, r2)) :
 Calls Try.prog 18 #[.int .i64 a0, .int .i64 a1, .int .i64 a2, .int .i64 a3, .int .i64 a4] w fun e w' => e = .returned (.tuple #[.int .i64 r1, .int .i64 r2]) ∧ Drawn0 w w' := by
 have H : (if a0 < (-1000000000000) then (rounding_Part.j0 k a0 a1 a2 a3 a4 true) else (if a0 > 1000000000000 then (rounding_Part.j0 k a0 a1 a2 a3 a4 true) else (if a1 < 0 then (rounding_Part.j0 k a0 a1 a2 a3 a4 true) else (if a1 > 1000000 then (rounding_Part.j0 k a0 a1 a2 a3 a4 true) else (if a2 < 1 then (rounding_Part.j0 k a0 a1 a2 a3 a4 true) else (if a2 > 1000000 then (rounding_Part.j0 k a0 a1 a2 a3 a4 true) else (if a3 < 1 then (rounding_Part.j0 k a0 a1 a2 a3 a4 true) else (if a3 > 1000000 then (rounding_Part.j0 k a0 a1 a2 a3 a4 true) else (if a4 < 0 then (rounding_Part.j0 k a0 a1 a2 a3 a4 true) else (rounding_Part.j0 k a0 a1 a2 a3 a4 (decide (a4 > 6)))))))))))) = some (r1, r2) := h
 clear h
 have HC6 := Aside0.mk H
 clear H
 go_enter Try.func18, Try.ntmps18
 go_upto_region 1 with (fail)
 go_cut [50] (fun v50 wc => ∃ (kq : Nat) (x50_5 : Bool), v50 = .bool x50_5 ∧ Aside0 (rounding_Part.j0 kq a0 a1 a2 a3 a4 x50_5 = some (r1, r2)) ∧ Aside0 (kq ≤ k) ∧ Drawn0 w wc)
 case first =>
  have H := HC6.out
  clear HC6
  by_cases c7 : a0 < (-1000000000000)
  ·
   rw [if_pos c7] at H
   have c7b0 : decide (a0 < (-1000000000000)) = true := decide_eq_true c7
   clear c7
   (first | rw [c7b0] | (simp only [i64_w, i32_w]; rw [c7b0]) | skip)
   have H' := Aside0.mk H
   clear H
   go_wp2
   go_meet
   case rel => exact ⟨_, (true), (by first | rfl | (simp; done) | (simp [*]; done)), H', ⟨by first | omega | exact Nat.le_refl _⟩, by repeat (first | exact Drawn0.refl _ | apply Drawn0.step)⟩
  ·
   rw [if_neg c7] at H
   have c7b0 : decide (a0 < (-1000000000000)) = false := decide_eq_false c7
   clear c7
   (first | rw [c7b0] | (simp only [i64_w, i32_w]; rw [c7b0]) | skip)
   by_cases c8 : a0 > 1000000000000
   ·
    rw [if_pos c8] at H
    have c8b0 : decide (1000000000000 < a0) = true := decide_eq_true c8
    clear c8
    have H' := Aside0.mk H
    clear H
    go_wp2
    go_meet
    case rel => exact ⟨_, (true), (by first | rfl | (simp; done) | (simp [*]; done)), H', ⟨by first | omega | exact Nat.le_refl _⟩, by repeat (first | exact Drawn0.refl _ | apply Drawn0.step)⟩
   ·
    rw [if_neg c8] at H
    have c8b0 : decide (1000000000000 < a0) = false := decide_eq_false c8
    clear c8
    by_cases c9 : a1 < 0
    ·
     rw [if_pos c9] at H
     have c9b0 : decide (a1 < 0) = true := decide_eq_true c9
     clear c9
     have H' := Aside0.mk H
     clear H
     go_wp2
     go_meet
     case rel => exact ⟨_, (true), (by first | rfl | (simp; done) | (simp [*]; done)), H', ⟨by first | omega | exact Nat.le_refl _⟩, by repeat (first | exact Drawn0.refl _ | apply Drawn0.step)⟩
    ·
     rw [if_neg c9] at H
     have c9b0 : decide (a1 < 0) = false := decide_eq_false c9
     clear c9
     by_cases c10 : a1 > 1000000
     ·
      rw [if_pos c10] at H
      have c10b0 : decide (1000000 < a1) = true := decide_eq_true c10
      clear c10
      have H' := Aside0.mk H
      clear H
      go_wp2
      go_meet
      case rel => exact ⟨_, (true), (by first | rfl | (simp; done) | (simp [*]; done)), H', ⟨by first | omega | exact Nat.le_refl _⟩, by repeat (first | exact Drawn0.refl _ | apply Drawn0.step)⟩
     ·
      rw [if_neg c10] at H
      have c10b0 : decide (1000000 < a1) = false := decide_eq_false c10
      clear c10
      by_cases c11 : a2 < 1
      ·
       rw [if_pos c11] at H
       have c11b0 : decide (a2 < 1) = true := decide_eq_true c11
       clear c11
       have H' := Aside0.mk H
       clear H
       go_wp2
       go_meet
       case rel => exact ⟨_, (true), (by first | rfl | (simp; done) | (simp [*]; done)), H', ⟨by first | omega | exact Nat.le_refl _⟩, by repeat (first | exact Drawn0.refl _ | apply Drawn0.step)⟩
      ·
       rw [if_neg c11] at H
       have c11b0 : decide (a2 < 1) = false := decide_eq_false c11
       clear c11
       by_cases c12 : a2 > 1000000
       ·
        rw [if_pos c12] at H
        have c12b0 : decide (1000000 < a2) = true := decide_eq_true c12
        clear c12
        have H' := Aside0.mk H
        clear H
        go_wp2
        go_meet
        case rel => exact ⟨_, (true), (by first | rfl | (simp; done) | (simp [*]; done)), H', ⟨by first | omega | exact Nat.le_refl _⟩, by repeat (first | exact Drawn0.refl _ | apply Drawn0.step)⟩
       ·
        rw [if_neg c12] at H
        have c12b0 : decide (1000000 < a2) = false := decide_eq_false c12
        clear c12
        by_cases c13 : a3 < 1
        ·
         rw [if_pos c13] at H
         have c13b0 : decide (a3 < 1) = true := decide_eq_true c13
         clear c13
         have H' := Aside0.mk H
         clear H
         go_wp2
         go_meet
         case rel => exact ⟨_, (true), (by first | rfl | (simp; done) | (simp [*]; done)), H', ⟨by first | omega | exact Nat.le_refl _⟩, by repeat (first | exact Drawn0.refl _ | apply Drawn0.step)⟩
        ·
         rw [if_neg c13] at H
         have c13b0 : decide (a3 < 1) = false := decide_eq_false c13
         clear c13
         by_cases c14 : a3 > 1000000
         ·
          rw [if_pos c14] at H
          have c14b0 : decide (1000000 < a3) = true := decide_eq_true c14
          clear c14
          have H' := Aside0.mk H
          clear H
          go_wp2
          go_meet
          case rel => exact ⟨_, (true), (by first | rfl | (simp; done) | (simp [*]; done)), H', ⟨by first | omega | exact Nat.le_refl _⟩, by repeat (first | exact Drawn0.refl _ | apply Drawn0.step)⟩
         ·
          rw [if_neg c14] at H
          have c14b0 : decide (1000000 < a3) = false := decide_eq_false c14
          clear c14
          by_cases c15 : a4 < 0
          ·
           rw [if_pos c15] at H
           have c15b0 : decide (a4 < 0) = true := decide_eq_true c15
           clear c15
           have H' := Aside0.mk H
           clear H
           go_wp2
           go_meet
           case rel => exact ⟨_, (true), (by first | rfl | (simp; done) | (simp [*]; done)), H', ⟨by first | omega | exact Nat.le_refl _⟩, by repeat (first | exact Drawn0.refl _ | apply Drawn0.step)⟩
          ·
           rw [if_neg c15] at H
           have c15b0 : decide (a4 < 0) = false := decide_eq_false c15
           clear c15
           have H' := Aside0.mk H
           clear H
           go_wp2
           go_meet
           case rel => exact ⟨_, (decide (a4 > 6)), (by first | rfl | (simp; done) | (simp [*]; done)), H', ⟨by first | omega | exact Nat.le_refl _⟩, by repeat (first | exact Drawn0.refl _ | apply Drawn0.step)⟩
 case rest =>
  clear HC6
  try clear c1
  try clear p2
  try clear c7
  try clear c7b0
  try clear c8
  try clear c8b0
  try clear c9
  try clear c9b0
  try clear c10
  try clear c10b0
  try clear c11
  try clear c11b0
  try clear c12
  try clear c12b0
  try clear c13
  try clear c13b0
  try clear c14
  try clear c14b0
  try clear c15
  try clear c15b0
  obtain ⟨kq, x50_5, rfl, HA, HJ5, ⟨mc5, rfl⟩⟩ := hcut
  cases kq with
  | zero => exact absurd HA.out (by simp [rounding_Part.j0])
  | succ kj5 =>
   have H := HA.out
   clear HA
   simp only [rounding_Part.j0] at H
   by_cases c16 : x50_5 = true
   ·
    subst c16
    have H1 : (some (0, 2)) = some (r1, r2) := by rw [if_pos rfl] at H; exact H
    clear H
    have H := H1
    clear H1
    simp only [Option.some.injEq, Prod.mk.injEq] at H
    obtain ⟨rfl, rfl⟩ := H
    go_wp2
    go_ret2
    exact ⟨by first | rfl | (simp; done) | (simp [*]; done), by repeat (first | exact Drawn0.refl _ | apply Drawn0.step)⟩
   ·
    replace c16 := Bool.eq_false_iff.mpr c16
    subst c16
    have H1 : ((rounding_whole.f (wrap64 (a0 * a1)) (wrap64 (a2 * a3)) a4).bind fun t127 => (if (wrap64 (t127 * a3)) < (-1000000000000) then (some (0, 4)) else (if (wrap64 (t127 * a3)) > 1000000000000 then (some (0, 4)) else (some (wrap64 (t127 * a3), 0))))) = some (r1, r2) := by rw [if_neg (show ¬ (false = true) by decide)] at H; exact H
    clear H
    have H := H1
    clear H1
    replace H := Option.bind_eq_some_iff.mp H
    obtain ⟨t127, A170, H⟩ := H
    replace H : (if (wrap64 (t127 * a3)) < (-1000000000000) then (some (0, 4)) else (if (wrap64 (t127 * a3)) > 1000000000000 then (some (0, 4)) else (some (wrap64 (t127 * a3), 0)))) = some (r1, r2) := H
    have A17 := Aside0.mk A170
    clear A170
    by_cases c18 : (wrap64 (t127 * a3)) < (-1000000000000)
    ·
     rw [if_pos c18] at H
     have c18b0 : decide ((wrap64 (t127 * a3)) < (-1000000000000)) = true := decide_eq_true c18
     clear c18
     simp only [Option.some.injEq, Prod.mk.injEq] at H
     obtain ⟨rfl, rfl⟩ := H
     go_wp2_with (first | ((with_reducible refine gate_callee (f := 38) rfl ?_); refine gq_ (some 58) rfl rfl Try.func38 #[.int .i64 (wrap64 (a0 * a1)), .int .i64 (wrap64 (a2 * a3)), .int .i64 a4] rfl ?_; (with_reducible refine (rounding_whole.calls (wrap64 (a0 * a1)) (wrap64 (a2 * a3)) a4 t127 _ A17.out).mono ?_); rintro e w' ⟨rfl, ⟨nd, rfl⟩⟩; refine ⟨_, rfl, ?_⟩))
     go_ret2
     exact ⟨by first | rfl | (simp; done) | (simp [*]; done), by repeat (first | exact Drawn0.refl _ | apply Drawn0.step)⟩
    ·
     rw [if_neg c18] at H
     have c18b0 : decide ((wrap64 (t127 * a3)) < (-1000000000000)) = false := decide_eq_false c18
     clear c18
     by_cases c19 : (wrap64 (t127 * a3)) > 1000000000000
     ·
      rw [if_pos c19] at H
      have c19b0 : decide (1000000000000 < (wrap64 (t127 * a3))) = true := decide_eq_true c19
      clear c19
      simp only [Option.some.injEq, Prod.mk.injEq] at H
      obtain ⟨rfl, rfl⟩ := H
      go_wp2_with (first | ((with_reducible refine gate_callee (f := 38) rfl ?_); refine gq_ (some 58) rfl rfl Try.func38 #[.int .i64 (wrap64 (a0 * a1)), .int .i64 (wrap64 (a2 * a3)), .int .i64 a4] rfl ?_; (with_reducible refine (rounding_whole.calls (wrap64 (a0 * a1)) (wrap64 (a2 * a3)) a4 t127 _ A17.out).mono ?_); rintro e w' ⟨rfl, ⟨nd, rfl⟩⟩; refine ⟨_, rfl, ?_⟩))
      go_ret2
      exact ⟨by first | rfl | (simp; done) | (simp [*]; done), by repeat (first | exact Drawn0.refl _ | apply Drawn0.step)⟩
     ·
      rw [if_neg c19] at H
      have c19b0 : decide (1000000000000 < (wrap64 (t127 * a3))) = false := decide_eq_false c19
      clear c19
      simp only [Option.some.injEq, Prod.mk.injEq] at H
      obtain ⟨rfl, rfl⟩ := H
      go_wp2_with (first | ((with_reducible refine gate_callee (f := 38) rfl ?_); refine gq_ (some 58) rfl rfl Try.func38 #[.int .i64 (wrap64 (a0 * a1)), .int .i64 (wrap64 (a2 * a3)), .int .i64 a4] rfl ?_; (with_reducible refine (rounding_whole.calls (wrap64 (a0 * a1)) (wrap64 (a2 * a3)) a4 t127 _ A17.out).mono ?_); rintro e w' ⟨rfl, ⟨nd, rfl⟩⟩; refine ⟨_, rfl, ?_⟩))
      go_ret2
      exact ⟨by first | rfl | (simp; done) | (simp [*]; done), by repeat (first | exact Drawn0.refl _ | apply Drawn0.step)⟩

/-! ### ratio_gcd: function 52 -/
def ratio_gcd.l0 : Nat → Int → Int → Option (Int)
 | 0, _, _ => none
 | k + 1, x0, x1 => if x0 = 0 then (some x1) else (ratio_gcd.l0 k (Int.tmod x1 x0) x0)
def ratio_gcd.f (k : Nat) (a0 : Int) (a1 : Int) : Option (Int) := ratio_gcd.l0 k a0 a1
theorem ratio_gcd.mono_l : ∀ k, (∀ y0 y1, LeO (ratio_gcd.l0 k y0 y1) (ratio_gcd.l0 (k + 1) y0 y1))
 | 0 => fun _ _ r h => by simp [ratio_gcd.l0] at h
 | k + 1 => by
  have ih0 := ratio_gcd.mono_l k
  ·
   intro y0 y1
   unfold ratio_gcd.l0
   repeat' first
   | (with_reducible exact ih0 _ _)
   | (with_reducible exact LeO.refl _)
   | (with_reducible exact LeO.none _)
   | (with_reducible refine LeO.ite ?_ ?_)
   | (with_reducible refine LeO.bind ?_ (fun _ => ?_))
   | exact ih0 _ _
   | exact LeO.none _
   | refine LeO.ite ?_ ?_
   | refine LeO.bind ?_ (fun _ => ?_)
theorem ratio_gcd.mono : ∀ a0 a1 k, LeO (ratio_gcd.f k a0 a1) (ratio_gcd.f (k + 1) a0 a1) := by
 intro a0 a1 k
 have ih0 := ratio_gcd.mono_l k
 unfold ratio_gcd.f
 repeat' first
  | (with_reducible exact ih0 _ _)
  | (with_reducible exact LeO.refl _)
  | (with_reducible exact LeO.none _)
  | (with_reducible refine LeO.ite ?_ ?_)
  | (with_reducible refine LeO.bind ?_ (fun _ => ?_))
  | exact ih0 _ _
  | exact LeO.none _
  | refine LeO.ite ?_ ?_
  | refine LeO.bind ?_ (fun _ => ?_)
set_option maxHeartbeats 8000000 in
set_option maxRecDepth 100000 in
theorem ratio_gcd.calls (k : Nat) (a0 : Int) (a1 : Int) (r : Int) (w : World) (h : ratio_gcd.f k a0 a1 = some r) :
 Calls Try.prog 52 #[.int .u64 a0, .int .u64 a1] w fun e w' => e = .returned (.int .u64 r) ∧ Drawn0 w w' := by
 have H : (ratio_gcd.l0 k a0 a1) = some r := h
 clear h
 have H' := Aside0.mk H
 clear H
 go_enter Try.func52, Try.ntmps52
 go_wp2
 go_loopg [0, 1] k (fun kq v0 v1 w' => ∃ (x0_1 : Int) (x1_1 : Int), v0 = .int .u64 x0_1 ∧ v1 = .int .u64 x1_1 ∧ Aside0 (ratio_gcd.l0 kq x0_1 x1_1 = some r) ∧ Aside0 (kq ≤ k) ∧ Drawn0 w w')
 case atStart => exact ⟨(a0), (a1), (by first | rfl | (simp; done) | (simp [*]; done)), (by first | rfl | (simp; done) | (simp [*]; done)), H', ⟨Nat.le_refl _⟩, by repeat (first | exact Drawn0.refl _ | apply Drawn0.step)⟩
 case round =>
  clear H'
  try clear p2
  obtain ⟨x0_1, x1_1, rfl, rfl, HA, HK1, ⟨m1, rfl⟩⟩ := hrel
  cases gk with
  | zero => exact absurd HA.out (by simp [ratio_gcd.l0])
  | succ k1 =>
   have H := HA.out
   clear HA
   simp only [ratio_gcd.l0] at H
   by_cases c3 : x0_1 = 0
   ·
    rw [if_pos c3] at H
    have c3b0 : (x0_1 == 0) = true := beq_iff_eq.mpr c3
    have c3b1 : (x0_1 != 0) = false := bne_eq_false_iff_eq.mpr c3
    clear c3
    obtain rfl := Option.some.inj H
    go_wp2
    go_ret
    exact ⟨by first | rfl | (simp; done) | (simp [*]; done), by repeat (first | exact Drawn0.refl _ | apply Drawn0.step)⟩
   ·
    rw [if_neg c3] at H
    have c3b0 : (x0_1 == 0) = false := beq_eq_false_iff_ne.mpr c3
    have c3b1 : (x0_1 != 0) = true := bne_iff_ne.mpr c3
    have H' := Aside0.mk H
    clear H
    go_wp2
    go_roundg k1
    case measure => have := HK1.out; omega
    case rel => exact ⟨(Int.tmod x1_1 x0_1), (x0_1), (by first | rfl | (simp; done) | (simp [*]; done)), (by first | rfl | (simp; done) | (simp [*]; done)), H', ⟨by have := HK1.out; omega⟩, by repeat (first | exact Drawn0.refl _ | apply Drawn0.step)⟩

/-! ### ratio_size: function 53 -/
def ratio_size.f (a0 : Int) : Option (Int) := if a0 < 0 then (some (IntKind.u64.wrap (-(IntKind.u64.wrap (a0))))) else (some (IntKind.u64.wrap (a0)))
set_option maxHeartbeats 8000000 in
set_option maxRecDepth 100000 in
theorem ratio_size.calls (a0 : Int) (r : Int) (w : World) (h : ratio_size.f a0 = some r) :
 Calls Try.prog 53 #[.int .i64 a0] w fun e w' => e = .returned (.int .u64 r) ∧ Drawn0 w w' := by
 have H : (if a0 < 0 then (some (IntKind.u64.wrap (-(IntKind.u64.wrap (a0))))) else (some (IntKind.u64.wrap (a0)))) = some r := h
 clear h
 by_cases c2 : a0 < 0
 ·
  rw [if_pos c2] at H
  have c2b0 : decide (a0 < 0) = true := decide_eq_true c2
  clear c2
  obtain rfl := Option.some.inj H
  go_enter Try.func53, Try.ntmps53
  go_wp2
  go_ret
  exact ⟨by first | rfl | (simp; done) | (simp [*]; done), by repeat (first | exact Drawn0.refl _ | apply Drawn0.step)⟩
 ·
  rw [if_neg c2] at H
  have c2b0 : decide (a0 < 0) = false := decide_eq_false c2
  clear c2
  obtain rfl := Option.some.inj H
  go_enter Try.func53, Try.ntmps53
  go_wp2
  go_ret
  exact ⟨by first | rfl | (simp; done) | (simp [*]; done), by repeat (first | exact Drawn0.refl _ | apply Drawn0.step)⟩

/-! ### ratio_Valid: function 41 -/
def ratio_Valid.f (k : Nat) (a0_0 : Int) (a0_1 : Int) : Option (Bool) := if a0_1 ≥ 1 then (if a0_1 ≤ 1000000 then (if a0_0 ≥ (-1000000000000) then (if a0_0 ≤ 1000000000000 then ((ratio_size.f a0_0).bind fun t129 => ((ratio_size.f a0_1).bind fun t130 => ((ratio_gcd.f k t129 t130).bind fun t131 => (some (t131 == 1))))) else (some false)) else (some false)) else (some false)) else (some false)
theorem ratio_Valid.mono : ∀ a0 a1 k, LeO (ratio_Valid.f k a0 a1) (ratio_Valid.f (k + 1) a0 a1) := by
 intro a0 a1 k
 unfold ratio_Valid.f
 repeat' first
  | (with_reducible exact ratio_gcd.mono _ _ _)
  | (with_reducible exact LeO.refl _)
  | (with_reducible exact LeO.none _)
  | (with_reducible refine LeO.ite ?_ ?_)
  | (with_reducible refine LeO.bind ?_ (fun _ => ?_))
  | exact ratio_gcd.mono _ _ _
  | exact LeO.none _
  | refine LeO.ite ?_ ?_
  | refine LeO.bind ?_ (fun _ => ?_)
set_option maxHeartbeats 8000000 in
set_option maxRecDepth 100000 in
theorem ratio_Valid.calls (k : Nat) (a0_0 : Int) (a0_1 : Int) (r : Bool) (w : World) (h : ratio_Valid.f k a0_0 a0_1 = some r) :
 Calls Try.prog 41 #[.agg #[.int .i64 a0_0, .int .i64 a0_1]] w fun e w' => e = .returned (.bool r) ∧ Below w.heap.size w w' := by
 have hu41 := Try.underlying41
 have HB := Aside0.mk (Below.refl w.heap.size w)
 have H : (if a0_1 ≥ 1 then (if a0_1 ≤ 1000000 then (if a0_0 ≥ (-1000000000000) then (if a0_0 ≤ 1000000000000 then ((ratio_size.f a0_0).bind fun t129 => ((ratio_size.f a0_1).bind fun t130 => ((ratio_gcd.f k t129 t130).bind fun t131 => (some (t131 == 1))))) else (some false)) else (some false)) else (some false)) else (some false)) = some r := h
 clear h
 by_cases c2 : a0_1 ≥ 1
 ·
  rw [if_pos c2] at H
  have c2b0 : decide (1 ≤ a0_1) = true := decide_eq_true c2
  clear c2
  by_cases c3 : a0_1 ≤ 1000000
  ·
   rw [if_pos c3] at H
   have c3b0 : decide (a0_1 ≤ 1000000) = true := decide_eq_true c3
   clear c3
   by_cases c4 : a0_0 ≥ (-1000000000000)
   ·
    rw [if_pos c4] at H
    have c4b0 : decide ((-1000000000000) ≤ a0_0) = true := decide_eq_true c4
    clear c4
    by_cases c5 : a0_0 ≤ 1000000000000
    ·
     rw [if_pos c5] at H
     have c5b0 : decide (a0_0 ≤ 1000000000000) = true := decide_eq_true c5
     clear c5
     replace H := Option.bind_eq_some_iff.mp H
     obtain ⟨t129, A60, H⟩ := H
     replace H : ((ratio_size.f a0_1).bind fun t130 => ((ratio_gcd.f k t129 t130).bind fun t131 => (some (t131 == 1)))) = some r := H
     have A6 := Aside0.mk A60
     clear A60
     replace H := Option.bind_eq_some_iff.mp H
     obtain ⟨t130, A70, H⟩ := H
     replace H : ((ratio_gcd.f k t129 t130).bind fun t131 => (some (t131 == 1))) = some r := H
     have A7 := Aside0.mk A70
     clear A70
     replace H := Option.bind_eq_some_iff.mp H
     obtain ⟨t131, A80, H⟩ := H
     replace H : (some (t131 == 1)) = some r := H
     have A8 := Aside0.mk A80
     clear A80
     obtain rfl := Option.some.inj H
     go_enter Try.func41, Try.ntmps41
     go_wp2_with (first | ((with_reducible refine gate_dst (N := 1) rfl ?_); refine bx_ (N := 1) (cs := #[.int .i64 a0_0, .int .i64 a0_1]) (t := 41) ?_; intro gb128 hg w9 hbox hb; have BK128 := Aside0.mk (hbox); have GW128 := sz_ HB hg; have GE128 := sz_ HB hg; replace HB := ts_ HB hb; clear hb hbox hg; have hcz10_0 : w9.cell? ⟨gb128, 0, none⟩ = some (.int .i64 a0_0) := (blk_cell BK128.out 0).trans rfl; have hcz10_1 : w9.cell? ⟨gb128, 1, none⟩ = some (.int .i64 a0_1) := (blk_cell BK128.out 1).trans rfl; have hfz10_0 := blk_frozen BK128.out 0; have hfz10_1 := blk_frozen BK128.out 1) | (go_at_call 53; (with_reducible refine (ratio_size.calls a0_0 t129 _ A6.out).mono ?_); rintro e w' ⟨rfl, ⟨nd, rfl⟩⟩; (try first | exact ⟨rfl, _, World.drewN_drewN _ _ _⟩ | exact ⟨rfl, _, Eq.trans (World.drewN_drewN _ _ _) (congrArg (World.drewN _) (Nat.add_assoc _ _ _))⟩)) | (go_at_call 53; (with_reducible refine (ratio_size.calls a0_1 t130 _ A7.out).mono ?_); rintro e w' ⟨rfl, ⟨nd, rfl⟩⟩; (try first | exact ⟨rfl, _, World.drewN_drewN _ _ _⟩ | exact ⟨rfl, _, Eq.trans (World.drewN_drewN _ _ _) (congrArg (World.drewN _) (Nat.add_assoc _ _ _))⟩)) | (go_at_call 52; (with_reducible refine (ratio_gcd.calls k t129 t130 t131 _ A8.out).mono ?_); rintro e w' ⟨rfl, ⟨nd, rfl⟩⟩; (try first | exact ⟨rfl, _, World.drewN_drewN _ _ _⟩ | exact ⟨rfl, _, Eq.trans (World.drewN_drewN _ _ _) (congrArg (World.drewN _) (Nat.add_assoc _ _ _))⟩)))
     repeat (go_quiet (first | ((with_reducible refine gate_dst (N := 1) rfl ?_); refine bx_ (N := 1) (cs := #[.int .i64 a0_0, .int .i64 a0_1]) (t := 41) ?_; intro gb128 hg w9 hbox hb; have BK128 := Aside0.mk (hbox); have GW128 := sz_ HB hg; have GE128 := sz_ HB hg; replace HB := ts_ HB hb; clear hb hbox hg; have hcz10_0 : w9.cell? ⟨gb128, 0, none⟩ = some (.int .i64 a0_0) := (blk_cell BK128.out 0).trans rfl; have hcz10_1 : w9.cell? ⟨gb128, 1, none⟩ = some (.int .i64 a0_1) := (blk_cell BK128.out 1).trans rfl; have hfz10_0 := blk_frozen BK128.out 0; have hfz10_1 := blk_frozen BK128.out 1) | (go_at_call 53; (with_reducible refine (ratio_size.calls a0_0 t129 _ A6.out).mono ?_); rintro e w' ⟨rfl, ⟨nd, rfl⟩⟩; (try first | exact ⟨rfl, _, World.drewN_drewN _ _ _⟩ | exact ⟨rfl, _, Eq.trans (World.drewN_drewN _ _ _) (congrArg (World.drewN _) (Nat.add_assoc _ _ _))⟩)) | (go_at_call 53; (with_reducible refine (ratio_size.calls a0_1 t130 _ A7.out).mono ?_); rintro e w' ⟨rfl, ⟨nd, rfl⟩⟩; (try first | exact ⟨rfl, _, World.drewN_drewN _ _ _⟩ | exact ⟨rfl, _, Eq.trans (World.drewN_drewN _ _ _) (congrArg (World.drewN _) (Nat.add_assoc _ _ _))⟩)) | (go_at_call 52; (with_reducible refine (ratio_gcd.calls k t129 t130 t131 _ A8.out).mono ?_); rintro e w' ⟨rfl, ⟨nd, rfl⟩⟩; (try first | exact ⟨rfl, _, World.drewN_drewN _ _ _⟩ | exact ⟨rfl, _, Eq.trans (World.drewN_drewN _ _ _) (congrArg (World.drewN _) (Nat.add_assoc _ _ _))⟩))); try go_wp2_with (first | ((with_reducible refine gate_dst (N := 1) rfl ?_); refine bx_ (N := 1) (cs := #[.int .i64 a0_0, .int .i64 a0_1]) (t := 41) ?_; intro gb128 hg w9 hbox hb; have BK128 := Aside0.mk (hbox); have GW128 := sz_ HB hg; have GE128 := sz_ HB hg; replace HB := ts_ HB hb; clear hb hbox hg; have hcz10_0 : w9.cell? ⟨gb128, 0, none⟩ = some (.int .i64 a0_0) := (blk_cell BK128.out 0).trans rfl; have hcz10_1 : w9.cell? ⟨gb128, 1, none⟩ = some (.int .i64 a0_1) := (blk_cell BK128.out 1).trans rfl; have hfz10_0 := blk_frozen BK128.out 0; have hfz10_1 := blk_frozen BK128.out 1) | (go_at_call 53; (with_reducible refine (ratio_size.calls a0_0 t129 _ A6.out).mono ?_); rintro e w' ⟨rfl, ⟨nd, rfl⟩⟩; (try first | exact ⟨rfl, _, World.drewN_drewN _ _ _⟩ | exact ⟨rfl, _, Eq.trans (World.drewN_drewN _ _ _) (congrArg (World.drewN _) (Nat.add_assoc _ _ _))⟩)) | (go_at_call 53; (with_reducible refine (ratio_size.calls a0_1 t130 _ A7.out).mono ?_); rintro e w' ⟨rfl, ⟨nd, rfl⟩⟩; (try first | exact ⟨rfl, _, World.drewN_drewN _ _ _⟩ | exact ⟨rfl, _, Eq.trans (World.drewN_drewN _ _ _) (congrArg (World.drewN _) (Nat.add_assoc _ _ _))⟩)) | (go_at_call 52; (with_reducible refine (ratio_gcd.calls k t129 t130 t131 _ A8.out).mono ?_); rintro e w' ⟨rfl, ⟨nd, rfl⟩⟩; (try first | exact ⟨rfl, _, World.drewN_drewN _ _ _⟩ | exact ⟨rfl, _, Eq.trans (World.drewN_drewN _ _ _) (congrArg (World.drewN _) (Nat.add_assoc _ _ _))⟩))))
     go_ret
     exact ⟨by first | rfl | (simp [errW_none, errW_some] <;> rfl) | (simp [*, errW_none, errW_some] <;> rfl), be_ HB⟩
    ·
     rw [if_neg c5] at H
     have c5b0 : decide (a0_0 ≤ 1000000000000) = false := decide_eq_false c5
     clear c5
     obtain rfl := Option.some.inj H
     go_enter Try.func41, Try.ntmps41
     go_wp2_with (first | ((with_reducible refine gate_dst (N := 1) rfl ?_); refine bx_ (N := 1) (cs := #[.int .i64 a0_0, .int .i64 a0_1]) (t := 41) ?_; intro gb128 hg w11 hbox hb; have BK128 := Aside0.mk (hbox); have GW128 := sz_ HB hg; have GE128 := sz_ HB hg; replace HB := ts_ HB hb; clear hb hbox hg; have hcz12_0 : w11.cell? ⟨gb128, 0, none⟩ = some (.int .i64 a0_0) := (blk_cell BK128.out 0).trans rfl; have hcz12_1 : w11.cell? ⟨gb128, 1, none⟩ = some (.int .i64 a0_1) := (blk_cell BK128.out 1).trans rfl; have hfz12_0 := blk_frozen BK128.out 0; have hfz12_1 := blk_frozen BK128.out 1))
     repeat (go_quiet (first | ((with_reducible refine gate_dst (N := 1) rfl ?_); refine bx_ (N := 1) (cs := #[.int .i64 a0_0, .int .i64 a0_1]) (t := 41) ?_; intro gb128 hg w11 hbox hb; have BK128 := Aside0.mk (hbox); have GW128 := sz_ HB hg; have GE128 := sz_ HB hg; replace HB := ts_ HB hb; clear hb hbox hg; have hcz12_0 : w11.cell? ⟨gb128, 0, none⟩ = some (.int .i64 a0_0) := (blk_cell BK128.out 0).trans rfl; have hcz12_1 : w11.cell? ⟨gb128, 1, none⟩ = some (.int .i64 a0_1) := (blk_cell BK128.out 1).trans rfl; have hfz12_0 := blk_frozen BK128.out 0; have hfz12_1 := blk_frozen BK128.out 1)); try go_wp2_with (first | ((with_reducible refine gate_dst (N := 1) rfl ?_); refine bx_ (N := 1) (cs := #[.int .i64 a0_0, .int .i64 a0_1]) (t := 41) ?_; intro gb128 hg w11 hbox hb; have BK128 := Aside0.mk (hbox); have GW128 := sz_ HB hg; have GE128 := sz_ HB hg; replace HB := ts_ HB hb; clear hb hbox hg; have hcz12_0 : w11.cell? ⟨gb128, 0, none⟩ = some (.int .i64 a0_0) := (blk_cell BK128.out 0).trans rfl; have hcz12_1 : w11.cell? ⟨gb128, 1, none⟩ = some (.int .i64 a0_1) := (blk_cell BK128.out 1).trans rfl; have hfz12_0 := blk_frozen BK128.out 0; have hfz12_1 := blk_frozen BK128.out 1)))
     go_ret
     exact ⟨by first | rfl | (simp [errW_none, errW_some] <;> rfl) | (simp [*, errW_none, errW_some] <;> rfl), be_ HB⟩
   ·
    rw [if_neg c4] at H
    have c4b0 : decide ((-1000000000000) ≤ a0_0) = false := decide_eq_false c4
    clear c4
    obtain rfl := Option.some.inj H
    go_enter Try.func41, Try.ntmps41
    go_wp2_with (first | ((with_reducible refine gate_dst (N := 1) rfl ?_); refine bx_ (N := 1) (cs := #[.int .i64 a0_0, .int .i64 a0_1]) (t := 41) ?_; intro gb128 hg w13 hbox hb; have BK128 := Aside0.mk (hbox); have GW128 := sz_ HB hg; have GE128 := sz_ HB hg; replace HB := ts_ HB hb; clear hb hbox hg; have hcz14_0 : w13.cell? ⟨gb128, 0, none⟩ = some (.int .i64 a0_0) := (blk_cell BK128.out 0).trans rfl; have hcz14_1 : w13.cell? ⟨gb128, 1, none⟩ = some (.int .i64 a0_1) := (blk_cell BK128.out 1).trans rfl; have hfz14_0 := blk_frozen BK128.out 0; have hfz14_1 := blk_frozen BK128.out 1))
    repeat (go_quiet (first | ((with_reducible refine gate_dst (N := 1) rfl ?_); refine bx_ (N := 1) (cs := #[.int .i64 a0_0, .int .i64 a0_1]) (t := 41) ?_; intro gb128 hg w13 hbox hb; have BK128 := Aside0.mk (hbox); have GW128 := sz_ HB hg; have GE128 := sz_ HB hg; replace HB := ts_ HB hb; clear hb hbox hg; have hcz14_0 : w13.cell? ⟨gb128, 0, none⟩ = some (.int .i64 a0_0) := (blk_cell BK128.out 0).trans rfl; have hcz14_1 : w13.cell? ⟨gb128, 1, none⟩ = some (.int .i64 a0_1) := (blk_cell BK128.out 1).trans rfl; have hfz14_0 := blk_frozen BK128.out 0; have hfz14_1 := blk_frozen BK128.out 1)); try go_wp2_with (first | ((with_reducible refine gate_dst (N := 1) rfl ?_); refine bx_ (N := 1) (cs := #[.int .i64 a0_0, .int .i64 a0_1]) (t := 41) ?_; intro gb128 hg w13 hbox hb; have BK128 := Aside0.mk (hbox); have GW128 := sz_ HB hg; have GE128 := sz_ HB hg; replace HB := ts_ HB hb; clear hb hbox hg; have hcz14_0 : w13.cell? ⟨gb128, 0, none⟩ = some (.int .i64 a0_0) := (blk_cell BK128.out 0).trans rfl; have hcz14_1 : w13.cell? ⟨gb128, 1, none⟩ = some (.int .i64 a0_1) := (blk_cell BK128.out 1).trans rfl; have hfz14_0 := blk_frozen BK128.out 0; have hfz14_1 := blk_frozen BK128.out 1)))
    go_ret
    exact ⟨by first | rfl | (simp [errW_none, errW_some] <;> rfl) | (simp [*, errW_none, errW_some] <;> rfl), be_ HB⟩
  ·
   rw [if_neg c3] at H
   have c3b0 : decide (a0_1 ≤ 1000000) = false := decide_eq_false c3
   clear c3
   obtain rfl := Option.some.inj H
   go_enter Try.func41, Try.ntmps41
   go_wp2_with (first | ((with_reducible refine gate_dst (N := 1) rfl ?_); refine bx_ (N := 1) (cs := #[.int .i64 a0_0, .int .i64 a0_1]) (t := 41) ?_; intro gb128 hg w15 hbox hb; have BK128 := Aside0.mk (hbox); have GW128 := sz_ HB hg; have GE128 := sz_ HB hg; replace HB := ts_ HB hb; clear hb hbox hg; have hcz16_0 : w15.cell? ⟨gb128, 0, none⟩ = some (.int .i64 a0_0) := (blk_cell BK128.out 0).trans rfl; have hcz16_1 : w15.cell? ⟨gb128, 1, none⟩ = some (.int .i64 a0_1) := (blk_cell BK128.out 1).trans rfl; have hfz16_0 := blk_frozen BK128.out 0; have hfz16_1 := blk_frozen BK128.out 1))
   repeat (go_quiet (first | ((with_reducible refine gate_dst (N := 1) rfl ?_); refine bx_ (N := 1) (cs := #[.int .i64 a0_0, .int .i64 a0_1]) (t := 41) ?_; intro gb128 hg w15 hbox hb; have BK128 := Aside0.mk (hbox); have GW128 := sz_ HB hg; have GE128 := sz_ HB hg; replace HB := ts_ HB hb; clear hb hbox hg; have hcz16_0 : w15.cell? ⟨gb128, 0, none⟩ = some (.int .i64 a0_0) := (blk_cell BK128.out 0).trans rfl; have hcz16_1 : w15.cell? ⟨gb128, 1, none⟩ = some (.int .i64 a0_1) := (blk_cell BK128.out 1).trans rfl; have hfz16_0 := blk_frozen BK128.out 0; have hfz16_1 := blk_frozen BK128.out 1)); try go_wp2_with (first | ((with_reducible refine gate_dst (N := 1) rfl ?_); refine bx_ (N := 1) (cs := #[.int .i64 a0_0, .int .i64 a0_1]) (t := 41) ?_; intro gb128 hg w15 hbox hb; have BK128 := Aside0.mk (hbox); have GW128 := sz_ HB hg; have GE128 := sz_ HB hg; replace HB := ts_ HB hb; clear hb hbox hg; have hcz16_0 : w15.cell? ⟨gb128, 0, none⟩ = some (.int .i64 a0_0) := (blk_cell BK128.out 0).trans rfl; have hcz16_1 : w15.cell? ⟨gb128, 1, none⟩ = some (.int .i64 a0_1) := (blk_cell BK128.out 1).trans rfl; have hfz16_0 := blk_frozen BK128.out 0; have hfz16_1 := blk_frozen BK128.out 1)))
   go_ret
   exact ⟨by first | rfl | (simp [errW_none, errW_some] <;> rfl) | (simp [*, errW_none, errW_some] <;> rfl), be_ HB⟩
 ·
  rw [if_neg c2] at H
  have c2b0 : decide (1 ≤ a0_1) = false := decide_eq_false c2
  clear c2
  obtain rfl := Option.some.inj H
  go_enter Try.func41, Try.ntmps41
  go_wp2_with (first | ((with_reducible refine gate_dst (N := 1) rfl ?_); refine bx_ (N := 1) (cs := #[.int .i64 a0_0, .int .i64 a0_1]) (t := 41) ?_; intro gb128 hg w17 hbox hb; have BK128 := Aside0.mk (hbox); have GW128 := sz_ HB hg; have GE128 := sz_ HB hg; replace HB := ts_ HB hb; clear hb hbox hg; have hcz18_0 : w17.cell? ⟨gb128, 0, none⟩ = some (.int .i64 a0_0) := (blk_cell BK128.out 0).trans rfl; have hcz18_1 : w17.cell? ⟨gb128, 1, none⟩ = some (.int .i64 a0_1) := (blk_cell BK128.out 1).trans rfl; have hfz18_0 := blk_frozen BK128.out 0; have hfz18_1 := blk_frozen BK128.out 1))
  repeat (go_quiet (first | ((with_reducible refine gate_dst (N := 1) rfl ?_); refine bx_ (N := 1) (cs := #[.int .i64 a0_0, .int .i64 a0_1]) (t := 41) ?_; intro gb128 hg w17 hbox hb; have BK128 := Aside0.mk (hbox); have GW128 := sz_ HB hg; have GE128 := sz_ HB hg; replace HB := ts_ HB hb; clear hb hbox hg; have hcz18_0 : w17.cell? ⟨gb128, 0, none⟩ = some (.int .i64 a0_0) := (blk_cell BK128.out 0).trans rfl; have hcz18_1 : w17.cell? ⟨gb128, 1, none⟩ = some (.int .i64 a0_1) := (blk_cell BK128.out 1).trans rfl; have hfz18_0 := blk_frozen BK128.out 0; have hfz18_1 := blk_frozen BK128.out 1)); try go_wp2_with (first | ((with_reducible refine gate_dst (N := 1) rfl ?_); refine bx_ (N := 1) (cs := #[.int .i64 a0_0, .int .i64 a0_1]) (t := 41) ?_; intro gb128 hg w17 hbox hb; have BK128 := Aside0.mk (hbox); have GW128 := sz_ HB hg; have GE128 := sz_ HB hg; replace HB := ts_ HB hb; clear hb hbox hg; have hcz18_0 : w17.cell? ⟨gb128, 0, none⟩ = some (.int .i64 a0_0) := (blk_cell BK128.out 0).trans rfl; have hcz18_1 : w17.cell? ⟨gb128, 1, none⟩ = some (.int .i64 a0_1) := (blk_cell BK128.out 1).trans rfl; have hfz18_0 := blk_frozen BK128.out 0; have hfz18_1 := blk_frozen BK128.out 1)))
  go_ret
  exact ⟨by first | rfl | (simp [errW_none, errW_some] <;> rfl) | (simp [*, errW_none, errW_some] <;> rfl), be_ HB⟩

end Go.Proofs.Ytcipegkeoheikaa.PN
