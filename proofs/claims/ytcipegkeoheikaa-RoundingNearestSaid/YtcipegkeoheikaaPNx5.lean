-- Written by a program of this session: the machine side of the proofs, out of Lean's own print of the program. Lean checks it.
import Derived.Test.YtcipegkeoheikaaPNx0
import Derived.Test.YtcipegkeoheikaaPNx1
import Derived.Test.YtcipegkeoheikaaPNx2
import Derived.Test.YtcipegkeoheikaaPNx3
import Derived.Test.YtcipegkeoheikaaPNx4
namespace Go.Proofs.Ytcipegkeoheikaa.PN
open Go.RowKit Go.Proofs.YtcipegkeoheikaaW.PrintWords Go.Proofs.YtcipegkeoheikaaW.PrintLast Go.Proofs.YtcipegkeoheikaaW.PrintMore
attribute [local go_sem] max2_int min2_int max_two min_two max_three min_three max_four min_four   -- for this text's walks alone
set_option linter.unusedVariables false
set_option linter.unusedSimpArgs false

/-! ### payrolllaw2_sane: function 17 -/
def payrolllaw2_sane.f (k : Nat)  : Option (Bool) := (rounding_Cents.f k 5 2 4).bind fun bt151 => ((rounding_Cents.f k (-5) 2 6).bind fun bt153 => ((rounding_Allocate.f k (-100) (([1, 1, 1] : List Int))).bind fun bt158 => ((rounding_Part.f k 10 1 4 1 6).bind fun bt162 => (if bt151.2 = 0 then (if bt151.1 = 3 then (if bt153.2 = 0 then (if bt153.1 = (-2) then (if bt158.2 = 0 then (if (bt158.1.length : Int) = 3 then (if 0 < (bt158.1.length : Int) then (if (rd bt158.1 0) = (-34) then (if 2 < (bt158.1.length : Int) then (if (rd bt158.1 2) = (-33) then (if bt162.2 = 0 then (some (bt162.1 == 2)) else (some false)) else (some false)) else (none)) else (some false)) else (none)) else (some false)) else (some false)) else (some false)) else (some false)) else (some false)) else (some false)))))
theorem payrolllaw2_sane.mono : ∀ k, LeO (payrolllaw2_sane.f k ) (payrolllaw2_sane.f (k + 1) ) := by
 intro  k
 unfold payrolllaw2_sane.f
 repeat' first
  | (with_reducible exact rounding_Allocate.mono _ _ _)
  | (with_reducible exact rounding_Cents.mono _ _ _ _)
  | (with_reducible exact rounding_Part.mono _ _ _ _ _ _)
  | (with_reducible exact LeO.refl _)
  | (with_reducible exact LeO.none _)
  | (with_reducible refine LeO.ite ?_ ?_)
  | (with_reducible refine LeO.bind ?_ (fun _ => ?_))
  | exact rounding_Allocate.mono _ _ _
  | exact rounding_Cents.mono _ _ _ _
  | exact rounding_Part.mono _ _ _ _ _ _
  | exact LeO.none _
  | refine LeO.ite ?_ ?_
  | refine LeO.bind ?_ (fun _ => ?_)
set_option maxHeartbeats 8000000 in
set_option maxRecDepth 100000 in
theorem payrolllaw2_sane.calls (k : Nat)  (r : Bool) (w : World) (h : payrolllaw2_sane.f k  = some r) :
 Calls Try.prog 17 #[] w fun e w' => e = .returned (.bool r) ∧ Below w.heap.size w w' := by
 have hu41 := Try.underlying41
 have HB := Aside0.mk (Below.refl w.heap.size w)
 have H : ((rounding_Cents.f k 5 2 4).bind fun bt151 => ((rounding_Cents.f k (-5) 2 6).bind fun bt153 => ((rounding_Allocate.f k (-100) (([1, 1, 1] : List Int))).bind fun bt158 => ((rounding_Part.f k 10 1 4 1 6).bind fun bt162 => (if bt151.2 = 0 then (if bt151.1 = 3 then (if bt153.2 = 0 then (if bt153.1 = (-2) then (if bt158.2 = 0 then (if (bt158.1.length : Int) = 3 then (if 0 < (bt158.1.length : Int) then (if (rd bt158.1 0) = (-34) then (if 2 < (bt158.1.length : Int) then (if (rd bt158.1 2) = (-33) then (if bt162.2 = 0 then (some (bt162.1 == 2)) else (some false)) else (some false)) else (none)) else (some false)) else (none)) else (some false)) else (some false)) else (some false)) else (some false)) else (some false)) else (some false)))))) = some r := h
 clear h
 replace H := Option.bind_eq_some_iff.mp H
 obtain ⟨⟨t151, t152⟩, A10, H⟩ := H
 replace H : ((rounding_Cents.f k (-5) 2 6).bind fun bt153 => ((rounding_Allocate.f k (-100) (([1, 1, 1] : List Int))).bind fun bt158 => ((rounding_Part.f k 10 1 4 1 6).bind fun bt162 => (if t152 = 0 then (if t151 = 3 then (if bt153.2 = 0 then (if bt153.1 = (-2) then (if bt158.2 = 0 then (if (bt158.1.length : Int) = 3 then (if 0 < (bt158.1.length : Int) then (if (rd bt158.1 0) = (-34) then (if 2 < (bt158.1.length : Int) then (if (rd bt158.1 2) = (-33) then (if bt162.2 = 0 then (some (bt162.1 == 2)) else (some false)) else (some false)) else (none)) else (some false)) else (none)) else (some false)) else (some false)) else (some false)) else (some false)) else (some false)) else (some false))))) = some r := H
 have A1 := Aside0.mk A10
 clear A10
 replace H := Option.bind_eq_some_iff.mp H
 obtain ⟨⟨t153, t154⟩, A20, H⟩ := H
 replace H : ((rounding_Allocate.f k (-100) (([1, 1, 1] : List Int))).bind fun bt158 => ((rounding_Part.f k 10 1 4 1 6).bind fun bt162 => (if t152 = 0 then (if t151 = 3 then (if t154 = 0 then (if t153 = (-2) then (if bt158.2 = 0 then (if (bt158.1.length : Int) = 3 then (if 0 < (bt158.1.length : Int) then (if (rd bt158.1 0) = (-34) then (if 2 < (bt158.1.length : Int) then (if (rd bt158.1 2) = (-33) then (if bt162.2 = 0 then (some (bt162.1 == 2)) else (some false)) else (some false)) else (none)) else (some false)) else (none)) else (some false)) else (some false)) else (some false)) else (some false)) else (some false)) else (some false)))) = some r := H
 have A2 := Aside0.mk A20
 clear A20
 obtain ⟨y155, hy155⟩ : ∃ y_ : List Int, y_ = (([1, 1, 1] : List Int)) := ⟨_, rfl⟩
 replace H : ((rounding_Allocate.f k (-100) y155).bind fun bt158 => ((rounding_Part.f k 10 1 4 1 6).bind fun bt162 => (if t152 = 0 then (if t151 = 3 then (if t154 = 0 then (if t153 = (-2) then (if bt158.2 = 0 then (if (bt158.1.length : Int) = 3 then (if 0 < (bt158.1.length : Int) then (if (rd bt158.1 0) = (-34) then (if 2 < (bt158.1.length : Int) then (if (rd bt158.1 2) = (-33) then (if bt162.2 = 0 then (some (bt162.1 == 2)) else (some false)) else (some false)) else (none)) else (some false)) else (none)) else (some false)) else (some false)) else (some false)) else (some false)) else (some false)) else (some false)))) = some r := by first | (rw [hy155]; with_reducible exact H) | (have H2_ := (Option.bind_some _ _).symm.trans H; rw [hy155]; with_reducible exact H2_) | (have H2_ := (Option.bind_some _ _).symm.trans H; with_reducible exact H2_) | with_reducible exact H | (rw [hy155]; exact H) | exact H
 have Ny155 := Aside0.mk hy155
 clear hy155
 replace H := Option.bind_eq_some_iff.mp H
 obtain ⟨⟨t158, t159⟩, A30, H⟩ := H
 replace H : ((rounding_Part.f k 10 1 4 1 6).bind fun bt162 => (if t152 = 0 then (if t151 = 3 then (if t154 = 0 then (if t153 = (-2) then (if t159 = 0 then (if (t158.length : Int) = 3 then (if 0 < (t158.length : Int) then (if (rd t158 0) = (-34) then (if 2 < (t158.length : Int) then (if (rd t158 2) = (-33) then (if bt162.2 = 0 then (some (bt162.1 == 2)) else (some false)) else (some false)) else (none)) else (some false)) else (none)) else (some false)) else (some false)) else (some false)) else (some false)) else (some false)) else (some false))) = some r := H
 have A3 := Aside0.mk A30
 clear A30
 replace H := Option.bind_eq_some_iff.mp H
 obtain ⟨⟨t162, t163⟩, A40, H⟩ := H
 replace H : (if t152 = 0 then (if t151 = 3 then (if t154 = 0 then (if t153 = (-2) then (if t159 = 0 then (if (t158.length : Int) = 3 then (if 0 < (t158.length : Int) then (if (rd t158 0) = (-34) then (if 2 < (t158.length : Int) then (if (rd t158 2) = (-33) then (if t163 = 0 then (some (t162 == 2)) else (some false)) else (some false)) else (none)) else (some false)) else (none)) else (some false)) else (some false)) else (some false)) else (some false)) else (some false)) else (some false)) = some r := H
 have A4 := Aside0.mk A40
 clear A40
 by_cases c5 : t152 = 0
 ·
  rw [if_pos c5] at H
  have c5b0 : (t152 == 0) = true := beq_iff_eq.mpr c5
  have c5b1 : (t152 != 0) = false := bne_eq_false_iff_eq.mpr c5
  clear c5
  by_cases c6 : t151 = 3
  ·
   rw [if_pos c6] at H
   have c6b0 : (t151 == 3) = true := beq_iff_eq.mpr c6
   have c6b1 : (t151 != 3) = false := bne_eq_false_iff_eq.mpr c6
   clear c6
   by_cases c7 : t154 = 0
   ·
    rw [if_pos c7] at H
    have c7b0 : (t154 == 0) = true := beq_iff_eq.mpr c7
    have c7b1 : (t154 != 0) = false := bne_eq_false_iff_eq.mpr c7
    clear c7
    by_cases c8 : t153 = (-2)
    ·
     rw [if_pos c8] at H
     have c8b0 : (t153 == (-2)) = true := beq_iff_eq.mpr c8
     have c8b1 : (t153 != (-2)) = false := bne_eq_false_iff_eq.mpr c8
     clear c8
     by_cases c9 : t159 = 0
     ·
      rw [if_pos c9] at H
      have c9b0 : (t159 == 0) = true := beq_iff_eq.mpr c9
      have c9b1 : (t159 != 0) = false := bne_eq_false_iff_eq.mpr c9
      clear c9
      by_cases c10 : (t158.length : Int) = 3
      ·
       rw [if_pos c10] at H
       have c10b0 : ((t158.length : Int) == 3) = true := beq_iff_eq.mpr c10
       have c10b1 : ((t158.length : Int) != 3) = false := bne_eq_false_iff_eq.mpr c10
       clear c10
       by_cases c11 : 0 < (t158.length : Int)
       ·
        rw [if_pos c11] at H
        have c11b0 : decide (0 < (t158.length : Int)) = true := decide_eq_true c11
        have c11b1 : decide (0 < t158.length) = true := decide_eq_true (by omega)
        clear c11
        by_cases c12 : (rd t158 0) = (-34)
        ·
         rw [if_pos c12] at H
         have c12b0 : ((rd t158 0) == (-34)) = true := beq_iff_eq.mpr c12
         have c12b1 : ((rd t158 0) != (-34)) = false := bne_eq_false_iff_eq.mpr c12
         clear c12
         by_cases c13 : 2 < (t158.length : Int)
         ·
          rw [if_pos c13] at H
          have c13b0 : decide (2 < (t158.length : Int)) = true := decide_eq_true c13
          have c13b1 : decide (2 < t158.length) = true := decide_eq_true (by omega)
          clear c13
          by_cases c14 : (rd t158 2) = (-33)
          ·
           rw [if_pos c14] at H
           have c14b0 : ((rd t158 2) == (-33)) = true := beq_iff_eq.mpr c14
           have c14b1 : ((rd t158 2) != (-33)) = false := bne_eq_false_iff_eq.mpr c14
           clear c14
           by_cases c15 : t163 = 0
           ·
            rw [if_pos c15] at H
            have c15b0 : (t163 == 0) = true := beq_iff_eq.mpr c15
            have c15b1 : (t163 != 0) = false := bne_eq_false_iff_eq.mpr c15
            clear c15
            obtain rfl := Option.some.inj H
            go_enter Try.func17, Try.ntmps17
            go_wp2_with (first | ((with_reducible refine gate_callee (f := 37) rfl ?_); refine gq_ (some 11) rfl rfl Try.func37 #[.agg #[.int .i64 5, .int .i64 2], .int .i64 4] rfl ?_; (with_reducible refine (rounding_Cents.calls k 5 2 4 t151 t152 _ A1.out).mono ?_); rintro e w16 ⟨rfl, hb⟩; refine ⟨_, rfl, ?_⟩; replace HB := ts_ HB hb; (try clear hb); (try clear hb2); (try clear hk); (try clear hi)) | ((with_reducible refine gate_callee (f := 37) rfl ?_); refine gq_ (some 16) rfl rfl Try.func37 #[.agg #[.int .i64 (-5), .int .i64 2], .int .i64 6] rfl ?_; (with_reducible refine (rounding_Cents.calls k (-5) 2 6 t153 t154 _ A2.out).mono ?_); rintro e w17 ⟨rfl, hb⟩; refine ⟨_, rfl, ?_⟩; replace HB := ts_ HB hb; (try clear hb); (try clear hb2); (try clear hk); (try clear hi)) | ((with_reducible refine gate_dst (N := 20) rfl ?_); (try (refine gate_guard (by rfl) ?_; dsimp only)); refine Kd.R_lit (Kd.int .i64) _ 3 ?hg (N := 20) ?hd (xs := ([1, 1, 1] : List Int)) (inner := [.int .i64 1, .int .i64 1, .int .i64 1]) (ok := fun _ => True) (okp := fun _ => True) ?hr ?hp (fun _ hk => hk) trivial (Below.refl _ _) (Nat.le_refl _) (by simp) ?_; (case hd => rfl); (case hg => rfl); (case hr => first | (go_simp; done) | (go_simp; rfl)); (case hp => exact (Reps.one (show Kd.M (Kd.int .i64) _ _ _ 1 [.int .i64 1] from rfl) (Reps.one (show Kd.M (Kd.int .i64) _ _ _ 1 [.int .i64 1] from rfl) (Reps.one (show Kd.M (Kd.int .i64) _ _ _ 1 [.int .i64 1] from rfl) (Reps.none _ _))))); intro v156 w18 ho19 hb hg_ hnew_; clear hg_ hnew_; (first | rw [← Ny155.out] at ho19 | (simp only [Int.reduceToNat] at ho19; rw [← Ny155.out] at ho19)); have HO157 := Aside0.mk (Kd.R_lower ho19 (below_size (be_ HB))); replace HB := ts_ HB hb; clear hb ho19; obtain ⟨Ao20, co20, eo20⟩ := Kd.R_slice HO157.out; subst eo20) | ((with_reducible refine gate_callee (f := 15) rfl ?_); refine gq_ (some 21) rfl rfl Try.func15 #[.int .i64 (-100), .slice Ao20 y155.length co20] rfl ?_; (with_reducible refine (rounding_Allocate.calls k (-100) _ _ y155 t158 t159 _ ?side1 ?side2 A3.out).mono ?_); (case side1 => repeat (first | exact (Kd.R_reads' HO157.out).2.2 | (with_reducible refine Kd.C_alloc ?_ _) | (with_reducible refine Kd.C_drewN ?_ _) | (with_reducible refine Kd.C_drew ?_))); (case side2 => exact (Kd.R_reads' HO157.out).2.1); rintro e w21 ⟨v160, rfl, ho0, hb⟩; refine ⟨_, rfl, ?_⟩; have HO161 := Aside0.mk (Kd.R_lower (Kd.R_new' ho0 (Kd.R_lt (re_ HO157))) (below_size (be_ HB))); replace HO157 := Aside0.mk (Kd.R_elder' (re_ HO157) (Kd.R_base ho0) hb); replace HB := ts_ HB hb; (try clear hb); (try clear hb2); (try clear hk); (try clear hi); (try clear ho0)) | ((with_reducible refine gate_callee (f := 18) rfl ?_); refine gq_ (some 25) rfl rfl Try.func18 #[.int .i64 10, .int .i64 1, .int .i64 4, .int .i64 1, .int .i64 6] rfl ?_; (with_reducible refine (rounding_Part.calls k 10 1 4 1 6 t162 t163 _ A4.out).mono ?_); rintro e w' ⟨rfl, ⟨nd, rfl⟩⟩; refine ⟨_, rfl, ?_⟩; obtain ⟨Ao22, co22, eo22⟩ := Kd.R_slice HO161.out; subst eo22; have p164 : 0 ≤ (0 : Int) := (by omega); have q164 : 0 < (t158.length : Int) := of_decide_eq_true (by first | (with_reducible assumption) | assumption); obtain ⟨ad164, e164, hx164_0⟩ := Kd.at_int (Kd.R_reads' HO161.out).2.2 0 p164 q164; cases e164; have qi164 : (0 < t158.length) = True := eq_true (by omega); (try rw [show ((0 : Int)).toNat = 0 from rfl] at hx164_0); (try rw [Addr.add_zero'] at hx164_0); replace p164 := eq_true p164; replace q164 := eq_true q164; have p165 : 0 ≤ (2 : Int) := (by omega); have q165 : 2 < (t158.length : Int) := of_decide_eq_true (by first | (with_reducible assumption) | assumption); obtain ⟨ad165, e165, hx165_0⟩ := Kd.at_int (Kd.R_reads' HO161.out).2.2 2 p165 q165; obtain rfl : ad164 = ad165 := (by injection e165); (try simp only [show (2 : Int).toNat = 2 from rfl, Nat.reduceMul, Nat.reduceEqDiff, Go.Addr.add, ↓reduceIte] at hx165_0); have qi165 : (2 < t158.length) = True := eq_true (by omega); (try rw [show ((2 : Int)).toNat = 2 from rfl] at hx165_0); replace p165 := eq_true p165; replace q165 := eq_true q165))
            go_ret
            exact ⟨by first | rfl | (simp [errW_none, errW_some] <;> rfl) | (simp [*, errW_none, errW_some] <;> rfl), be_ HB⟩
           ·
            rw [if_neg c15] at H
            have c15b0 : (t163 == 0) = false := beq_eq_false_iff_ne.mpr c15
            have c15b1 : (t163 != 0) = true := bne_iff_ne.mpr c15
            obtain rfl := Option.some.inj H
            go_enter Try.func17, Try.ntmps17
            go_wp2_with (first | ((with_reducible refine gate_callee (f := 37) rfl ?_); refine gq_ (some 11) rfl rfl Try.func37 #[.agg #[.int .i64 5, .int .i64 2], .int .i64 4] rfl ?_; (with_reducible refine (rounding_Cents.calls k 5 2 4 t151 t152 _ A1.out).mono ?_); rintro e w23 ⟨rfl, hb⟩; refine ⟨_, rfl, ?_⟩; replace HB := ts_ HB hb; (try clear hb); (try clear hb2); (try clear hk); (try clear hi)) | ((with_reducible refine gate_callee (f := 37) rfl ?_); refine gq_ (some 16) rfl rfl Try.func37 #[.agg #[.int .i64 (-5), .int .i64 2], .int .i64 6] rfl ?_; (with_reducible refine (rounding_Cents.calls k (-5) 2 6 t153 t154 _ A2.out).mono ?_); rintro e w24 ⟨rfl, hb⟩; refine ⟨_, rfl, ?_⟩; replace HB := ts_ HB hb; (try clear hb); (try clear hb2); (try clear hk); (try clear hi)) | ((with_reducible refine gate_dst (N := 20) rfl ?_); (try (refine gate_guard (by rfl) ?_; dsimp only)); refine Kd.R_lit (Kd.int .i64) _ 3 ?hg (N := 20) ?hd (xs := ([1, 1, 1] : List Int)) (inner := [.int .i64 1, .int .i64 1, .int .i64 1]) (ok := fun _ => True) (okp := fun _ => True) ?hr ?hp (fun _ hk => hk) trivial (Below.refl _ _) (Nat.le_refl _) (by simp) ?_; (case hd => rfl); (case hg => rfl); (case hr => first | (go_simp; done) | (go_simp; rfl)); (case hp => exact (Reps.one (show Kd.M (Kd.int .i64) _ _ _ 1 [.int .i64 1] from rfl) (Reps.one (show Kd.M (Kd.int .i64) _ _ _ 1 [.int .i64 1] from rfl) (Reps.one (show Kd.M (Kd.int .i64) _ _ _ 1 [.int .i64 1] from rfl) (Reps.none _ _))))); intro v156 w25 ho26 hb hg_ hnew_; clear hg_ hnew_; (first | rw [← Ny155.out] at ho26 | (simp only [Int.reduceToNat] at ho26; rw [← Ny155.out] at ho26)); have HO157 := Aside0.mk (Kd.R_lower ho26 (below_size (be_ HB))); replace HB := ts_ HB hb; clear hb ho26; obtain ⟨Ao27, co27, eo27⟩ := Kd.R_slice HO157.out; subst eo27) | ((with_reducible refine gate_callee (f := 15) rfl ?_); refine gq_ (some 21) rfl rfl Try.func15 #[.int .i64 (-100), .slice Ao27 y155.length co27] rfl ?_; (with_reducible refine (rounding_Allocate.calls k (-100) _ _ y155 t158 t159 _ ?side1 ?side2 A3.out).mono ?_); (case side1 => repeat (first | exact (Kd.R_reads' HO157.out).2.2 | (with_reducible refine Kd.C_alloc ?_ _) | (with_reducible refine Kd.C_drewN ?_ _) | (with_reducible refine Kd.C_drew ?_))); (case side2 => exact (Kd.R_reads' HO157.out).2.1); rintro e w28 ⟨v160, rfl, ho0, hb⟩; refine ⟨_, rfl, ?_⟩; have HO161 := Aside0.mk (Kd.R_lower (Kd.R_new' ho0 (Kd.R_lt (re_ HO157))) (below_size (be_ HB))); replace HO157 := Aside0.mk (Kd.R_elder' (re_ HO157) (Kd.R_base ho0) hb); replace HB := ts_ HB hb; (try clear hb); (try clear hb2); (try clear hk); (try clear hi); (try clear ho0)) | ((with_reducible refine gate_callee (f := 18) rfl ?_); refine gq_ (some 25) rfl rfl Try.func18 #[.int .i64 10, .int .i64 1, .int .i64 4, .int .i64 1, .int .i64 6] rfl ?_; (with_reducible refine (rounding_Part.calls k 10 1 4 1 6 t162 t163 _ A4.out).mono ?_); rintro e w' ⟨rfl, ⟨nd, rfl⟩⟩; refine ⟨_, rfl, ?_⟩; obtain ⟨Ao29, co29, eo29⟩ := Kd.R_slice HO161.out; subst eo29; have p164 : 0 ≤ (0 : Int) := (by omega); have q164 : 0 < (t158.length : Int) := of_decide_eq_true (by first | (with_reducible assumption) | assumption); obtain ⟨ad164, e164, hx164_0⟩ := Kd.at_int (Kd.R_reads' HO161.out).2.2 0 p164 q164; cases e164; have qi164 : (0 < t158.length) = True := eq_true (by omega); (try rw [show ((0 : Int)).toNat = 0 from rfl] at hx164_0); (try rw [Addr.add_zero'] at hx164_0); replace p164 := eq_true p164; replace q164 := eq_true q164; have p165 : 0 ≤ (2 : Int) := (by omega); have q165 : 2 < (t158.length : Int) := of_decide_eq_true (by first | (with_reducible assumption) | assumption); obtain ⟨ad165, e165, hx165_0⟩ := Kd.at_int (Kd.R_reads' HO161.out).2.2 2 p165 q165; obtain rfl : ad164 = ad165 := (by injection e165); (try simp only [show (2 : Int).toNat = 2 from rfl, Nat.reduceMul, Nat.reduceEqDiff, Go.Addr.add, ↓reduceIte] at hx165_0); have qi165 : (2 < t158.length) = True := eq_true (by omega); (try rw [show ((2 : Int)).toNat = 2 from rfl] at hx165_0); replace p165 := eq_true p165; replace q165 := eq_true q165))
            go_ret
            exact ⟨by first | rfl | (simp [errW_none, errW_some] <;> rfl) | (simp [*, errW_none, errW_some] <;> rfl), be_ HB⟩
          ·
           rw [if_neg c14] at H
           have c14b0 : ((rd t158 2) == (-33)) = false := beq_eq_false_iff_ne.mpr c14
           have c14b1 : ((rd t158 2) != (-33)) = true := bne_iff_ne.mpr c14
           obtain rfl := Option.some.inj H
           go_enter Try.func17, Try.ntmps17
           go_wp2_with (first | ((with_reducible refine gate_callee (f := 37) rfl ?_); refine gq_ (some 11) rfl rfl Try.func37 #[.agg #[.int .i64 5, .int .i64 2], .int .i64 4] rfl ?_; (with_reducible refine (rounding_Cents.calls k 5 2 4 t151 t152 _ A1.out).mono ?_); rintro e w30 ⟨rfl, hb⟩; refine ⟨_, rfl, ?_⟩; replace HB := ts_ HB hb; (try clear hb); (try clear hb2); (try clear hk); (try clear hi)) | ((with_reducible refine gate_callee (f := 37) rfl ?_); refine gq_ (some 16) rfl rfl Try.func37 #[.agg #[.int .i64 (-5), .int .i64 2], .int .i64 6] rfl ?_; (with_reducible refine (rounding_Cents.calls k (-5) 2 6 t153 t154 _ A2.out).mono ?_); rintro e w31 ⟨rfl, hb⟩; refine ⟨_, rfl, ?_⟩; replace HB := ts_ HB hb; (try clear hb); (try clear hb2); (try clear hk); (try clear hi)) | ((with_reducible refine gate_dst (N := 20) rfl ?_); (try (refine gate_guard (by rfl) ?_; dsimp only)); refine Kd.R_lit (Kd.int .i64) _ 3 ?hg (N := 20) ?hd (xs := ([1, 1, 1] : List Int)) (inner := [.int .i64 1, .int .i64 1, .int .i64 1]) (ok := fun _ => True) (okp := fun _ => True) ?hr ?hp (fun _ hk => hk) trivial (Below.refl _ _) (Nat.le_refl _) (by simp) ?_; (case hd => rfl); (case hg => rfl); (case hr => first | (go_simp; done) | (go_simp; rfl)); (case hp => exact (Reps.one (show Kd.M (Kd.int .i64) _ _ _ 1 [.int .i64 1] from rfl) (Reps.one (show Kd.M (Kd.int .i64) _ _ _ 1 [.int .i64 1] from rfl) (Reps.one (show Kd.M (Kd.int .i64) _ _ _ 1 [.int .i64 1] from rfl) (Reps.none _ _))))); intro v156 w32 ho33 hb hg_ hnew_; clear hg_ hnew_; (first | rw [← Ny155.out] at ho33 | (simp only [Int.reduceToNat] at ho33; rw [← Ny155.out] at ho33)); have HO157 := Aside0.mk (Kd.R_lower ho33 (below_size (be_ HB))); replace HB := ts_ HB hb; clear hb ho33; obtain ⟨Ao34, co34, eo34⟩ := Kd.R_slice HO157.out; subst eo34) | ((with_reducible refine gate_callee (f := 15) rfl ?_); refine gq_ (some 21) rfl rfl Try.func15 #[.int .i64 (-100), .slice Ao34 y155.length co34] rfl ?_; (with_reducible refine (rounding_Allocate.calls k (-100) _ _ y155 t158 t159 _ ?side1 ?side2 A3.out).mono ?_); (case side1 => repeat (first | exact (Kd.R_reads' HO157.out).2.2 | (with_reducible refine Kd.C_alloc ?_ _) | (with_reducible refine Kd.C_drewN ?_ _) | (with_reducible refine Kd.C_drew ?_))); (case side2 => exact (Kd.R_reads' HO157.out).2.1); rintro e w35 ⟨v160, rfl, ho0, hb⟩; refine ⟨_, rfl, ?_⟩; have HO161 := Aside0.mk (Kd.R_lower (Kd.R_new' ho0 (Kd.R_lt (re_ HO157))) (below_size (be_ HB))); replace HO157 := Aside0.mk (Kd.R_elder' (re_ HO157) (Kd.R_base ho0) hb); replace HB := ts_ HB hb; (try clear hb); (try clear hb2); (try clear hk); (try clear hi); (try clear ho0)) | ((with_reducible refine gate_callee (f := 18) rfl ?_); refine gq_ (some 25) rfl rfl Try.func18 #[.int .i64 10, .int .i64 1, .int .i64 4, .int .i64 1, .int .i64 6] rfl ?_; (with_reducible refine (rounding_Part.calls k 10 1 4 1 6 t162 t163 _ A4.out).mono ?_); rintro e w' ⟨rfl, ⟨nd, rfl⟩⟩; refine ⟨_, rfl, ?_⟩; obtain ⟨Ao36, co36, eo36⟩ := Kd.R_slice HO161.out; subst eo36; have p164 : 0 ≤ (0 : Int) := (by omega); have q164 : 0 < (t158.length : Int) := of_decide_eq_true (by first | (with_reducible assumption) | assumption); obtain ⟨ad164, e164, hx164_0⟩ := Kd.at_int (Kd.R_reads' HO161.out).2.2 0 p164 q164; cases e164; have qi164 : (0 < t158.length) = True := eq_true (by omega); (try rw [show ((0 : Int)).toNat = 0 from rfl] at hx164_0); (try rw [Addr.add_zero'] at hx164_0); replace p164 := eq_true p164; replace q164 := eq_true q164; have p165 : 0 ≤ (2 : Int) := (by omega); have q165 : 2 < (t158.length : Int) := of_decide_eq_true (by first | (with_reducible assumption) | assumption); obtain ⟨ad165, e165, hx165_0⟩ := Kd.at_int (Kd.R_reads' HO161.out).2.2 2 p165 q165; obtain rfl : ad164 = ad165 := (by injection e165); (try simp only [show (2 : Int).toNat = 2 from rfl, Nat.reduceMul, Nat.reduceEqDiff, Go.Addr.add, ↓reduceIte] at hx165_0); have qi165 : (2 < t158.length) = True := eq_true (by omega); (try rw [show ((2 : Int)).toNat = 2 from rfl] at hx165_0); replace p165 := eq_true p165; replace q165 := eq_true q165))
           go_ret
           exact ⟨by first | rfl | (simp [errW_none, errW_some] <;> rfl) | (simp [*, errW_none, errW_some] <;> rfl), be_ HB⟩
         ·
          rw [if_neg c13] at H
          exact absurd H (by simp)
        ·
         rw [if_neg c12] at H
         have c12b0 : ((rd t158 0) == (-34)) = false := beq_eq_false_iff_ne.mpr c12
         have c12b1 : ((rd t158 0) != (-34)) = true := bne_iff_ne.mpr c12
         obtain rfl := Option.some.inj H
         go_enter Try.func17, Try.ntmps17
         go_wp2_with (first | ((with_reducible refine gate_callee (f := 37) rfl ?_); refine gq_ (some 11) rfl rfl Try.func37 #[.agg #[.int .i64 5, .int .i64 2], .int .i64 4] rfl ?_; (with_reducible refine (rounding_Cents.calls k 5 2 4 t151 t152 _ A1.out).mono ?_); rintro e w37 ⟨rfl, hb⟩; refine ⟨_, rfl, ?_⟩; replace HB := ts_ HB hb; (try clear hb); (try clear hb2); (try clear hk); (try clear hi)) | ((with_reducible refine gate_callee (f := 37) rfl ?_); refine gq_ (some 16) rfl rfl Try.func37 #[.agg #[.int .i64 (-5), .int .i64 2], .int .i64 6] rfl ?_; (with_reducible refine (rounding_Cents.calls k (-5) 2 6 t153 t154 _ A2.out).mono ?_); rintro e w38 ⟨rfl, hb⟩; refine ⟨_, rfl, ?_⟩; replace HB := ts_ HB hb; (try clear hb); (try clear hb2); (try clear hk); (try clear hi)) | ((with_reducible refine gate_dst (N := 20) rfl ?_); (try (refine gate_guard (by rfl) ?_; dsimp only)); refine Kd.R_lit (Kd.int .i64) _ 3 ?hg (N := 20) ?hd (xs := ([1, 1, 1] : List Int)) (inner := [.int .i64 1, .int .i64 1, .int .i64 1]) (ok := fun _ => True) (okp := fun _ => True) ?hr ?hp (fun _ hk => hk) trivial (Below.refl _ _) (Nat.le_refl _) (by simp) ?_; (case hd => rfl); (case hg => rfl); (case hr => first | (go_simp; done) | (go_simp; rfl)); (case hp => exact (Reps.one (show Kd.M (Kd.int .i64) _ _ _ 1 [.int .i64 1] from rfl) (Reps.one (show Kd.M (Kd.int .i64) _ _ _ 1 [.int .i64 1] from rfl) (Reps.one (show Kd.M (Kd.int .i64) _ _ _ 1 [.int .i64 1] from rfl) (Reps.none _ _))))); intro v156 w39 ho40 hb hg_ hnew_; clear hg_ hnew_; (first | rw [← Ny155.out] at ho40 | (simp only [Int.reduceToNat] at ho40; rw [← Ny155.out] at ho40)); have HO157 := Aside0.mk (Kd.R_lower ho40 (below_size (be_ HB))); replace HB := ts_ HB hb; clear hb ho40; obtain ⟨Ao41, co41, eo41⟩ := Kd.R_slice HO157.out; subst eo41) | ((with_reducible refine gate_callee (f := 15) rfl ?_); refine gq_ (some 21) rfl rfl Try.func15 #[.int .i64 (-100), .slice Ao41 y155.length co41] rfl ?_; (with_reducible refine (rounding_Allocate.calls k (-100) _ _ y155 t158 t159 _ ?side1 ?side2 A3.out).mono ?_); (case side1 => repeat (first | exact (Kd.R_reads' HO157.out).2.2 | (with_reducible refine Kd.C_alloc ?_ _) | (with_reducible refine Kd.C_drewN ?_ _) | (with_reducible refine Kd.C_drew ?_))); (case side2 => exact (Kd.R_reads' HO157.out).2.1); rintro e w42 ⟨v160, rfl, ho0, hb⟩; refine ⟨_, rfl, ?_⟩; have HO161 := Aside0.mk (Kd.R_lower (Kd.R_new' ho0 (Kd.R_lt (re_ HO157))) (below_size (be_ HB))); replace HO157 := Aside0.mk (Kd.R_elder' (re_ HO157) (Kd.R_base ho0) hb); replace HB := ts_ HB hb; (try clear hb); (try clear hb2); (try clear hk); (try clear hi); (try clear ho0)) | ((with_reducible refine gate_callee (f := 18) rfl ?_); refine gq_ (some 25) rfl rfl Try.func18 #[.int .i64 10, .int .i64 1, .int .i64 4, .int .i64 1, .int .i64 6] rfl ?_; (with_reducible refine (rounding_Part.calls k 10 1 4 1 6 t162 t163 _ A4.out).mono ?_); rintro e w' ⟨rfl, ⟨nd, rfl⟩⟩; refine ⟨_, rfl, ?_⟩; obtain ⟨Ao43, co43, eo43⟩ := Kd.R_slice HO161.out; subst eo43; have p164 : 0 ≤ (0 : Int) := (by omega); have q164 : 0 < (t158.length : Int) := of_decide_eq_true (by first | (with_reducible assumption) | assumption); obtain ⟨ad164, e164, hx164_0⟩ := Kd.at_int (Kd.R_reads' HO161.out).2.2 0 p164 q164; cases e164; have qi164 : (0 < t158.length) = True := eq_true (by omega); (try rw [show ((0 : Int)).toNat = 0 from rfl] at hx164_0); (try rw [Addr.add_zero'] at hx164_0); replace p164 := eq_true p164; replace q164 := eq_true q164))
         go_ret
         exact ⟨by first | rfl | (simp [errW_none, errW_some] <;> rfl) | (simp [*, errW_none, errW_some] <;> rfl), be_ HB⟩
       ·
        rw [if_neg c11] at H
        exact absurd H (by simp)
      ·
       rw [if_neg c10] at H
       have c10b0 : ((t158.length : Int) == 3) = false := beq_eq_false_iff_ne.mpr c10
       have c10b1 : ((t158.length : Int) != 3) = true := bne_iff_ne.mpr c10
       obtain rfl := Option.some.inj H
       go_enter Try.func17, Try.ntmps17
       go_wp2_with (first | ((with_reducible refine gate_callee (f := 37) rfl ?_); refine gq_ (some 11) rfl rfl Try.func37 #[.agg #[.int .i64 5, .int .i64 2], .int .i64 4] rfl ?_; (with_reducible refine (rounding_Cents.calls k 5 2 4 t151 t152 _ A1.out).mono ?_); rintro e w44 ⟨rfl, hb⟩; refine ⟨_, rfl, ?_⟩; replace HB := ts_ HB hb; (try clear hb); (try clear hb2); (try clear hk); (try clear hi)) | ((with_reducible refine gate_callee (f := 37) rfl ?_); refine gq_ (some 16) rfl rfl Try.func37 #[.agg #[.int .i64 (-5), .int .i64 2], .int .i64 6] rfl ?_; (with_reducible refine (rounding_Cents.calls k (-5) 2 6 t153 t154 _ A2.out).mono ?_); rintro e w45 ⟨rfl, hb⟩; refine ⟨_, rfl, ?_⟩; replace HB := ts_ HB hb; (try clear hb); (try clear hb2); (try clear hk); (try clear hi)) | ((with_reducible refine gate_dst (N := 20) rfl ?_); (try (refine gate_guard (by rfl) ?_; dsimp only)); refine Kd.R_lit (Kd.int .i64) _ 3 ?hg (N := 20) ?hd (xs := ([1, 1, 1] : List Int)) (inner := [.int .i64 1, .int .i64 1, .int .i64 1]) (ok := fun _ => True) (okp := fun _ => True) ?hr ?hp (fun _ hk => hk) trivial (Below.refl _ _) (Nat.le_refl _) (by simp) ?_; (case hd => rfl); (case hg => rfl); (case hr => first | (go_simp; done) | (go_simp; rfl)); (case hp => exact (Reps.one (show Kd.M (Kd.int .i64) _ _ _ 1 [.int .i64 1] from rfl) (Reps.one (show Kd.M (Kd.int .i64) _ _ _ 1 [.int .i64 1] from rfl) (Reps.one (show Kd.M (Kd.int .i64) _ _ _ 1 [.int .i64 1] from rfl) (Reps.none _ _))))); intro v156 w46 ho47 hb hg_ hnew_; clear hg_ hnew_; (first | rw [← Ny155.out] at ho47 | (simp only [Int.reduceToNat] at ho47; rw [← Ny155.out] at ho47)); have HO157 := Aside0.mk (Kd.R_lower ho47 (below_size (be_ HB))); replace HB := ts_ HB hb; clear hb ho47; obtain ⟨Ao48, co48, eo48⟩ := Kd.R_slice HO157.out; subst eo48) | ((with_reducible refine gate_callee (f := 15) rfl ?_); refine gq_ (some 21) rfl rfl Try.func15 #[.int .i64 (-100), .slice Ao48 y155.length co48] rfl ?_; (with_reducible refine (rounding_Allocate.calls k (-100) _ _ y155 t158 t159 _ ?side1 ?side2 A3.out).mono ?_); (case side1 => repeat (first | exact (Kd.R_reads' HO157.out).2.2 | (with_reducible refine Kd.C_alloc ?_ _) | (with_reducible refine Kd.C_drewN ?_ _) | (with_reducible refine Kd.C_drew ?_))); (case side2 => exact (Kd.R_reads' HO157.out).2.1); rintro e w49 ⟨v160, rfl, ho0, hb⟩; refine ⟨_, rfl, ?_⟩; have HO161 := Aside0.mk (Kd.R_lower (Kd.R_new' ho0 (Kd.R_lt (re_ HO157))) (below_size (be_ HB))); replace HO157 := Aside0.mk (Kd.R_elder' (re_ HO157) (Kd.R_base ho0) hb); replace HB := ts_ HB hb; (try clear hb); (try clear hb2); (try clear hk); (try clear hi); (try clear ho0)) | ((with_reducible refine gate_callee (f := 18) rfl ?_); refine gq_ (some 25) rfl rfl Try.func18 #[.int .i64 10, .int .i64 1, .int .i64 4, .int .i64 1, .int .i64 6] rfl ?_; (with_reducible refine (rounding_Part.calls k 10 1 4 1 6 t162 t163 _ A4.out).mono ?_); rintro e w' ⟨rfl, ⟨nd, rfl⟩⟩; refine ⟨_, rfl, ?_⟩; obtain ⟨Ao50, co50, eo50⟩ := Kd.R_slice HO161.out; subst eo50))
       go_ret
       exact ⟨by first | rfl | (simp [errW_none, errW_some] <;> rfl) | (simp [*, errW_none, errW_some] <;> rfl), be_ HB⟩
     ·
      rw [if_neg c9] at H
      have c9b0 : (t159 == 0) = false := beq_eq_false_iff_ne.mpr c9
      have c9b1 : (t159 != 0) = true := bne_iff_ne.mpr c9
      obtain rfl := Option.some.inj H
      go_enter Try.func17, Try.ntmps17
      go_wp2_with (first | ((with_reducible refine gate_callee (f := 37) rfl ?_); refine gq_ (some 11) rfl rfl Try.func37 #[.agg #[.int .i64 5, .int .i64 2], .int .i64 4] rfl ?_; (with_reducible refine (rounding_Cents.calls k 5 2 4 t151 t152 _ A1.out).mono ?_); rintro e w51 ⟨rfl, hb⟩; refine ⟨_, rfl, ?_⟩; replace HB := ts_ HB hb; (try clear hb); (try clear hb2); (try clear hk); (try clear hi)) | ((with_reducible refine gate_callee (f := 37) rfl ?_); refine gq_ (some 16) rfl rfl Try.func37 #[.agg #[.int .i64 (-5), .int .i64 2], .int .i64 6] rfl ?_; (with_reducible refine (rounding_Cents.calls k (-5) 2 6 t153 t154 _ A2.out).mono ?_); rintro e w52 ⟨rfl, hb⟩; refine ⟨_, rfl, ?_⟩; replace HB := ts_ HB hb; (try clear hb); (try clear hb2); (try clear hk); (try clear hi)) | ((with_reducible refine gate_dst (N := 20) rfl ?_); (try (refine gate_guard (by rfl) ?_; dsimp only)); refine Kd.R_lit (Kd.int .i64) _ 3 ?hg (N := 20) ?hd (xs := ([1, 1, 1] : List Int)) (inner := [.int .i64 1, .int .i64 1, .int .i64 1]) (ok := fun _ => True) (okp := fun _ => True) ?hr ?hp (fun _ hk => hk) trivial (Below.refl _ _) (Nat.le_refl _) (by simp) ?_; (case hd => rfl); (case hg => rfl); (case hr => first | (go_simp; done) | (go_simp; rfl)); (case hp => exact (Reps.one (show Kd.M (Kd.int .i64) _ _ _ 1 [.int .i64 1] from rfl) (Reps.one (show Kd.M (Kd.int .i64) _ _ _ 1 [.int .i64 1] from rfl) (Reps.one (show Kd.M (Kd.int .i64) _ _ _ 1 [.int .i64 1] from rfl) (Reps.none _ _))))); intro v156 w53 ho54 hb hg_ hnew_; clear hg_ hnew_; (first | rw [← Ny155.out] at ho54 | (simp only [Int.reduceToNat] at ho54; rw [← Ny155.out] at ho54)); have HO157 := Aside0.mk (Kd.R_lower ho54 (below_size (be_ HB))); replace HB := ts_ HB hb; clear hb ho54; obtain ⟨Ao55, co55, eo55⟩ := Kd.R_slice HO157.out; subst eo55) | ((with_reducible refine gate_callee (f := 15) rfl ?_); refine gq_ (some 21) rfl rfl Try.func15 #[.int .i64 (-100), .slice Ao55 y155.length co55] rfl ?_; (with_reducible refine (rounding_Allocate.calls k (-100) _ _ y155 t158 t159 _ ?side1 ?side2 A3.out).mono ?_); (case side1 => repeat (first | exact (Kd.R_reads' HO157.out).2.2 | (with_reducible refine Kd.C_alloc ?_ _) | (with_reducible refine Kd.C_drewN ?_ _) | (with_reducible refine Kd.C_drew ?_))); (case side2 => exact (Kd.R_reads' HO157.out).2.1); rintro e w56 ⟨v160, rfl, ho0, hb⟩; refine ⟨_, rfl, ?_⟩; have HO161 := Aside0.mk (Kd.R_lower (Kd.R_new' ho0 (Kd.R_lt (re_ HO157))) (below_size (be_ HB))); replace HO157 := Aside0.mk (Kd.R_elder' (re_ HO157) (Kd.R_base ho0) hb); replace HB := ts_ HB hb; (try clear hb); (try clear hb2); (try clear hk); (try clear hi); (try clear ho0)) | ((with_reducible refine gate_callee (f := 18) rfl ?_); refine gq_ (some 25) rfl rfl Try.func18 #[.int .i64 10, .int .i64 1, .int .i64 4, .int .i64 1, .int .i64 6] rfl ?_; (with_reducible refine (rounding_Part.calls k 10 1 4 1 6 t162 t163 _ A4.out).mono ?_); rintro e w' ⟨rfl, ⟨nd, rfl⟩⟩; refine ⟨_, rfl, ?_⟩))
      go_ret
      exact ⟨by first | rfl | (simp [errW_none, errW_some] <;> rfl) | (simp [*, errW_none, errW_some] <;> rfl), be_ HB⟩
    ·
     rw [if_neg c8] at H
     have c8b0 : (t153 == (-2)) = false := beq_eq_false_iff_ne.mpr c8
     have c8b1 : (t153 != (-2)) = true := bne_iff_ne.mpr c8
     obtain rfl := Option.some.inj H
     go_enter Try.func17, Try.ntmps17
     go_wp2_with (first | ((with_reducible refine gate_callee (f := 37) rfl ?_); refine gq_ (some 11) rfl rfl Try.func37 #[.agg #[.int .i64 5, .int .i64 2], .int .i64 4] rfl ?_; (with_reducible refine (rounding_Cents.calls k 5 2 4 t151 t152 _ A1.out).mono ?_); rintro e w57 ⟨rfl, hb⟩; refine ⟨_, rfl, ?_⟩; replace HB := ts_ HB hb; (try clear hb); (try clear hb2); (try clear hk); (try clear hi)) | ((with_reducible refine gate_callee (f := 37) rfl ?_); refine gq_ (some 16) rfl rfl Try.func37 #[.agg #[.int .i64 (-5), .int .i64 2], .int .i64 6] rfl ?_; (with_reducible refine (rounding_Cents.calls k (-5) 2 6 t153 t154 _ A2.out).mono ?_); rintro e w58 ⟨rfl, hb⟩; refine ⟨_, rfl, ?_⟩; replace HB := ts_ HB hb; (try clear hb); (try clear hb2); (try clear hk); (try clear hi)) | ((with_reducible refine gate_dst (N := 20) rfl ?_); (try (refine gate_guard (by rfl) ?_; dsimp only)); refine Kd.R_lit (Kd.int .i64) _ 3 ?hg (N := 20) ?hd (xs := ([1, 1, 1] : List Int)) (inner := [.int .i64 1, .int .i64 1, .int .i64 1]) (ok := fun _ => True) (okp := fun _ => True) ?hr ?hp (fun _ hk => hk) trivial (Below.refl _ _) (Nat.le_refl _) (by simp) ?_; (case hd => rfl); (case hg => rfl); (case hr => first | (go_simp; done) | (go_simp; rfl)); (case hp => exact (Reps.one (show Kd.M (Kd.int .i64) _ _ _ 1 [.int .i64 1] from rfl) (Reps.one (show Kd.M (Kd.int .i64) _ _ _ 1 [.int .i64 1] from rfl) (Reps.one (show Kd.M (Kd.int .i64) _ _ _ 1 [.int .i64 1] from rfl) (Reps.none _ _))))); intro v156 w59 ho60 hb hg_ hnew_; clear hg_ hnew_; (first | rw [← Ny155.out] at ho60 | (simp only [Int.reduceToNat] at ho60; rw [← Ny155.out] at ho60)); have HO157 := Aside0.mk (Kd.R_lower ho60 (below_size (be_ HB))); replace HB := ts_ HB hb; clear hb ho60; obtain ⟨Ao61, co61, eo61⟩ := Kd.R_slice HO157.out; subst eo61) | ((with_reducible refine gate_callee (f := 15) rfl ?_); refine gq_ (some 21) rfl rfl Try.func15 #[.int .i64 (-100), .slice Ao61 y155.length co61] rfl ?_; (with_reducible refine (rounding_Allocate.calls k (-100) _ _ y155 t158 t159 _ ?side1 ?side2 A3.out).mono ?_); (case side1 => repeat (first | exact (Kd.R_reads' HO157.out).2.2 | (with_reducible refine Kd.C_alloc ?_ _) | (with_reducible refine Kd.C_drewN ?_ _) | (with_reducible refine Kd.C_drew ?_))); (case side2 => exact (Kd.R_reads' HO157.out).2.1); rintro e w62 ⟨v160, rfl, ho0, hb⟩; refine ⟨_, rfl, ?_⟩; have HO161 := Aside0.mk (Kd.R_lower (Kd.R_new' ho0 (Kd.R_lt (re_ HO157))) (below_size (be_ HB))); replace HO157 := Aside0.mk (Kd.R_elder' (re_ HO157) (Kd.R_base ho0) hb); replace HB := ts_ HB hb; (try clear hb); (try clear hb2); (try clear hk); (try clear hi); (try clear ho0)) | ((with_reducible refine gate_callee (f := 18) rfl ?_); refine gq_ (some 25) rfl rfl Try.func18 #[.int .i64 10, .int .i64 1, .int .i64 4, .int .i64 1, .int .i64 6] rfl ?_; (with_reducible refine (rounding_Part.calls k 10 1 4 1 6 t162 t163 _ A4.out).mono ?_); rintro e w' ⟨rfl, ⟨nd, rfl⟩⟩; refine ⟨_, rfl, ?_⟩))
     go_ret
     exact ⟨by first | rfl | (simp [errW_none, errW_some] <;> rfl) | (simp [*, errW_none, errW_some] <;> rfl), be_ HB⟩
   ·
    rw [if_neg c7] at H
    have c7b0 : (t154 == 0) = false := beq_eq_false_iff_ne.mpr c7
    have c7b1 : (t154 != 0) = true := bne_iff_ne.mpr c7
    obtain rfl := Option.some.inj H
    go_enter Try.func17, Try.ntmps17
    go_wp2_with (first | ((with_reducible refine gate_callee (f := 37) rfl ?_); refine gq_ (some 11) rfl rfl Try.func37 #[.agg #[.int .i64 5, .int .i64 2], .int .i64 4] rfl ?_; (with_reducible refine (rounding_Cents.calls k 5 2 4 t151 t152 _ A1.out).mono ?_); rintro e w63 ⟨rfl, hb⟩; refine ⟨_, rfl, ?_⟩; replace HB := ts_ HB hb; (try clear hb); (try clear hb2); (try clear hk); (try clear hi)) | ((with_reducible refine gate_callee (f := 37) rfl ?_); refine gq_ (some 16) rfl rfl Try.func37 #[.agg #[.int .i64 (-5), .int .i64 2], .int .i64 6] rfl ?_; (with_reducible refine (rounding_Cents.calls k (-5) 2 6 t153 t154 _ A2.out).mono ?_); rintro e w64 ⟨rfl, hb⟩; refine ⟨_, rfl, ?_⟩; replace HB := ts_ HB hb; (try clear hb); (try clear hb2); (try clear hk); (try clear hi)) | ((with_reducible refine gate_dst (N := 20) rfl ?_); (try (refine gate_guard (by rfl) ?_; dsimp only)); refine Kd.R_lit (Kd.int .i64) _ 3 ?hg (N := 20) ?hd (xs := ([1, 1, 1] : List Int)) (inner := [.int .i64 1, .int .i64 1, .int .i64 1]) (ok := fun _ => True) (okp := fun _ => True) ?hr ?hp (fun _ hk => hk) trivial (Below.refl _ _) (Nat.le_refl _) (by simp) ?_; (case hd => rfl); (case hg => rfl); (case hr => first | (go_simp; done) | (go_simp; rfl)); (case hp => exact (Reps.one (show Kd.M (Kd.int .i64) _ _ _ 1 [.int .i64 1] from rfl) (Reps.one (show Kd.M (Kd.int .i64) _ _ _ 1 [.int .i64 1] from rfl) (Reps.one (show Kd.M (Kd.int .i64) _ _ _ 1 [.int .i64 1] from rfl) (Reps.none _ _))))); intro v156 w65 ho66 hb hg_ hnew_; clear hg_ hnew_; (first | rw [← Ny155.out] at ho66 | (simp only [Int.reduceToNat] at ho66; rw [← Ny155.out] at ho66)); have HO157 := Aside0.mk (Kd.R_lower ho66 (below_size (be_ HB))); replace HB := ts_ HB hb; clear hb ho66; obtain ⟨Ao67, co67, eo67⟩ := Kd.R_slice HO157.out; subst eo67) | ((with_reducible refine gate_callee (f := 15) rfl ?_); refine gq_ (some 21) rfl rfl Try.func15 #[.int .i64 (-100), .slice Ao67 y155.length co67] rfl ?_; (with_reducible refine (rounding_Allocate.calls k (-100) _ _ y155 t158 t159 _ ?side1 ?side2 A3.out).mono ?_); (case side1 => repeat (first | exact (Kd.R_reads' HO157.out).2.2 | (with_reducible refine Kd.C_alloc ?_ _) | (with_reducible refine Kd.C_drewN ?_ _) | (with_reducible refine Kd.C_drew ?_))); (case side2 => exact (Kd.R_reads' HO157.out).2.1); rintro e w68 ⟨v160, rfl, ho0, hb⟩; refine ⟨_, rfl, ?_⟩; have HO161 := Aside0.mk (Kd.R_lower (Kd.R_new' ho0 (Kd.R_lt (re_ HO157))) (below_size (be_ HB))); replace HO157 := Aside0.mk (Kd.R_elder' (re_ HO157) (Kd.R_base ho0) hb); replace HB := ts_ HB hb; (try clear hb); (try clear hb2); (try clear hk); (try clear hi); (try clear ho0)) | ((with_reducible refine gate_callee (f := 18) rfl ?_); refine gq_ (some 25) rfl rfl Try.func18 #[.int .i64 10, .int .i64 1, .int .i64 4, .int .i64 1, .int .i64 6] rfl ?_; (with_reducible refine (rounding_Part.calls k 10 1 4 1 6 t162 t163 _ A4.out).mono ?_); rintro e w' ⟨rfl, ⟨nd, rfl⟩⟩; refine ⟨_, rfl, ?_⟩))
    go_ret
    exact ⟨by first | rfl | (simp [errW_none, errW_some] <;> rfl) | (simp [*, errW_none, errW_some] <;> rfl), be_ HB⟩
  ·
   rw [if_neg c6] at H
   have c6b0 : (t151 == 3) = false := beq_eq_false_iff_ne.mpr c6
   have c6b1 : (t151 != 3) = true := bne_iff_ne.mpr c6
   obtain rfl := Option.some.inj H
   go_enter Try.func17, Try.ntmps17
   go_wp2_with (first | ((with_reducible refine gate_callee (f := 37) rfl ?_); refine gq_ (some 11) rfl rfl Try.func37 #[.agg #[.int .i64 5, .int .i64 2], .int .i64 4] rfl ?_; (with_reducible refine (rounding_Cents.calls k 5 2 4 t151 t152 _ A1.out).mono ?_); rintro e w69 ⟨rfl, hb⟩; refine ⟨_, rfl, ?_⟩; replace HB := ts_ HB hb; (try clear hb); (try clear hb2); (try clear hk); (try clear hi)) | ((with_reducible refine gate_callee (f := 37) rfl ?_); refine gq_ (some 16) rfl rfl Try.func37 #[.agg #[.int .i64 (-5), .int .i64 2], .int .i64 6] rfl ?_; (with_reducible refine (rounding_Cents.calls k (-5) 2 6 t153 t154 _ A2.out).mono ?_); rintro e w70 ⟨rfl, hb⟩; refine ⟨_, rfl, ?_⟩; replace HB := ts_ HB hb; (try clear hb); (try clear hb2); (try clear hk); (try clear hi)) | ((with_reducible refine gate_dst (N := 20) rfl ?_); (try (refine gate_guard (by rfl) ?_; dsimp only)); refine Kd.R_lit (Kd.int .i64) _ 3 ?hg (N := 20) ?hd (xs := ([1, 1, 1] : List Int)) (inner := [.int .i64 1, .int .i64 1, .int .i64 1]) (ok := fun _ => True) (okp := fun _ => True) ?hr ?hp (fun _ hk => hk) trivial (Below.refl _ _) (Nat.le_refl _) (by simp) ?_; (case hd => rfl); (case hg => rfl); (case hr => first | (go_simp; done) | (go_simp; rfl)); (case hp => exact (Reps.one (show Kd.M (Kd.int .i64) _ _ _ 1 [.int .i64 1] from rfl) (Reps.one (show Kd.M (Kd.int .i64) _ _ _ 1 [.int .i64 1] from rfl) (Reps.one (show Kd.M (Kd.int .i64) _ _ _ 1 [.int .i64 1] from rfl) (Reps.none _ _))))); intro v156 w71 ho72 hb hg_ hnew_; clear hg_ hnew_; (first | rw [← Ny155.out] at ho72 | (simp only [Int.reduceToNat] at ho72; rw [← Ny155.out] at ho72)); have HO157 := Aside0.mk (Kd.R_lower ho72 (below_size (be_ HB))); replace HB := ts_ HB hb; clear hb ho72; obtain ⟨Ao73, co73, eo73⟩ := Kd.R_slice HO157.out; subst eo73) | ((with_reducible refine gate_callee (f := 15) rfl ?_); refine gq_ (some 21) rfl rfl Try.func15 #[.int .i64 (-100), .slice Ao73 y155.length co73] rfl ?_; (with_reducible refine (rounding_Allocate.calls k (-100) _ _ y155 t158 t159 _ ?side1 ?side2 A3.out).mono ?_); (case side1 => repeat (first | exact (Kd.R_reads' HO157.out).2.2 | (with_reducible refine Kd.C_alloc ?_ _) | (with_reducible refine Kd.C_drewN ?_ _) | (with_reducible refine Kd.C_drew ?_))); (case side2 => exact (Kd.R_reads' HO157.out).2.1); rintro e w74 ⟨v160, rfl, ho0, hb⟩; refine ⟨_, rfl, ?_⟩; have HO161 := Aside0.mk (Kd.R_lower (Kd.R_new' ho0 (Kd.R_lt (re_ HO157))) (below_size (be_ HB))); replace HO157 := Aside0.mk (Kd.R_elder' (re_ HO157) (Kd.R_base ho0) hb); replace HB := ts_ HB hb; (try clear hb); (try clear hb2); (try clear hk); (try clear hi); (try clear ho0)) | ((with_reducible refine gate_callee (f := 18) rfl ?_); refine gq_ (some 25) rfl rfl Try.func18 #[.int .i64 10, .int .i64 1, .int .i64 4, .int .i64 1, .int .i64 6] rfl ?_; (with_reducible refine (rounding_Part.calls k 10 1 4 1 6 t162 t163 _ A4.out).mono ?_); rintro e w' ⟨rfl, ⟨nd, rfl⟩⟩; refine ⟨_, rfl, ?_⟩))
   go_ret
   exact ⟨by first | rfl | (simp [errW_none, errW_some] <;> rfl) | (simp [*, errW_none, errW_some] <;> rfl), be_ HB⟩
 ·
  rw [if_neg c5] at H
  have c5b0 : (t152 == 0) = false := beq_eq_false_iff_ne.mpr c5
  have c5b1 : (t152 != 0) = true := bne_iff_ne.mpr c5
  obtain rfl := Option.some.inj H
  go_enter Try.func17, Try.ntmps17
  go_wp2_with (first | ((with_reducible refine gate_callee (f := 37) rfl ?_); refine gq_ (some 11) rfl rfl Try.func37 #[.agg #[.int .i64 5, .int .i64 2], .int .i64 4] rfl ?_; (with_reducible refine (rounding_Cents.calls k 5 2 4 t151 t152 _ A1.out).mono ?_); rintro e w75 ⟨rfl, hb⟩; refine ⟨_, rfl, ?_⟩; replace HB := ts_ HB hb; (try clear hb); (try clear hb2); (try clear hk); (try clear hi)) | ((with_reducible refine gate_callee (f := 37) rfl ?_); refine gq_ (some 16) rfl rfl Try.func37 #[.agg #[.int .i64 (-5), .int .i64 2], .int .i64 6] rfl ?_; (with_reducible refine (rounding_Cents.calls k (-5) 2 6 t153 t154 _ A2.out).mono ?_); rintro e w76 ⟨rfl, hb⟩; refine ⟨_, rfl, ?_⟩; replace HB := ts_ HB hb; (try clear hb); (try clear hb2); (try clear hk); (try clear hi)) | ((with_reducible refine gate_dst (N := 20) rfl ?_); (try (refine gate_guard (by rfl) ?_; dsimp only)); refine Kd.R_lit (Kd.int .i64) _ 3 ?hg (N := 20) ?hd (xs := ([1, 1, 1] : List Int)) (inner := [.int .i64 1, .int .i64 1, .int .i64 1]) (ok := fun _ => True) (okp := fun _ => True) ?hr ?hp (fun _ hk => hk) trivial (Below.refl _ _) (Nat.le_refl _) (by simp) ?_; (case hd => rfl); (case hg => rfl); (case hr => first | (go_simp; done) | (go_simp; rfl)); (case hp => exact (Reps.one (show Kd.M (Kd.int .i64) _ _ _ 1 [.int .i64 1] from rfl) (Reps.one (show Kd.M (Kd.int .i64) _ _ _ 1 [.int .i64 1] from rfl) (Reps.one (show Kd.M (Kd.int .i64) _ _ _ 1 [.int .i64 1] from rfl) (Reps.none _ _))))); intro v156 w77 ho78 hb hg_ hnew_; clear hg_ hnew_; (first | rw [← Ny155.out] at ho78 | (simp only [Int.reduceToNat] at ho78; rw [← Ny155.out] at ho78)); have HO157 := Aside0.mk (Kd.R_lower ho78 (below_size (be_ HB))); replace HB := ts_ HB hb; clear hb ho78; obtain ⟨Ao79, co79, eo79⟩ := Kd.R_slice HO157.out; subst eo79) | ((with_reducible refine gate_callee (f := 15) rfl ?_); refine gq_ (some 21) rfl rfl Try.func15 #[.int .i64 (-100), .slice Ao79 y155.length co79] rfl ?_; (with_reducible refine (rounding_Allocate.calls k (-100) _ _ y155 t158 t159 _ ?side1 ?side2 A3.out).mono ?_); (case side1 => repeat (first | exact (Kd.R_reads' HO157.out).2.2 | (with_reducible refine Kd.C_alloc ?_ _) | (with_reducible refine Kd.C_drewN ?_ _) | (with_reducible refine Kd.C_drew ?_))); (case side2 => exact (Kd.R_reads' HO157.out).2.1); rintro e w80 ⟨v160, rfl, ho0, hb⟩; refine ⟨_, rfl, ?_⟩; have HO161 := Aside0.mk (Kd.R_lower (Kd.R_new' ho0 (Kd.R_lt (re_ HO157))) (below_size (be_ HB))); replace HO157 := Aside0.mk (Kd.R_elder' (re_ HO157) (Kd.R_base ho0) hb); replace HB := ts_ HB hb; (try clear hb); (try clear hb2); (try clear hk); (try clear hi); (try clear ho0)) | ((with_reducible refine gate_callee (f := 18) rfl ?_); refine gq_ (some 25) rfl rfl Try.func18 #[.int .i64 10, .int .i64 1, .int .i64 4, .int .i64 1, .int .i64 6] rfl ?_; (with_reducible refine (rounding_Part.calls k 10 1 4 1 6 t162 t163 _ A4.out).mono ?_); rintro e w' ⟨rfl, ⟨nd, rfl⟩⟩; refine ⟨_, rfl, ?_⟩))
  go_ret
  exact ⟨by first | rfl | (simp [errW_none, errW_some] <;> rfl) | (simp [*, errW_none, errW_some] <;> rfl), be_ HB⟩

/-! ### payrollgen_Tape_Next: function 14 -/
def payrollgen_Tape_Next.f (s0_0 : List Int) (s0_1 : Int) (a1 : Int) : Option (Int × Int) := if a1 < 1 then (some (0, s0_1)) else (if s0_1 ≥ (s0_0.length : Int) then (some (0, s0_1)) else (if 0 ≤ (wrap64 ((wrap64 (s0_1 + 1)) - 1)) then (if (wrap64 ((wrap64 (s0_1 + 1)) - 1)) < (s0_0.length : Int) then ((payrollgen_Mod.f (rd s0_0 (wrap64 ((wrap64 (s0_1 + 1)) - 1))) a1).bind fun t167 => (some (t167, wrap64 (s0_1 + 1)))) else (none)) else (none)))
set_option maxHeartbeats 8000000 in
set_option maxRecDepth 100000 in
theorem payrollgen_Tape_Next.calls (g : Nat) (s0_0 : List Int) (s0_1 : Int) (a1 : Int) (r1 : Int) (r2 : Int) (w0 w : World) (hI : IsS53 w0 w g s0_0 s0_1) (hB : Below w0.heap.size w0 w) (h : payrollgen_Tape_Next.f s0_0 s0_1 a1 = some (r1, r2)) :
 Calls Try.prog 14 #[.pointer (some ⟨g, 0, none⟩), .int .i64 a1] w fun e w' => e = .returned (.int .i64 r1) ∧ IsS53 w0 w' g s0_0 r2 ∧ Below w0.heap.size w0 w' ∧ KeepBut w w' g none := by
 have HI0 := Aside0.mk hI
 have HK := Aside0.mk (KeepBut.refl w g none)
 have HL := Aside0.mk hB.size
 clear hI
 have HW0 := Aside0.mk hB.size
 have HB := Aside0.mk hB
 clear hB
 have H : (if a1 < 1 then (some (0, s0_1)) else (if s0_1 ≥ (s0_0.length : Int) then (some (0, s0_1)) else (if 0 ≤ (wrap64 ((wrap64 (s0_1 + 1)) - 1)) then (if (wrap64 ((wrap64 (s0_1 + 1)) - 1)) < (s0_0.length : Int) then ((payrollgen_Mod.f (rd s0_0 (wrap64 ((wrap64 (s0_1 + 1)) - 1))) a1).bind fun t167 => (some (t167, wrap64 (s0_1 + 1)))) else (none)) else (none)))) = some (r1, r2) := h
 clear h
 by_cases c3 : a1 < 1
 ·
  rw [if_pos c3] at H
  have c3b0 : decide (a1 < 1) = true := decide_eq_true c3
  clear c3
  simp only [Option.some.injEq, Prod.mk.injEq] at H
  obtain ⟨rfl, rfl⟩ := H
  go_enter Try.func14, Try.ntmps14
  go_wp2
  repeat (go_quiet (fail); try go_wp2)
  go_ret
  exact ⟨by first | rfl | (simp [errW_none, errW_some] <;> rfl) | (simp [*, errW_none, errW_some] <;> rfl), IsS53.aq_ HI0, IsS53.bs_ HI0 HB, ke_ HK⟩
 ·
  rw [if_neg c3] at H
  have c3b0 : decide (a1 < 1) = false := decide_eq_false c3
  clear c3
  by_cases c4 : s0_1 ≥ (s0_0.length : Int)
  ·
   rw [if_pos c4] at H
   have c4b0 : decide ((s0_0.length : Int) ≤ s0_1) = true := decide_eq_true c4
   clear c4
   simp only [Option.some.injEq, Prod.mk.injEq] at H
   obtain ⟨rfl, rfl⟩ := H
   obtain ⟨ASz5_0, cSz5_0, HGz5, hgz5, HSz5_0⟩ := HI0.out
   have hcz5_0 := cellS53_0 HGz5
   have hcz5_1 := cellS53_1 HGz5
   have hfz5_1 := blk_frozen HGz5 1
   clear HGz5 hgz5
   go_enter Try.func14, Try.ntmps14
   go_wp2
   repeat (go_quiet (fail); try go_wp2)
   go_ret
   exact ⟨by first | rfl | (simp [errW_none, errW_some] <;> rfl) | (simp [*, errW_none, errW_some] <;> rfl), IsS53.aq_ HI0, IsS53.bs_ HI0 HB, ke_ HK⟩
  ·
   rw [if_neg c4] at H
   have c4b0 : decide ((s0_0.length : Int) ≤ s0_1) = false := decide_eq_false c4
   clear c4
   obtain ⟨ji6, hji6⟩ : ∃ j_ : Int, (wrap64 ((wrap64 (s0_1 + 1)) - 1)) = j_ := ⟨_, rfl⟩
   replace H : (if 0 ≤ (ji6) then (if (ji6) < (s0_0.length : Int) then ((payrollgen_Mod.f (rd s0_0 (ji6)) a1).bind fun t167 => (some (t167, wrap64 (s0_1 + 1)))) else (none)) else (none)) = some (r1, r2) := by first | (rw [hji6] at H; exact H) | (simp only [hji6] at H ⊢; exact H)
   have hji6w : (IntKind.i64.wrap ((wrap64 (s0_1 + 1)) - 1)) = ji6 := (i64_w _).trans hji6
   by_cases c7 : 0 ≤ (ji6)
   ·
    rw [if_pos c7] at H
    have c7b0 : decide (0 ≤ (ji6)) = true := decide_eq_true c7
    clear c7
    by_cases c8 : (ji6) < (s0_0.length : Int)
    ·
     rw [if_pos c8] at H
     have c8b0 : decide ((ji6) < (s0_0.length : Int)) = true := decide_eq_true c8
     clear c8
     replace H := Option.bind_eq_some_iff.mp H
     obtain ⟨t167, A90, H⟩ := H
     replace H : (some (t167, wrap64 (s0_1 + 1))) = some (r1, r2) := H
     have A9 := Aside0.mk A90
     clear A90
     simp only [Option.some.injEq, Prod.mk.injEq] at H
     obtain ⟨rfl, rfl⟩ := H
     obtain ⟨ASz10_0, cSz10_0, HGz10, hgz10, HSz10_0⟩ := HI0.out
     have hcz10_0 := cellS53_0 HGz10
     have hcz10_1 := cellS53_1 HGz10
     have hfz10_1 := blk_frozen HGz10 1
     clear HGz10 hgz10
     have p166 : 0 ≤ ((ji6) : Int) := of_decide_eq_true (by first | (with_reducible assumption) | assumption)
     have q166 : (ji6) < (s0_0.length : Int) := of_decide_eq_true (by first | (with_reducible assumption) | assumption)
     obtain ⟨ad166, e166, hx166_0⟩ := Kd.at_int HSz10_0 (ji6) p166 q166
     cases e166
     have hn166_0 : ad166.block ≠ g := Nat.ne_of_lt (Nat.lt_of_lt_of_le (by have := World.block_lt_of_cell? _ _ hx166_0; first | rwa [add_block] at this | exact this) (IsS53.ge HI0.out))
     replace hx166_0 := pw_cell_below HB.out hx166_0
     replace hx166_0 := (cell_far (p := ⟨g, 1, none⟩) (by first | (rw [add_block]; exact hn166_0) | (show (Addr.add _ _).block ≠ _; rw [add_block]; exact hn166_0) | exact hn166_0) (.int .i64 (wrap64 (s0_1 + 1)))).trans hx166_0
     (try have hy166_0 := fun (n_ : Nat) => (show (((w.drewN n_).setCell ⟨g, 1, none⟩ (.int .i64 (wrap64 (s0_1 + 1))))).cell? _ = some _ from hx166_0))
     clear hn166_0
     replace p166 := eq_true p166
     replace q166 := eq_true q166
     go_enter Try.func14, Try.ntmps14
     go_wp2_with (first | (go_at_call 12; (with_reducible refine (payrollgen_Mod.calls (rd s0_0 (ji6)) a1 t167 _ A9.out).mono ?_); rintro e w' ⟨rfl, ⟨nd, rfl⟩⟩; (try first | exact ⟨rfl, _, World.drewN_drewN _ _ _⟩ | exact ⟨rfl, _, Eq.trans (World.drewN_drewN _ _ _) (congrArg (World.drewN _) (Nat.add_assoc _ _ _))⟩)))
     repeat (go_quiet (first | (go_at_call 12; (with_reducible refine (payrollgen_Mod.calls (rd s0_0 (ji6)) a1 t167 _ A9.out).mono ?_); rintro e w' ⟨rfl, ⟨nd, rfl⟩⟩; (try first | exact ⟨rfl, _, World.drewN_drewN _ _ _⟩ | exact ⟨rfl, _, Eq.trans (World.drewN_drewN _ _ _) (congrArg (World.drewN _) (Nat.add_assoc _ _ _))⟩))); try go_wp2_with (first | (go_at_call 12; (with_reducible refine (payrollgen_Mod.calls (rd s0_0 (ji6)) a1 t167 _ A9.out).mono ?_); rintro e w' ⟨rfl, ⟨nd, rfl⟩⟩; (try first | exact ⟨rfl, _, World.drewN_drewN _ _ _⟩ | exact ⟨rfl, _, Eq.trans (World.drewN_drewN _ _ _) (congrArg (World.drewN _) (Nat.add_assoc _ _ _))⟩))))
     go_ret
     exact ⟨by first | rfl | (simp [errW_none, errW_some] <;> rfl) | (simp only [← hji6]; first | rfl | (simp [errW_none, errW_some] <;> rfl)) | (simp [*, errW_none, errW_some] <;> rfl), IsS53.aq_ HI0, IsS53.bs_ HI0 HB, ke_ HK⟩
    ·
     rw [if_neg c8] at H
     exact absurd H (by simp)
   ·
    rw [if_neg c7] at H
    exact absurd H (by simp)

/-! ### payrollgen_Tape_Pick: function 13 -/
def payrollgen_Tape_Pick.f (s0_0 : List Int) (s0_1 : Int) (l1 : List Int) : Option (Int × Int) := (payrollgen_Tape_Next.f s0_0 s0_1 (l1.length : Int)).bind fun bt168 => (if 0 ≤ bt168.1 then (if bt168.1 < (l1.length : Int) then (some (rd l1 bt168.1, bt168.2)) else (none)) else (none))
set_option maxHeartbeats 8000000 in
set_option maxRecDepth 100000 in
theorem payrollgen_Tape_Pick.calls (g : Nat) (s0_0 : List Int) (s0_1 : Int) (A1 : Option Addr) (c1 : Nat) (l1 : List Int) (r1 : Int) (r2 : Int) (w0 w : World) (hI : IsS53 w0 w g s0_0 s0_1) (hB : Below w0.heap.size w0 w) (hr1 : Kd.C (Kd.int .i64) w A1 l1.length l1) (hc1 : l1.length ≤ c1) (hf1 : ∀ ad, A1 = some ad → 0 < l1.length → ad.block ≠ g) (h : payrollgen_Tape_Pick.f s0_0 s0_1 l1 = some (r1, r2)) :
 Calls Try.prog 13 #[.pointer (some ⟨g, 0, none⟩), .slice A1 l1.length c1] w fun e w' => e = .returned (.int .i64 r1) ∧ IsS53 w0 w' g s0_0 r2 ∧ Below w0.heap.size w0 w' ∧ KeepBut w w' g none := by
 have HR1 := Aside0.mk hr1
 have HC1 := Aside0.mk hc1
 clear hr1 hc1
 have HI0 := Aside0.mk hI
 have HK := Aside0.mk (KeepBut.refl w g none)
 have HL := Aside0.mk hB.size
 clear hI
 have HW0 := Aside0.mk hB.size
 have HB := Aside0.mk hB
 clear hB
 have H : ((payrollgen_Tape_Next.f s0_0 s0_1 (l1.length : Int)).bind fun bt168 => (if 0 ≤ bt168.1 then (if bt168.1 < (l1.length : Int) then (some (rd l1 bt168.1, bt168.2)) else (none)) else (none))) = some (r1, r2) := h
 clear h
 replace H := Option.bind_eq_some_iff.mp H
 obtain ⟨⟨t168, t169⟩, A30, H⟩ := H
 replace H : (if 0 ≤ t168 then (if t168 < (l1.length : Int) then (some (rd l1 t168, t169)) else (none)) else (none)) = some (r1, r2) := H
 have A3 := Aside0.mk A30
 clear A30
 by_cases c4 : 0 ≤ t168
 ·
  rw [if_pos c4] at H
  have c4b0 : decide (0 ≤ t168) = true := decide_eq_true c4
  clear c4
  by_cases c5 : t168 < (l1.length : Int)
  ·
   rw [if_pos c5] at H
   have c5b0 : decide (t168 < (l1.length : Int)) = true := decide_eq_true c5
   clear c5
   simp only [Option.some.injEq, Prod.mk.injEq] at H
   obtain ⟨rfl, rfl⟩ := H
   go_enter Try.func13, Try.ntmps13
   go_wp2_with (first | ((with_reducible refine gate_callee (f := 14) rfl ?_); refine gq_ (some 9) rfl rfl Try.func14 #[.pointer (some ⟨g, 0, none⟩), .int .i64 (l1.length : Int)] rfl ?_; (with_reducible refine (payrollgen_Tape_Next.calls g s0_0 s0_1 (l1.length : Int) t168 t169 w0 _ ?side1 ?side2 A3.out).mono ?_); (case side1 => exact IsS53.aq_ HI0); (case side2 => exact IsS53.bs_ HI0 HB); rintro e w6 ⟨rfl, hi, hb, hk⟩; refine ⟨_, rfl, ?_⟩; replace HK := kt_ HK hk; replace HB := Aside0.mk (hb); replace HI0 := Aside0.mk (hi); (try clear hb); (try clear hb2); (try clear hk); (try clear hi); have p170 : 0 ≤ (t168 : Int) := of_decide_eq_true (by first | (with_reducible assumption) | assumption); have q170 : t168 < (l1.length : Int) := of_decide_eq_true (by first | (with_reducible assumption) | assumption); obtain ⟨ad170, e170, hx170_0⟩ := Kd.at_int HR1.out t168 p170 q170; cases e170; replace hx170_0 := keep_cell HK.out hx170_0 (by first | (rw [add_block]; exact hf1 _ rfl (by omega)) | exact hf1 _ rfl (by omega) | exact hf1 ad170 rfl (by omega)); replace p170 := eq_true p170; replace q170 := eq_true q170))
   go_ret
   exact ⟨by first | rfl | (simp [errW_none, errW_some] <;> rfl) | (simp [*, errW_none, errW_some] <;> rfl), IsS53.aq_ HI0, IsS53.bs_ HI0 HB, ke_ HK⟩
  ·
   rw [if_neg c5] at H
   exact absurd H (by simp)
 ·
  rw [if_neg c4] at H
  exact absurd H (by simp)

/-! ### payrollref1_size: function 47 -/
def payrollref1_size.f (a0 : Int) : Option (Int) := if a0 < 0 then (some (IntKind.u64.wrap ((IntKind.u64.wrap (wrap64 (-(wrap64 (a0 + 1))))) + 1))) else (some (IntKind.u64.wrap (a0)))
set_option maxHeartbeats 8000000 in
set_option maxRecDepth 100000 in
theorem payrollref1_size.calls (a0 : Int) (r : Int) (w : World) (h : payrollref1_size.f a0 = some r) :
 Calls Try.prog 47 #[.int .i64 a0] w fun e w' => e = .returned (.int .u64 r) ∧ Drawn0 w w' := by
 have H : (if a0 < 0 then (some (IntKind.u64.wrap ((IntKind.u64.wrap (wrap64 (-(wrap64 (a0 + 1))))) + 1))) else (some (IntKind.u64.wrap (a0)))) = some r := h
 clear h
 by_cases c2 : a0 < 0
 ·
  rw [if_pos c2] at H
  have c2b0 : decide (a0 < 0) = true := decide_eq_true c2
  clear c2
  obtain rfl := Option.some.inj H
  go_enter Try.func47, Try.ntmps47
  go_wp2
  go_ret
  exact ⟨by first | rfl | (simp; done) | (simp [*]; done), by repeat (first | exact Drawn0.refl _ | apply Drawn0.step)⟩
 ·
  rw [if_neg c2] at H
  have c2b0 : decide (a0 < 0) = false := decide_eq_false c2
  clear c2
  obtain rfl := Option.some.inj H
  go_enter Try.func47, Try.ntmps47
  go_wp2
  go_ret
  exact ⟨by first | rfl | (simp; done) | (simp [*]; done), by repeat (first | exact Drawn0.refl _ | apply Drawn0.step)⟩

/-! ### payrollref1_common: function 48 -/
def payrollref1_common.l0 : Nat → Int → Int → Option (Int)
 | 0, _, _ => none
 | k + 1, x0, x1 => if x1 = 0 then (some x0) else (payrollref1_common.l0 k x1 (Int.tmod x0 x1))
def payrollref1_common.f (k : Nat) (a0 : Int) (a1 : Int) : Option (Int) := payrollref1_common.l0 k a0 a1
theorem payrollref1_common.mono_l : ∀ k, (∀ y0 y1, LeO (payrollref1_common.l0 k y0 y1) (payrollref1_common.l0 (k + 1) y0 y1))
 | 0 => fun _ _ r h => by simp [payrollref1_common.l0] at h
 | k + 1 => by
  have ih0 := payrollref1_common.mono_l k
  ·
   intro y0 y1
   unfold payrollref1_common.l0
   repeat' first
   | (with_reducible exact ih0 _ _)
   | (with_reducible exact LeO.refl _)
   | (with_reducible exact LeO.none _)
   | (with_reducible refine LeO.ite ?_ ?_)
   | (with_reducible refine LeO.bind ?_ (fun _ => ?_))
   | exact ih0 _ _
   | exact LeO.none _
   | refine LeO.ite ?_ ?_
   | refine LeO.bind ?_ (fun _ => ?_)
theorem payrollref1_common.mono : ∀ a0 a1 k, LeO (payrollref1_common.f k a0 a1) (payrollref1_common.f (k + 1) a0 a1) := by
 intro a0 a1 k
 have ih0 := payrollref1_common.mono_l k
 unfold payrollref1_common.f
 repeat' first
  | (with_reducible exact ih0 _ _)
  | (with_reducible exact LeO.refl _)
  | (with_reducible exact LeO.none _)
  | (with_reducible refine LeO.ite ?_ ?_)
  | (with_reducible refine LeO.bind ?_ (fun _ => ?_))
  | exact ih0 _ _
  | exact LeO.none _
  | refine LeO.ite ?_ ?_
  | refine LeO.bind ?_ (fun _ => ?_)
set_option maxHeartbeats 8000000 in
set_option maxRecDepth 100000 in
theorem payrollref1_common.calls (k : Nat) (a0 : Int) (a1 : Int) (r : Int) (w : World) (h : payrollref1_common.f k a0 a1 = some r) :
 Calls Try.prog 48 #[.int .u64 a0, .int .u64 a1] w fun e w' => e = .returned (.int .u64 r) ∧ Drawn0 w w' := by
 have H : (payrollref1_common.l0 k a0 a1) = some r := h
 clear h
 have H' := Aside0.mk H
 clear H
 go_enter Try.func48, Try.ntmps48
 go_wp2
 repeat (go_quiet (fail); try go_wp2)
 go_loopg [0, 1] k (fun kq v0 v1 w' => ∃ (x0_1 : Int) (x1_1 : Int), v0 = .int .u64 x0_1 ∧ v1 = .int .u64 x1_1 ∧ Aside0 (payrollref1_common.l0 kq x0_1 x1_1 = some r) ∧ Aside0 (kq ≤ k) ∧ Drawn0 w w')
 case atStart => exact ⟨(a0), (a1), (by first | rfl | (simp; done) | (simp [*]; done)), (by first | rfl | (simp; done) | (simp [*]; done)), H', ⟨Nat.le_refl _⟩, by repeat (first | exact Drawn0.refl _ | apply Drawn0.step)⟩
 case round =>
  clear H'
  try clear p2
  obtain ⟨x0_1, x1_1, rfl, rfl, HA, HK1, ⟨m1, rfl⟩⟩ := hrel
  cases gk with
  | zero => exact absurd HA.out (by simp [payrollref1_common.l0])
  | succ k1 =>
   have H := HA.out
   clear HA
   simp only [payrollref1_common.l0] at H
   by_cases c3 : x1_1 = 0
   ·
    rw [if_pos c3] at H
    have c3b0 : (x1_1 == 0) = true := beq_iff_eq.mpr c3
    have c3b1 : (x1_1 != 0) = false := bne_eq_false_iff_eq.mpr c3
    clear c3
    obtain rfl := Option.some.inj H
    go_wp2
    repeat (go_quiet (fail); try go_wp2)
    go_ret
    exact ⟨by first | rfl | (simp; done) | (simp [*]; done), by repeat (first | exact Drawn0.refl _ | apply Drawn0.step)⟩
   ·
    rw [if_neg c3] at H
    have c3b0 : (x1_1 == 0) = false := beq_eq_false_iff_ne.mpr c3
    have c3b1 : (x1_1 != 0) = true := bne_iff_ne.mpr c3
    have H' := Aside0.mk H
    clear H
    go_wp2
    repeat (go_quiet (fail); try go_wp2)
    go_roundg k1
    case measure => have := HK1.out; omega
    case rel => exact ⟨(x1_1), (Int.tmod x0_1 x1_1), (by first | rfl | (simp; done) | (simp [*]; done)), (by first | rfl | (simp; done) | (simp [*]; done)), H', ⟨by have := HK1.out; omega⟩, by repeat (first | exact Drawn0.refl _ | apply Drawn0.step)⟩

/-! ### payrollref1_New: function 31 -/
def payrollref1_New.j0 : Nat → Int → Int → Int → Int → Bool → Option (Int × Int × Int)
 | 0, _, _, _, _, _ => none
 | k + 1, x0, x1, x6, x7, x31 => if x31 = true then (some (0, 0, 4)) else (if ((decide (x0 < 0)) != (decide (x1 < 0))) = true then (some (wrap64 (-(wrap64 (x6))), wrap64 (x7), 0)) else (some (wrap64 (x6), wrap64 (x7), 0)))
def payrollref1_New.f (k : Nat) (a0 : Int) (a1 : Int) : Option (Int × Int × Int) := if a1 = 0 then (some (0, 0, 5)) else ((payrollref1_size.f a0).bind fun t172 => ((payrollref1_size.f a1).bind fun t173 => ((payrollref1_common.f k t172 t173).bind fun t174 => (if t174 = 0 then (none) else (if (IntKind.u64.wrap (Int.tdiv t172 t174)) > 1000000000000 then (payrollref1_New.j0 k a0 a1 (IntKind.u64.wrap (Int.tdiv t172 t174)) (IntKind.u64.wrap (Int.tdiv t173 t174)) true) else (payrollref1_New.j0 k a0 a1 (IntKind.u64.wrap (Int.tdiv t172 t174)) (IntKind.u64.wrap (Int.tdiv t173 t174)) (decide ((IntKind.u64.wrap (Int.tdiv t173 t174)) > 1000000))))))))
theorem payrollref1_New.mono_l : ∀ k, (∀ y0 y1 y2 y3 y4, LeO (payrollref1_New.j0 k y0 y1 y2 y3 y4) (payrollref1_New.j0 (k + 1) y0 y1 y2 y3 y4))
 | 0 => fun _ _ _ _ _ r h => by simp [payrollref1_New.j0] at h
 | k + 1 => by
  have ih0 := payrollref1_New.mono_l k
  ·
   intro y0 y1 y2 y3 y4
   unfold payrollref1_New.j0
   repeat' first
   | (with_reducible exact ih0 _ _ _ _ _)
   | (with_reducible exact payrollref1_common.mono _ _ _)
   | (with_reducible exact LeO.refl _)
   | (with_reducible exact LeO.none _)
   | (with_reducible refine LeO.ite ?_ ?_)
   | (with_reducible refine LeO.bind ?_ (fun _ => ?_))
   | exact ih0 _ _ _ _ _
   | exact payrollref1_common.mono _ _ _
   | exact LeO.none _
   | refine LeO.ite ?_ ?_
   | refine LeO.bind ?_ (fun _ => ?_)
theorem payrollref1_New.mono : ∀ a0 a1 k, LeO (payrollref1_New.f k a0 a1) (payrollref1_New.f (k + 1) a0 a1) := by
 intro a0 a1 k
 have ih0 := payrollref1_New.mono_l k
 unfold payrollref1_New.f
 repeat' first
  | (with_reducible exact ih0 _ _ _ _ _)
  | (with_reducible exact payrollref1_common.mono _ _ _)
  | (with_reducible exact LeO.refl _)
  | (with_reducible exact LeO.none _)
  | (with_reducible refine LeO.ite ?_ ?_)
  | (with_reducible refine LeO.bind ?_ (fun _ => ?_))
  | exact ih0 _ _ _ _ _
  | exact payrollref1_common.mono _ _ _
  | exact LeO.none _
  | refine LeO.ite ?_ ?_
  | refine LeO.bind ?_ (fun _ => ?_)
set_option maxHeartbeats 8000000 in
set_option maxRecDepth 100000 in
theorem payrollref1_New.calls (k : Nat) (a0 : Int) (a1 : Int) (r1 : Int) (r2 : Int) (r3 : Int) (w : World) (h : payrollref1_New.f k a0 a1 = some (r1, r2, r3)) :
 Calls Try.prog 31 #[.int .i64 a0, .int .i64 a1] w fun e w' => e = .returned (.tuple #[.agg #[.int .i64 r1, .int .i64 r2], .int .i64 r3]) ∧ Below w.heap.size w w' := by
 have hu41 := Try.underlying41
 have HB := Aside0.mk (Below.refl w.heap.size w)
 have H : (if a1 = 0 then (some (0, 0, 5)) else ((payrollref1_size.f a0).bind fun t172 => ((payrollref1_size.f a1).bind fun t173 => ((payrollref1_common.f k t172 t173).bind fun t174 => (if t174 = 0 then (none) else (if (IntKind.u64.wrap (Int.tdiv t172 t174)) > 1000000000000 then (payrollref1_New.j0 k a0 a1 (IntKind.u64.wrap (Int.tdiv t172 t174)) (IntKind.u64.wrap (Int.tdiv t173 t174)) true) else (payrollref1_New.j0 k a0 a1 (IntKind.u64.wrap (Int.tdiv t172 t174)) (IntKind.u64.wrap (Int.tdiv t173 t174)) (decide ((IntKind.u64.wrap (Int.tdiv t173 t174)) > 1000000))))))))) = some (r1, r2, r3) := h
 clear h
 by_cases c3 : a1 = 0
 ·
  rw [if_pos c3] at H
  have c3b0 : (a1 == 0) = true := beq_iff_eq.mpr c3
  have c3b1 : (a1 != 0) = false := bne_eq_false_iff_eq.mpr c3
  clear c3
  simp only [Option.some.injEq, Prod.mk.injEq] at H
  obtain ⟨rfl, rfl, rfl⟩ := H
  go_enter Try.func31, Try.ntmps31
  go_wp2_with (first | ((with_reducible refine gate_dst (N := 4) rfl ?_); refine bx_ (N := 4) (cs := #[.int .i64 0, .int .i64 0]) (t := 41) ?_; intro gb171 hg w4 hbox hb; have BK171 := Aside0.mk (hbox); have GW171 := sz_ HB hg; have GE171 := sz_ HB hg; replace HB := ts_ HB hb; clear hb hbox hg; have hcz5_0 : w4.cell? ⟨gb171, 0, none⟩ = some (.int .i64 0) := (blk_cell BK171.out 0).trans rfl; have hcz5_1 : w4.cell? ⟨gb171, 1, none⟩ = some (.int .i64 0) := (blk_cell BK171.out 1).trans rfl; have hfz5_0 := blk_frozen BK171.out 0; have hfz5_1 := blk_frozen BK171.out 1))
  repeat (go_quiet (first | ((with_reducible refine gate_dst (N := 4) rfl ?_); refine bx_ (N := 4) (cs := #[.int .i64 0, .int .i64 0]) (t := 41) ?_; intro gb171 hg w4 hbox hb; have BK171 := Aside0.mk (hbox); have GW171 := sz_ HB hg; have GE171 := sz_ HB hg; replace HB := ts_ HB hb; clear hb hbox hg; have hcz5_0 : w4.cell? ⟨gb171, 0, none⟩ = some (.int .i64 0) := (blk_cell BK171.out 0).trans rfl; have hcz5_1 : w4.cell? ⟨gb171, 1, none⟩ = some (.int .i64 0) := (blk_cell BK171.out 1).trans rfl; have hfz5_0 := blk_frozen BK171.out 0; have hfz5_1 := blk_frozen BK171.out 1)); try go_wp2_with (first | ((with_reducible refine gate_dst (N := 4) rfl ?_); refine bx_ (N := 4) (cs := #[.int .i64 0, .int .i64 0]) (t := 41) ?_; intro gb171 hg w4 hbox hb; have BK171 := Aside0.mk (hbox); have GW171 := sz_ HB hg; have GE171 := sz_ HB hg; replace HB := ts_ HB hb; clear hb hbox hg; have hcz5_0 : w4.cell? ⟨gb171, 0, none⟩ = some (.int .i64 0) := (blk_cell BK171.out 0).trans rfl; have hcz5_1 : w4.cell? ⟨gb171, 1, none⟩ = some (.int .i64 0) := (blk_cell BK171.out 1).trans rfl; have hfz5_0 := blk_frozen BK171.out 0; have hfz5_1 := blk_frozen BK171.out 1)))
  refine bodyPost_ret (results_ct rfl _ _ gb171 41 #[.int .i64 0, .int .i64 0] (0, 0) _ rfl (by (with_reducible repeat (first | refine blk_drewN ?_ _ | refine blk_drew ?_ | refine blk_alloc ?_ _)); refine blk_put (cs := #[.int .i64 0, .int .i64 0]) ?_ 1 _ rfl; (with_reducible repeat (first | refine blk_drewN ?_ _ | refine blk_drew ?_ | refine blk_alloc ?_ _)); refine blk_put (cs := #[.int .i64 0, .int .i64 0]) ?_ 0 _ rfl; (with_reducible repeat (first | refine blk_drewN ?_ _ | refine blk_drew ?_ | refine blk_alloc ?_ _)); exact BK171.out) Try.underlying41 rfl (by kernel_rfl)) rfl ?_
  exact ⟨by first | rfl | (simp [errW_none, errW_some] <;> rfl) | (simp [*, errW_none, errW_some] <;> rfl), be_ HB⟩
 ·
  rw [if_neg c3] at H
  have c3b0 : (a1 == 0) = false := beq_eq_false_iff_ne.mpr c3
  have c3b1 : (a1 != 0) = true := bne_iff_ne.mpr c3
  replace H := Option.bind_eq_some_iff.mp H
  obtain ⟨t172, A60, H⟩ := H
  replace H : ((payrollref1_size.f a1).bind fun t173 => ((payrollref1_common.f k t172 t173).bind fun t174 => (if t174 = 0 then (none) else (if (IntKind.u64.wrap (Int.tdiv t172 t174)) > 1000000000000 then (payrollref1_New.j0 k a0 a1 (IntKind.u64.wrap (Int.tdiv t172 t174)) (IntKind.u64.wrap (Int.tdiv t173 t174)) true) else (payrollref1_New.j0 k a0 a1 (IntKind.u64.wrap (Int.tdiv t172 t174)) (IntKind.u64.wrap (Int.tdiv t173 t174)) (decide ((IntKind.u64.wrap (Int.tdiv t173 t174)) > 1000000))))))) = some (r1, r2, r3) := H
  have A6 := Aside0.mk A60
  clear A60
  replace H := Option.bind_eq_some_iff.mp H
  obtain ⟨t173, A70, H⟩ := H
  replace H : ((payrollref1_common.f k t172 t173).bind fun t174 => (if t174 = 0 then (none) else (if (IntKind.u64.wrap (Int.tdiv t172 t174)) > 1000000000000 then (payrollref1_New.j0 k a0 a1 (IntKind.u64.wrap (Int.tdiv t172 t174)) (IntKind.u64.wrap (Int.tdiv t173 t174)) true) else (payrollref1_New.j0 k a0 a1 (IntKind.u64.wrap (Int.tdiv t172 t174)) (IntKind.u64.wrap (Int.tdiv t173 t174)) (decide ((IntKind.u64.wrap (Int.tdiv t173 t174)) > 1000000)))))) = some (r1, r2, r3) := H
  have A7 := Aside0.mk A70
  clear A70
  replace H := Option.bind_eq_some_iff.mp H
  obtain ⟨t174, A80, H⟩ := H
  replace H : (if t174 = 0 then (none) else (if (IntKind.u64.wrap (Int.tdiv t172 t174)) > 1000000000000 then (payrollref1_New.j0 k a0 a1 (IntKind.u64.wrap (Int.tdiv t172 t174)) (IntKind.u64.wrap (Int.tdiv t173 t174)) true) else (payrollref1_New.j0 k a0 a1 (IntKind.u64.wrap (Int.tdiv t172 t174)) (IntKind.u64.wrap (Int.tdiv t173 t174)) (decide ((IntKind.u64.wrap (Int.tdiv t173 t174)) > 1000000))))) = some (r1, r2, r3) := H
  have A8 := Aside0.mk A80
  clear A80
  by_cases c9 : t174 = 0
  ·
   rw [if_pos c9] at H
   exact absurd H (by simp)
  ·
   rw [if_neg c9] at H
   have c9b0 : (t174 == 0) = false := beq_eq_false_iff_ne.mpr c9
   have c9b1 : (t174 != 0) = true := bne_iff_ne.mpr c9
   have HC10 := Aside0.mk H
   clear H
   go_enter Try.func31, Try.ntmps31
   go_upto_region 6 with (first | ((with_reducible refine gate_dst (N := 4) rfl ?_); refine bx_ (N := 4) (cs := #[.int .i64 0, .int .i64 0]) (t := 41) ?_; intro gb171 hg w11 hbox hb; have BK171 := Aside0.mk (hbox); have GW171 := sz_ HB hg; have GE171 := sz_ HB hg; replace HB := ts_ HB hb; clear hb hbox hg) | (go_at_call 47; (with_reducible refine (payrollref1_size.calls a0 t172 _ A6.out).mono ?_); rintro e w' ⟨rfl, ⟨nd, rfl⟩⟩; (try first | exact ⟨rfl, _, World.drewN_drewN _ _ _⟩ | exact ⟨rfl, _, Eq.trans (World.drewN_drewN _ _ _) (congrArg (World.drewN _) (Nat.add_assoc _ _ _))⟩)) | (go_at_call 47; (with_reducible refine (payrollref1_size.calls a1 t173 _ A7.out).mono ?_); rintro e w' ⟨rfl, ⟨nd, rfl⟩⟩; (try first | exact ⟨rfl, _, World.drewN_drewN _ _ _⟩ | exact ⟨rfl, _, Eq.trans (World.drewN_drewN _ _ _) (congrArg (World.drewN _) (Nat.add_assoc _ _ _))⟩)) | (go_at_call 48; (with_reducible refine (payrollref1_common.calls k t172 t173 t174 _ A8.out).mono ?_); rintro e w' ⟨rfl, ⟨nd, rfl⟩⟩; (try first | exact ⟨rfl, _, World.drewN_drewN _ _ _⟩ | exact ⟨rfl, _, Eq.trans (World.drewN_drewN _ _ _) (congrArg (World.drewN _) (Nat.add_assoc _ _ _))⟩)))
   repeat (go_quiet (first | ((with_reducible refine gate_dst (N := 4) rfl ?_); refine bx_ (N := 4) (cs := #[.int .i64 0, .int .i64 0]) (t := 41) ?_; intro gb171 hg w11 hbox hb; have BK171 := Aside0.mk (hbox); have GW171 := sz_ HB hg; have GE171 := sz_ HB hg; replace HB := ts_ HB hb; clear hb hbox hg) | (go_at_call 47; (with_reducible refine (payrollref1_size.calls a0 t172 _ A6.out).mono ?_); rintro e w' ⟨rfl, ⟨nd, rfl⟩⟩; (try first | exact ⟨rfl, _, World.drewN_drewN _ _ _⟩ | exact ⟨rfl, _, Eq.trans (World.drewN_drewN _ _ _) (congrArg (World.drewN _) (Nat.add_assoc _ _ _))⟩)) | (go_at_call 47; (with_reducible refine (payrollref1_size.calls a1 t173 _ A7.out).mono ?_); rintro e w' ⟨rfl, ⟨nd, rfl⟩⟩; (try first | exact ⟨rfl, _, World.drewN_drewN _ _ _⟩ | exact ⟨rfl, _, Eq.trans (World.drewN_drewN _ _ _) (congrArg (World.drewN _) (Nat.add_assoc _ _ _))⟩)) | (go_at_call 48; (with_reducible refine (payrollref1_common.calls k t172 t173 t174 _ A8.out).mono ?_); rintro e w' ⟨rfl, ⟨nd, rfl⟩⟩; (try first | exact ⟨rfl, _, World.drewN_drewN _ _ _⟩ | exact ⟨rfl, _, Eq.trans (World.drewN_drewN _ _ _) (congrArg (World.drewN _) (Nat.add_assoc _ _ _))⟩))); go_upto_region 6 with (first | ((with_reducible refine gate_dst (N := 4) rfl ?_); refine bx_ (N := 4) (cs := #[.int .i64 0, .int .i64 0]) (t := 41) ?_; intro gb171 hg w11 hbox hb; have BK171 := Aside0.mk (hbox); have GW171 := sz_ HB hg; have GE171 := sz_ HB hg; replace HB := ts_ HB hb; clear hb hbox hg) | (go_at_call 47; (with_reducible refine (payrollref1_size.calls a0 t172 _ A6.out).mono ?_); rintro e w' ⟨rfl, ⟨nd, rfl⟩⟩; (try first | exact ⟨rfl, _, World.drewN_drewN _ _ _⟩ | exact ⟨rfl, _, Eq.trans (World.drewN_drewN _ _ _) (congrArg (World.drewN _) (Nat.add_assoc _ _ _))⟩)) | (go_at_call 47; (with_reducible refine (payrollref1_size.calls a1 t173 _ A7.out).mono ?_); rintro e w' ⟨rfl, ⟨nd, rfl⟩⟩; (try first | exact ⟨rfl, _, World.drewN_drewN _ _ _⟩ | exact ⟨rfl, _, Eq.trans (World.drewN_drewN _ _ _) (congrArg (World.drewN _) (Nat.add_assoc _ _ _))⟩)) | (go_at_call 48; (with_reducible refine (payrollref1_common.calls k t172 t173 t174 _ A8.out).mono ?_); rintro e w' ⟨rfl, ⟨nd, rfl⟩⟩; (try first | exact ⟨rfl, _, World.drewN_drewN _ _ _⟩ | exact ⟨rfl, _, Eq.trans (World.drewN_drewN _ _ _) (congrArg (World.drewN _) (Nat.add_assoc _ _ _))⟩))))
   (try simp only [Act.put, List.setIfInBounds_toArray, List.set_cons_zero, List.set_cons_succ])
   go_cut [31] (fun v31 wc => ∃ (kq : Nat) (x31_9 : Bool), v31 = .bool x31_9 ∧ Aside0 (payrollref1_New.j0 kq a0 a1 (IntKind.u64.wrap (Int.tdiv t172 t174)) (IntKind.u64.wrap (Int.tdiv t173 t174)) x31_9 = some (r1, r2, r3)) ∧ Aside0 (kq ≤ k) ∧ Aside0 (wc.heap[gb171]? = some (.cells #[.int .i64 0, .int .i64 0] 41 (0, 0))) ∧ Aside0 (Below w.heap.size w wc))
   case first =>
    have H := HC10.out
    clear HC10
    by_cases c12 : (IntKind.u64.wrap (Int.tdiv t172 t174)) > 1000000000000
    ·
     rw [if_pos c12] at H
     have c12b0 : decide (1000000000000 < (IntKind.u64.wrap (Int.tdiv t172 t174))) = true := decide_eq_true c12
     clear c12
     (first | rw [c12b0] | (simp only [i64_w, i32_w]; rw [c12b0]) | skip)
     have H' := Aside0.mk H
     clear H
     go_wp2
     repeat (go_quiet (fail); try go_wp2)
     go_meet
     case rel => exact ⟨_, (true), (by first | rfl | (simp; done) | (simp [*]; done)), H', ⟨by first | omega | exact Nat.le_refl _⟩, ⟨by (with_reducible repeat (first | refine blk_drewN ?_ _ | refine blk_drew ?_ | refine blk_alloc ?_ _)); exact BK171.out⟩, ⟨by repeat (first | (with_reducible first | exact HB.out | apply below_alloc | apply pw_below_drewN | apply below_drew1 | refine below_set ?_ GE171.out) | exact HB.out)⟩⟩
    ·
     rw [if_neg c12] at H
     have c12b0 : decide (1000000000000 < (IntKind.u64.wrap (Int.tdiv t172 t174))) = false := decide_eq_false c12
     clear c12
     (first | rw [c12b0] | (simp only [i64_w, i32_w]; rw [c12b0]) | skip)
     have H' := Aside0.mk H
     clear H
     go_wp2
     repeat (go_quiet (fail); try go_wp2)
     go_meet
     case rel => exact ⟨_, (decide ((IntKind.u64.wrap (Int.tdiv t173 t174)) > 1000000)), (by first | rfl | (simp; done) | (simp [*]; done)), H', ⟨by first | omega | exact Nat.le_refl _⟩, ⟨by (with_reducible repeat (first | refine blk_drewN ?_ _ | refine blk_drew ?_ | refine blk_alloc ?_ _)); exact BK171.out⟩, ⟨by repeat (first | (with_reducible first | exact HB.out | apply below_alloc | apply pw_below_drewN | apply below_drew1 | refine below_set ?_ GE171.out) | exact HB.out)⟩⟩
   case rest =>
    clear HC10
    try clear c1
    try clear p2
    try clear c3
    try clear c3b0
    try clear c3b1
    try clear c9
    try clear c9b0
    try clear c9b1
    try clear c12
    try clear c12b0
    try clear hcz5_0
    try clear hcz5_1
    try clear hfz5_0
    try clear hfz5_1
    obtain ⟨kq, x31_9, rfl, HA, HJ9, BK171, HB⟩ := hcut
    cases kq with
    | zero => exact absurd HA.out (by simp [payrollref1_New.j0])
    | succ kj9 =>
     have H := HA.out
     clear HA
     simp only [payrollref1_New.j0] at H
     by_cases c13 : x31_9 = true
     ·
      subst c13
      have H1 : (some (0, 0, 4)) = some (r1, r2, r3) := by rw [if_pos rfl] at H; exact H
      clear H
      have H := H1
      clear H1
      simp only [Option.some.injEq, Prod.mk.injEq] at H
      obtain ⟨rfl, rfl, rfl⟩ := H
      have hcz14_0 : wc.cell? ⟨gb171, 0, none⟩ = some (.int .i64 0) := (blk_cell BK171.out 0).trans rfl
      have hcz14_1 : wc.cell? ⟨gb171, 1, none⟩ = some (.int .i64 0) := (blk_cell BK171.out 1).trans rfl
      have hfz14_0 := blk_frozen BK171.out 0
      have hfz14_1 := blk_frozen BK171.out 1
      go_wp2
      repeat (go_quiet (fail); try go_wp2)
      refine bodyPost_ret (results_ct rfl _ _ gb171 41 #[.int .i64 0, .int .i64 0] (0, 0) _ rfl (by (with_reducible repeat (first | refine blk_drewN ?_ _ | refine blk_drew ?_ | refine blk_alloc ?_ _)); refine blk_put (cs := #[.int .i64 0, .int .i64 0]) ?_ 1 _ rfl; (with_reducible repeat (first | refine blk_drewN ?_ _ | refine blk_drew ?_ | refine blk_alloc ?_ _)); refine blk_put (cs := #[.int .i64 0, .int .i64 0]) ?_ 0 _ rfl; (with_reducible repeat (first | refine blk_drewN ?_ _ | refine blk_drew ?_ | refine blk_alloc ?_ _)); exact BK171.out) Try.underlying41 rfl (by kernel_rfl)) rfl ?_
      exact ⟨by first | rfl | (simp [errW_none, errW_some] <;> rfl) | (simp [*, errW_none, errW_some] <;> rfl), be_ HB⟩
     ·
      replace c13 := Bool.eq_false_iff.mpr c13
      subst c13
      have H1 : (if ((decide (a0 < 0)) != (decide (a1 < 0))) = true then (some (wrap64 (-(wrap64 ((IntKind.u64.wrap (Int.tdiv t172 t174))))), wrap64 ((IntKind.u64.wrap (Int.tdiv t173 t174))), 0)) else (some (wrap64 ((IntKind.u64.wrap (Int.tdiv t172 t174))), wrap64 ((IntKind.u64.wrap (Int.tdiv t173 t174))), 0))) = some (r1, r2, r3) := by rw [if_neg (show ¬ (false = true) by decide)] at H; exact H
      clear H
      have H := H1
      clear H1
      by_cases c15 : ((decide (a0 < 0)) != (decide (a1 < 0))) = true
      ·
       rw [if_pos c15] at H
       have c15b0 : ((decide (a0 < 0)) != (decide (a1 < 0))) = true := c15
       (try (have c15b1 : decide ((decide (a0 < 0)) = (decide (a1 < 0))) = false := by simpa using c15))
       (try (have c15b2 : ((decide (a0 < 0)) == (decide (a1 < 0))) = false := by simpa using c15))
       (try (have c15b3 : ¬ ((decide (a0 < 0)) = (decide (a1 < 0))) := by simpa using c15))
       clear c15
       simp only [Option.some.injEq, Prod.mk.injEq] at H
       obtain ⟨rfl, rfl, rfl⟩ := H
       go_wp2_with (first | ((with_reducible refine gate_dst (N := 9) rfl ?_); refine bx_ (N := 9) (cs := #[.int .i64 0, .int .i64 0]) (t := 41) ?_; intro gb175 hg w16 hbox hb; have BK175 := Aside0.mk (hbox); have GW175 := sz_ HB hg; have GE175 := sz_ HB hg; have NB171_175 := nl_ BK171 hg; have NB175_171 := nr_ BK171 hg; replace BK171 := tb_ BK171 hb; replace HB := ts_ HB hb; clear hb hbox hg; have hnb17 := NB175_171.out; have hnc17 := NB171_175.out; have hcz18_0 : w16.cell? ⟨gb175, 0, none⟩ = some (.int .i64 0) := (blk_cell BK175.out 0).trans rfl; have hcz18_1 : w16.cell? ⟨gb175, 1, none⟩ = some (.int .i64 0) := (blk_cell BK175.out 1).trans rfl; have hfz18_0 := blk_frozen BK175.out 0; have hfz18_1 := blk_frozen BK175.out 1; have hcz19_0 : w16.cell? ⟨gb171, 0, none⟩ = some (.int .i64 0) := (blk_cell BK171.out 0).trans rfl; have hcz19_1 : w16.cell? ⟨gb171, 1, none⟩ = some (.int .i64 0) := (blk_cell BK171.out 1).trans rfl; have hfz19_0 := blk_frozen BK171.out 0; have hfz19_1 := blk_frozen BK171.out 1))
       repeat (go_quiet (first | ((with_reducible refine gate_dst (N := 9) rfl ?_); refine bx_ (N := 9) (cs := #[.int .i64 0, .int .i64 0]) (t := 41) ?_; intro gb175 hg w16 hbox hb; have BK175 := Aside0.mk (hbox); have GW175 := sz_ HB hg; have GE175 := sz_ HB hg; have NB171_175 := nl_ BK171 hg; have NB175_171 := nr_ BK171 hg; replace BK171 := tb_ BK171 hb; replace HB := ts_ HB hb; clear hb hbox hg; have hnb17 := NB175_171.out; have hnc17 := NB171_175.out; have hcz18_0 : w16.cell? ⟨gb175, 0, none⟩ = some (.int .i64 0) := (blk_cell BK175.out 0).trans rfl; have hcz18_1 : w16.cell? ⟨gb175, 1, none⟩ = some (.int .i64 0) := (blk_cell BK175.out 1).trans rfl; have hfz18_0 := blk_frozen BK175.out 0; have hfz18_1 := blk_frozen BK175.out 1; have hcz19_0 : w16.cell? ⟨gb171, 0, none⟩ = some (.int .i64 0) := (blk_cell BK171.out 0).trans rfl; have hcz19_1 : w16.cell? ⟨gb171, 1, none⟩ = some (.int .i64 0) := (blk_cell BK171.out 1).trans rfl; have hfz19_0 := blk_frozen BK171.out 0; have hfz19_1 := blk_frozen BK171.out 1)); try go_wp2_with (first | ((with_reducible refine gate_dst (N := 9) rfl ?_); refine bx_ (N := 9) (cs := #[.int .i64 0, .int .i64 0]) (t := 41) ?_; intro gb175 hg w16 hbox hb; have BK175 := Aside0.mk (hbox); have GW175 := sz_ HB hg; have GE175 := sz_ HB hg; have NB171_175 := nl_ BK171 hg; have NB175_171 := nr_ BK171 hg; replace BK171 := tb_ BK171 hb; replace HB := ts_ HB hb; clear hb hbox hg; have hnb17 := NB175_171.out; have hnc17 := NB171_175.out; have hcz18_0 : w16.cell? ⟨gb175, 0, none⟩ = some (.int .i64 0) := (blk_cell BK175.out 0).trans rfl; have hcz18_1 : w16.cell? ⟨gb175, 1, none⟩ = some (.int .i64 0) := (blk_cell BK175.out 1).trans rfl; have hfz18_0 := blk_frozen BK175.out 0; have hfz18_1 := blk_frozen BK175.out 1; have hcz19_0 : w16.cell? ⟨gb171, 0, none⟩ = some (.int .i64 0) := (blk_cell BK171.out 0).trans rfl; have hcz19_1 : w16.cell? ⟨gb171, 1, none⟩ = some (.int .i64 0) := (blk_cell BK171.out 1).trans rfl; have hfz19_0 := blk_frozen BK171.out 0; have hfz19_1 := blk_frozen BK171.out 1)))
       refine bodyPost_ret (results_ct rfl _ _ gb171 41 #[.int .i64 (wrap64 (-(wrap64 ((IntKind.u64.wrap (Int.tdiv t172 t174)))))), .int .i64 (wrap64 ((IntKind.u64.wrap (Int.tdiv t173 t174))))] (0, 0) _ rfl (by (with_reducible repeat (first | refine blk_drewN ?_ _ | refine blk_drew ?_ | refine blk_alloc ?_ _)); refine blk_put (cs := #[.int .i64 (wrap64 (-(wrap64 ((IntKind.u64.wrap (Int.tdiv t172 t174)))))), .int .i64 0]) ?_ 1 _ rfl; (with_reducible repeat (first | refine blk_drewN ?_ _ | refine blk_drew ?_ | refine blk_alloc ?_ _)); refine blk_put (cs := #[.int .i64 0, .int .i64 0]) ?_ 0 _ rfl; (with_reducible repeat (first | refine blk_drewN ?_ _ | refine blk_drew ?_ | refine blk_alloc ?_ _)); refine blk_far ?_ NB171_175.out _; (with_reducible repeat (first | refine blk_drewN ?_ _ | refine blk_drew ?_ | refine blk_alloc ?_ _)); refine blk_far ?_ NB171_175.out _; (with_reducible repeat (first | refine blk_drewN ?_ _ | refine blk_drew ?_ | refine blk_alloc ?_ _)); refine blk_far ?_ NB171_175.out _; (with_reducible repeat (first | refine blk_drewN ?_ _ | refine blk_drew ?_ | refine blk_alloc ?_ _)); exact BK171.out) Try.underlying41 rfl (by kernel_rfl)) rfl ?_
       exact ⟨by first | rfl | (simp [errW_none, errW_some] <;> rfl) | (simp [*, errW_none, errW_some] <;> rfl), be_ HB⟩
      ·
       rw [if_neg c15] at H
       have c15b0 : ((decide (a0 < 0)) != (decide (a1 < 0))) = false := by simpa using c15
       (try (have c15b1 : decide ((decide (a0 < 0)) = (decide (a1 < 0))) = true := by simpa using c15))
       (try (have c15b2 : ((decide (a0 < 0)) == (decide (a1 < 0))) = true := by simpa using c15))
       clear c15
       simp only [Option.some.injEq, Prod.mk.injEq] at H
       obtain ⟨rfl, rfl, rfl⟩ := H
       go_wp2_with (first | ((with_reducible refine gate_dst (N := 9) rfl ?_); refine bx_ (N := 9) (cs := #[.int .i64 0, .int .i64 0]) (t := 41) ?_; intro gb175 hg w20 hbox hb; have BK175 := Aside0.mk (hbox); have GW175 := sz_ HB hg; have GE175 := sz_ HB hg; have NB171_175 := nl_ BK171 hg; have NB175_171 := nr_ BK171 hg; replace BK171 := tb_ BK171 hb; replace HB := ts_ HB hb; clear hb hbox hg; have hnb21 := NB175_171.out; have hnc21 := NB171_175.out; have hcz22_0 : w20.cell? ⟨gb175, 0, none⟩ = some (.int .i64 0) := (blk_cell BK175.out 0).trans rfl; have hcz22_1 : w20.cell? ⟨gb175, 1, none⟩ = some (.int .i64 0) := (blk_cell BK175.out 1).trans rfl; have hfz22_0 := blk_frozen BK175.out 0; have hfz22_1 := blk_frozen BK175.out 1; have hcz23_0 : w20.cell? ⟨gb171, 0, none⟩ = some (.int .i64 0) := (blk_cell BK171.out 0).trans rfl; have hcz23_1 : w20.cell? ⟨gb171, 1, none⟩ = some (.int .i64 0) := (blk_cell BK171.out 1).trans rfl; have hfz23_0 := blk_frozen BK171.out 0; have hfz23_1 := blk_frozen BK171.out 1))
       repeat (go_quiet (first | ((with_reducible refine gate_dst (N := 9) rfl ?_); refine bx_ (N := 9) (cs := #[.int .i64 0, .int .i64 0]) (t := 41) ?_; intro gb175 hg w20 hbox hb; have BK175 := Aside0.mk (hbox); have GW175 := sz_ HB hg; have GE175 := sz_ HB hg; have NB171_175 := nl_ BK171 hg; have NB175_171 := nr_ BK171 hg; replace BK171 := tb_ BK171 hb; replace HB := ts_ HB hb; clear hb hbox hg; have hnb21 := NB175_171.out; have hnc21 := NB171_175.out; have hcz22_0 : w20.cell? ⟨gb175, 0, none⟩ = some (.int .i64 0) := (blk_cell BK175.out 0).trans rfl; have hcz22_1 : w20.cell? ⟨gb175, 1, none⟩ = some (.int .i64 0) := (blk_cell BK175.out 1).trans rfl; have hfz22_0 := blk_frozen BK175.out 0; have hfz22_1 := blk_frozen BK175.out 1; have hcz23_0 : w20.cell? ⟨gb171, 0, none⟩ = some (.int .i64 0) := (blk_cell BK171.out 0).trans rfl; have hcz23_1 : w20.cell? ⟨gb171, 1, none⟩ = some (.int .i64 0) := (blk_cell BK171.out 1).trans rfl; have hfz23_0 := blk_frozen BK171.out 0; have hfz23_1 := blk_frozen BK171.out 1)); try go_wp2_with (first | ((with_reducible refine gate_dst (N := 9) rfl ?_); refine bx_ (N := 9) (cs := #[.int .i64 0, .int .i64 0]) (t := 41) ?_; intro gb175 hg w20 hbox hb; have BK175 := Aside0.mk (hbox); have GW175 := sz_ HB hg; have GE175 := sz_ HB hg; have NB171_175 := nl_ BK171 hg; have NB175_171 := nr_ BK171 hg; replace BK171 := tb_ BK171 hb; replace HB := ts_ HB hb; clear hb hbox hg; have hnb21 := NB175_171.out; have hnc21 := NB171_175.out; have hcz22_0 : w20.cell? ⟨gb175, 0, none⟩ = some (.int .i64 0) := (blk_cell BK175.out 0).trans rfl; have hcz22_1 : w20.cell? ⟨gb175, 1, none⟩ = some (.int .i64 0) := (blk_cell BK175.out 1).trans rfl; have hfz22_0 := blk_frozen BK175.out 0; have hfz22_1 := blk_frozen BK175.out 1; have hcz23_0 : w20.cell? ⟨gb171, 0, none⟩ = some (.int .i64 0) := (blk_cell BK171.out 0).trans rfl; have hcz23_1 : w20.cell? ⟨gb171, 1, none⟩ = some (.int .i64 0) := (blk_cell BK171.out 1).trans rfl; have hfz23_0 := blk_frozen BK171.out 0; have hfz23_1 := blk_frozen BK171.out 1)))
       refine bodyPost_ret (results_ct rfl _ _ gb171 41 #[.int .i64 (wrap64 ((IntKind.u64.wrap (Int.tdiv t172 t174)))), .int .i64 (wrap64 ((IntKind.u64.wrap (Int.tdiv t173 t174))))] (0, 0) _ rfl (by (with_reducible repeat (first | refine blk_drewN ?_ _ | refine blk_drew ?_ | refine blk_alloc ?_ _)); refine blk_put (cs := #[.int .i64 (wrap64 ((IntKind.u64.wrap (Int.tdiv t172 t174)))), .int .i64 0]) ?_ 1 _ rfl; (with_reducible repeat (first | refine blk_drewN ?_ _ | refine blk_drew ?_ | refine blk_alloc ?_ _)); refine blk_put (cs := #[.int .i64 0, .int .i64 0]) ?_ 0 _ rfl; (with_reducible repeat (first | refine blk_drewN ?_ _ | refine blk_drew ?_ | refine blk_alloc ?_ _)); refine blk_far ?_ NB171_175.out _; (with_reducible repeat (first | refine blk_drewN ?_ _ | refine blk_drew ?_ | refine blk_alloc ?_ _)); refine blk_far ?_ NB171_175.out _; (with_reducible repeat (first | refine blk_drewN ?_ _ | refine blk_drew ?_ | refine blk_alloc ?_ _)); exact BK171.out) Try.underlying41 rfl (by kernel_rfl)) rfl ?_
       exact ⟨by first | rfl | (simp [errW_none, errW_some] <;> rfl) | (simp [*, errW_none, errW_some] <;> rfl), be_ HB⟩

/-! ### payrollgen_Tape_Ratio: function 21 -/
def payrollgen_Tape_Ratio.f (k : Nat) (s0_0 : List Int) (s0_1 : Int) : Option (Int × Int × Int) := (payrollgen_Tape_Next.f s0_0 s0_1 41).bind fun bt177 => ((payrollgen_Tape_Next.f s0_0 bt177.2 12).bind fun bt179 => ((payrollgen_Tape_Next.f s0_0 bt179.2 8).bind fun bt181 => (if bt181.1 = 5 then ((payrollgen_Tape_Pick.f s0_0 bt181.2 (([1000000000000, (-1000000000000), 999999999999, 999999] : List Int))).bind fun bt186 => ((payrollgen_Tape_Pick.f s0_0 bt186.2 (([1, 1000000, 7, 100] : List Int))).bind fun bt191 => ((payrollref1_New.f k bt186.1 bt191.1).bind fun bt193 => (if bt193.2.2 = 0 then (some (bt193.1, bt193.2.1, bt191.2)) else (some (Int.tmod bt186.1 1000, 1, bt191.2)))))) else (if bt181.1 = 6 then ((payrollgen_Tape_Next.f s0_0 bt181.2 200001).bind fun bt197 => ((payrollref1_New.f k (wrap64 (bt197.1 - 100000)) 100).bind fun bt199 => (if bt199.2.2 = 0 then (some (bt199.1, bt199.2.1, bt197.2)) else (some (Int.tmod (wrap64 (bt197.1 - 100000)) 1000, 1, bt197.2))))) else (if bt181.1 = 7 then ((payrollgen_Tape_Next.f s0_0 bt181.2 1000).bind fun bt203 => ((payrollgen_Tape_Pick.f s0_0 bt203.2 (([1000000, 999983, 65536, 1000] : List Int))).bind fun bt208 => ((payrollref1_New.f k bt203.1 bt208.1).bind fun bt210 => (if bt210.2.2 = 0 then (some (bt210.1, bt210.2.1, bt208.2)) else (some (Int.tmod bt203.1 1000, 1, bt208.2)))))) else ((payrollref1_New.f k (wrap64 (bt177.1 - 20)) (wrap64 (1 + bt179.1))).bind fun bt214 => (if bt214.2.2 = 0 then (some (bt214.1, bt214.2.1, bt181.2)) else (some (Int.tmod (wrap64 (bt177.1 - 20)) 1000, 1, bt181.2)))))))))
theorem payrollgen_Tape_Ratio.mono : ∀ a0 a1 k, LeO (payrollgen_Tape_Ratio.f k a0 a1) (payrollgen_Tape_Ratio.f (k + 1) a0 a1) := by
 intro a0 a1 k
 unfold payrollgen_Tape_Ratio.f
 repeat' first
  | (with_reducible exact payrollref1_New.mono _ _ _)
  | (with_reducible exact LeO.refl _)
  | (with_reducible exact LeO.none _)
  | (with_reducible refine LeO.ite ?_ ?_)
  | (with_reducible refine LeO.bind ?_ (fun _ => ?_))
  | exact payrollref1_New.mono _ _ _
  | exact LeO.none _
  | refine LeO.ite ?_ ?_
  | refine LeO.bind ?_ (fun _ => ?_)
set_option maxHeartbeats 8000000 in
set_option maxRecDepth 100000 in
theorem payrollgen_Tape_Ratio.calls (k : Nat) (g : Nat) (s0_0 : List Int) (s0_1 : Int) (r1 : Int) (r2 : Int) (r3 : Int) (w0 w : World) (hI : IsS53 w0 w g s0_0 s0_1) (hB : Below w0.heap.size w0 w) (h : payrollgen_Tape_Ratio.f k s0_0 s0_1 = some (r1, r2, r3)) :
 Calls Try.prog 21 #[.pointer (some ⟨g, 0, none⟩)] w fun e w' => e = .returned (.agg #[.int .i64 r1, .int .i64 r2]) ∧ IsS53 w0 w' g s0_0 r3 ∧ Below w0.heap.size w0 w' ∧ KeepBut w w' g none := by
 have hu41 := Try.underlying41
 have HI0 := Aside0.mk hI
 have HK := Aside0.mk (KeepBut.refl w g none)
 have HL := Aside0.mk hB.size
 clear hI
 have HW0 := Aside0.mk hB.size
 have HB := Aside0.mk hB
 clear hB
 have H : ((payrollgen_Tape_Next.f s0_0 s0_1 41).bind fun bt177 => ((payrollgen_Tape_Next.f s0_0 bt177.2 12).bind fun bt179 => ((payrollgen_Tape_Next.f s0_0 bt179.2 8).bind fun bt181 => (if bt181.1 = 5 then ((payrollgen_Tape_Pick.f s0_0 bt181.2 (([1000000000000, (-1000000000000), 999999999999, 999999] : List Int))).bind fun bt186 => ((payrollgen_Tape_Pick.f s0_0 bt186.2 (([1, 1000000, 7, 100] : List Int))).bind fun bt191 => ((payrollref1_New.f k bt186.1 bt191.1).bind fun bt193 => (if bt193.2.2 = 0 then (some (bt193.1, bt193.2.1, bt191.2)) else (some (Int.tmod bt186.1 1000, 1, bt191.2)))))) else (if bt181.1 = 6 then ((payrollgen_Tape_Next.f s0_0 bt181.2 200001).bind fun bt197 => ((payrollref1_New.f k (wrap64 (bt197.1 - 100000)) 100).bind fun bt199 => (if bt199.2.2 = 0 then (some (bt199.1, bt199.2.1, bt197.2)) else (some (Int.tmod (wrap64 (bt197.1 - 100000)) 1000, 1, bt197.2))))) else (if bt181.1 = 7 then ((payrollgen_Tape_Next.f s0_0 bt181.2 1000).bind fun bt203 => ((payrollgen_Tape_Pick.f s0_0 bt203.2 (([1000000, 999983, 65536, 1000] : List Int))).bind fun bt208 => ((payrollref1_New.f k bt203.1 bt208.1).bind fun bt210 => (if bt210.2.2 = 0 then (some (bt210.1, bt210.2.1, bt208.2)) else (some (Int.tmod bt203.1 1000, 1, bt208.2)))))) else ((payrollref1_New.f k (wrap64 (bt177.1 - 20)) (wrap64 (1 + bt179.1))).bind fun bt214 => (if bt214.2.2 = 0 then (some (bt214.1, bt214.2.1, bt181.2)) else (some (Int.tmod (wrap64 (bt177.1 - 20)) 1000, 1, bt181.2)))))))))) = some (r1, r2, r3) := h
 clear h
 replace H := Option.bind_eq_some_iff.mp H
 obtain ⟨⟨t177, t178⟩, A20, H⟩ := H
 replace H : ((payrollgen_Tape_Next.f s0_0 t178 12).bind fun bt179 => ((payrollgen_Tape_Next.f s0_0 bt179.2 8).bind fun bt181 => (if bt181.1 = 5 then ((payrollgen_Tape_Pick.f s0_0 bt181.2 (([1000000000000, (-1000000000000), 999999999999, 999999] : List Int))).bind fun bt186 => ((payrollgen_Tape_Pick.f s0_0 bt186.2 (([1, 1000000, 7, 100] : List Int))).bind fun bt191 => ((payrollref1_New.f k bt186.1 bt191.1).bind fun bt193 => (if bt193.2.2 = 0 then (some (bt193.1, bt193.2.1, bt191.2)) else (some (Int.tmod bt186.1 1000, 1, bt191.2)))))) else (if bt181.1 = 6 then ((payrollgen_Tape_Next.f s0_0 bt181.2 200001).bind fun bt197 => ((payrollref1_New.f k (wrap64 (bt197.1 - 100000)) 100).bind fun bt199 => (if bt199.2.2 = 0 then (some (bt199.1, bt199.2.1, bt197.2)) else (some (Int.tmod (wrap64 (bt197.1 - 100000)) 1000, 1, bt197.2))))) else (if bt181.1 = 7 then ((payrollgen_Tape_Next.f s0_0 bt181.2 1000).bind fun bt203 => ((payrollgen_Tape_Pick.f s0_0 bt203.2 (([1000000, 999983, 65536, 1000] : List Int))).bind fun bt208 => ((payrollref1_New.f k bt203.1 bt208.1).bind fun bt210 => (if bt210.2.2 = 0 then (some (bt210.1, bt210.2.1, bt208.2)) else (some (Int.tmod bt203.1 1000, 1, bt208.2)))))) else ((payrollref1_New.f k (wrap64 (t177 - 20)) (wrap64 (1 + bt179.1))).bind fun bt214 => (if bt214.2.2 = 0 then (some (bt214.1, bt214.2.1, bt181.2)) else (some (Int.tmod (wrap64 (t177 - 20)) 1000, 1, bt181.2))))))))) = some (r1, r2, r3) := H
 have A2 := Aside0.mk A20
 clear A20
 replace H := Option.bind_eq_some_iff.mp H
 obtain ⟨⟨t179, t180⟩, A30, H⟩ := H
 replace H : ((payrollgen_Tape_Next.f s0_0 t180 8).bind fun bt181 => (if bt181.1 = 5 then ((payrollgen_Tape_Pick.f s0_0 bt181.2 (([1000000000000, (-1000000000000), 999999999999, 999999] : List Int))).bind fun bt186 => ((payrollgen_Tape_Pick.f s0_0 bt186.2 (([1, 1000000, 7, 100] : List Int))).bind fun bt191 => ((payrollref1_New.f k bt186.1 bt191.1).bind fun bt193 => (if bt193.2.2 = 0 then (some (bt193.1, bt193.2.1, bt191.2)) else (some (Int.tmod bt186.1 1000, 1, bt191.2)))))) else (if bt181.1 = 6 then ((payrollgen_Tape_Next.f s0_0 bt181.2 200001).bind fun bt197 => ((payrollref1_New.f k (wrap64 (bt197.1 - 100000)) 100).bind fun bt199 => (if bt199.2.2 = 0 then (some (bt199.1, bt199.2.1, bt197.2)) else (some (Int.tmod (wrap64 (bt197.1 - 100000)) 1000, 1, bt197.2))))) else (if bt181.1 = 7 then ((payrollgen_Tape_Next.f s0_0 bt181.2 1000).bind fun bt203 => ((payrollgen_Tape_Pick.f s0_0 bt203.2 (([1000000, 999983, 65536, 1000] : List Int))).bind fun bt208 => ((payrollref1_New.f k bt203.1 bt208.1).bind fun bt210 => (if bt210.2.2 = 0 then (some (bt210.1, bt210.2.1, bt208.2)) else (some (Int.tmod bt203.1 1000, 1, bt208.2)))))) else ((payrollref1_New.f k (wrap64 (t177 - 20)) (wrap64 (1 + t179))).bind fun bt214 => (if bt214.2.2 = 0 then (some (bt214.1, bt214.2.1, bt181.2)) else (some (Int.tmod (wrap64 (t177 - 20)) 1000, 1, bt181.2)))))))) = some (r1, r2, r3) := H
 have A3 := Aside0.mk A30
 clear A30
 replace H := Option.bind_eq_some_iff.mp H
 obtain ⟨⟨t181, t182⟩, A40, H⟩ := H
 replace H : (if t181 = 5 then ((payrollgen_Tape_Pick.f s0_0 t182 (([1000000000000, (-1000000000000), 999999999999, 999999] : List Int))).bind fun bt186 => ((payrollgen_Tape_Pick.f s0_0 bt186.2 (([1, 1000000, 7, 100] : List Int))).bind fun bt191 => ((payrollref1_New.f k bt186.1 bt191.1).bind fun bt193 => (if bt193.2.2 = 0 then (some (bt193.1, bt193.2.1, bt191.2)) else (some (Int.tmod bt186.1 1000, 1, bt191.2)))))) else (if t181 = 6 then ((payrollgen_Tape_Next.f s0_0 t182 200001).bind fun bt197 => ((payrollref1_New.f k (wrap64 (bt197.1 - 100000)) 100).bind fun bt199 => (if bt199.2.2 = 0 then (some (bt199.1, bt199.2.1, bt197.2)) else (some (Int.tmod (wrap64 (bt197.1 - 100000)) 1000, 1, bt197.2))))) else (if t181 = 7 then ((payrollgen_Tape_Next.f s0_0 t182 1000).bind fun bt203 => ((payrollgen_Tape_Pick.f s0_0 bt203.2 (([1000000, 999983, 65536, 1000] : List Int))).bind fun bt208 => ((payrollref1_New.f k bt203.1 bt208.1).bind fun bt210 => (if bt210.2.2 = 0 then (some (bt210.1, bt210.2.1, bt208.2)) else (some (Int.tmod bt203.1 1000, 1, bt208.2)))))) else ((payrollref1_New.f k (wrap64 (t177 - 20)) (wrap64 (1 + t179))).bind fun bt214 => (if bt214.2.2 = 0 then (some (bt214.1, bt214.2.1, t182)) else (some (Int.tmod (wrap64 (t177 - 20)) 1000, 1, t182))))))) = some (r1, r2, r3) := H
 have A4 := Aside0.mk A40
 clear A40
 by_cases c5 : t181 = 5
 ·
  rw [if_pos c5] at H
  have c5b0 : (t181 == 5) = true := beq_iff_eq.mpr c5
  have c5b1 : (t181 != 5) = false := bne_eq_false_iff_eq.mpr c5
  clear c5
  obtain ⟨y183, hy183⟩ : ∃ y_ : List Int, y_ = (([1000000000000, (-1000000000000), 999999999999, 999999] : List Int)) := ⟨_, rfl⟩
  replace H : ((payrollgen_Tape_Pick.f s0_0 t182 y183).bind fun bt186 => ((payrollgen_Tape_Pick.f s0_0 bt186.2 (([1, 1000000, 7, 100] : List Int))).bind fun bt191 => ((payrollref1_New.f k bt186.1 bt191.1).bind fun bt193 => (if bt193.2.2 = 0 then (some (bt193.1, bt193.2.1, bt191.2)) else (some (Int.tmod bt186.1 1000, 1, bt191.2)))))) = some (r1, r2, r3) := by first | (rw [hy183]; with_reducible exact H) | (have H2_ := (Option.bind_some _ _).symm.trans H; rw [hy183]; with_reducible exact H2_) | (have H2_ := (Option.bind_some _ _).symm.trans H; with_reducible exact H2_) | with_reducible exact H | (rw [hy183]; exact H) | exact H
  have Ny183 := Aside0.mk hy183
  clear hy183
  replace H := Option.bind_eq_some_iff.mp H
  obtain ⟨⟨t186, t187⟩, A60, H⟩ := H
  replace H : ((payrollgen_Tape_Pick.f s0_0 t187 (([1, 1000000, 7, 100] : List Int))).bind fun bt191 => ((payrollref1_New.f k t186 bt191.1).bind fun bt193 => (if bt193.2.2 = 0 then (some (bt193.1, bt193.2.1, bt191.2)) else (some (Int.tmod t186 1000, 1, bt191.2))))) = some (r1, r2, r3) := H
  have A6 := Aside0.mk A60
  clear A60
  obtain ⟨y188, hy188⟩ : ∃ y_ : List Int, y_ = (([1, 1000000, 7, 100] : List Int)) := ⟨_, rfl⟩
  replace H : ((payrollgen_Tape_Pick.f s0_0 t187 y188).bind fun bt191 => ((payrollref1_New.f k t186 bt191.1).bind fun bt193 => (if bt193.2.2 = 0 then (some (bt193.1, bt193.2.1, bt191.2)) else (some (Int.tmod t186 1000, 1, bt191.2))))) = some (r1, r2, r3) := by first | (rw [hy188]; with_reducible exact H) | (have H2_ := (Option.bind_some _ _).symm.trans H; rw [hy188]; with_reducible exact H2_) | (have H2_ := (Option.bind_some _ _).symm.trans H; with_reducible exact H2_) | with_reducible exact H | (rw [hy188]; exact H) | exact H
  have Ny188 := Aside0.mk hy188
  clear hy188
  replace H := Option.bind_eq_some_iff.mp H
  obtain ⟨⟨t191, t192⟩, A70, H⟩ := H
  replace H : ((payrollref1_New.f k t186 t191).bind fun bt193 => (if bt193.2.2 = 0 then (some (bt193.1, bt193.2.1, t192)) else (some (Int.tmod t186 1000, 1, t192)))) = some (r1, r2, r3) := H
  have A7 := Aside0.mk A70
  clear A70
  replace H := Option.bind_eq_some_iff.mp H
  obtain ⟨⟨t193, t194, t195⟩, A80, H⟩ := H
  replace H : (if t195 = 0 then (some (t193, t194, t192)) else (some (Int.tmod t186 1000, 1, t192))) = some (r1, r2, r3) := H
  have A8 := Aside0.mk A80
  clear A80
  by_cases c9 : t195 = 0
  ·
   rw [if_pos c9] at H
   have c9b0 : (t195 == 0) = true := beq_iff_eq.mpr c9
   have c9b1 : (t195 != 0) = false := bne_eq_false_iff_eq.mpr c9
   clear c9
   simp only [Option.some.injEq, Prod.mk.injEq] at H
   obtain ⟨rfl, rfl, rfl⟩ := H
   go_enter Try.func21, Try.ntmps21
   go_wp2_with (first | ((with_reducible refine gate_dst (N := 2) rfl ?_); refine bx_ (N := 2) (cs := #[.int .i64 0, .int .i64 0]) (t := 41) ?_; intro gb176 hg w10 hbox hb; have BK176 := Aside0.mk (hbox); have GW176 := ks_ HK hg; have GE176 := kw_ HW0 HK hg; have NB0_176 := IsS53.nl_ HI0 hg; have NB176_0 := IsS53.nr_ HI0 hg; replace HK := kb_ HK hb; replace HB := IsS53.ts_ HI0 HB hb; replace HI0 := IsS53.tb_ HI0 hb; clear hb hbox hg) | ((with_reducible refine gate_callee (f := 14) rfl ?_); refine gq_ (some 8) rfl rfl Try.func14 #[.pointer (some ⟨g, 0, none⟩), .int .i64 41] rfl ?_; (with_reducible refine (payrollgen_Tape_Next.calls g s0_0 s0_1 41 t177 t178 w0 _ ?side1 ?side2 A2.out).mono ?_); (case side1 => exact IsS53.aq_ HI0); (case side2 => exact IsS53.bs_ HI0 HB); rintro e w11 ⟨rfl, hi, hb, hk⟩; refine ⟨_, rfl, ?_⟩; replace BK176 := tk_ BK176 hk NB176_0; replace HK := kt_ HK hk; replace HB := Aside0.mk (hb); replace HI0 := Aside0.mk (hi); (try clear hb); (try clear hb2); (try clear hk); (try clear hi)) | ((with_reducible refine gate_callee (f := 14) rfl ?_); refine gq_ (some 11) rfl rfl Try.func14 #[.pointer (some ⟨g, 0, none⟩), .int .i64 12] rfl ?_; (with_reducible refine (payrollgen_Tape_Next.calls g s0_0 t178 12 t179 t180 w0 _ ?side1 ?side2 A3.out).mono ?_); (case side1 => exact IsS53.aq_ HI0); (case side2 => exact IsS53.bs_ HI0 HB); rintro e w12 ⟨rfl, hi, hb, hk⟩; refine ⟨_, rfl, ?_⟩; replace BK176 := tk_ BK176 hk NB176_0; replace HK := kt_ HK hk; replace HB := Aside0.mk (hb); replace HI0 := Aside0.mk (hi); (try clear hb); (try clear hb2); (try clear hk); (try clear hi)) | ((with_reducible refine gate_callee (f := 14) rfl ?_); refine gq_ (some 14) rfl rfl Try.func14 #[.pointer (some ⟨g, 0, none⟩), .int .i64 8] rfl ?_; (with_reducible refine (payrollgen_Tape_Next.calls g s0_0 t180 8 t181 t182 w0 _ ?side1 ?side2 A4.out).mono ?_); (case side1 => exact IsS53.aq_ HI0); (case side2 => exact IsS53.bs_ HI0 HB); rintro e w13 ⟨rfl, hi, hb, hk⟩; refine ⟨_, rfl, ?_⟩; replace BK176 := tk_ BK176 hk NB176_0; replace HK := kt_ HK hk; replace HB := Aside0.mk (hb); replace HI0 := Aside0.mk (hi); (try clear hb); (try clear hb2); (try clear hk); (try clear hi)) | ((with_reducible refine gate_dst (N := 18) rfl ?_); refine Kd.R_lit (Kd.int .i64) _ 3 ?hg (N := 18) ?hd (xs := ([1000000000000, (-1000000000000), 999999999999, 999999] : List Int)) (inner := [.int .i64 1000000000000, .int .i64 (-1000000000000), .int .i64 999999999999, .int .i64 999999]) (ok := fun _ => True) (okp := fun _ => True) ?hr ?hp (fun _ hk => hk) trivial (Below.refl _ _) (Nat.le_refl _) (by simp) ?_; (case hd => rfl); (case hg => rfl); (case hr => first | (go_simp; done) | (go_simp; rfl)); (case hp => exact (Reps.one (show Kd.M (Kd.int .i64) _ _ _ 1000000000000 [.int .i64 1000000000000] from rfl) (Reps.one (show Kd.M (Kd.int .i64) _ _ _ (-1000000000000) [.int .i64 (-1000000000000)] from rfl) (Reps.one (show Kd.M (Kd.int .i64) _ _ _ 999999999999 [.int .i64 999999999999] from rfl) (Reps.one (show Kd.M (Kd.int .i64) _ _ _ 999999 [.int .i64 999999] from rfl) (Reps.none _ _)))))); intro v184 w14 ho15 hb hg_ hnew_; clear hg_ hnew_; (first | rw [← Ny183.out] at ho15 | (simp only [Int.reduceToNat] at ho15; rw [← Ny183.out] at ho15)); have HO185 := Aside0.mk (Kd.R_lower ho15 (keep_size (w := w) (g := g) (row := none) (ke_ HK))); replace BK176 := tb_ BK176 hb; replace HK := kb_ HK hb; replace HB := IsS53.ts_ HI0 HB hb; replace HI0 := IsS53.tb_ HI0 hb; clear hb ho15; obtain ⟨Ao16, co16, eo16⟩ := Kd.R_slice HO185.out; subst eo16) | ((with_reducible refine gate_callee (f := 13) rfl ?_); refine gq_ (some 19) rfl rfl Try.func13 #[.pointer (some ⟨g, 0, none⟩), .slice Ao16 y183.length co16] rfl ?_; (with_reducible refine (payrollgen_Tape_Pick.calls g s0_0 t182 _ _ y183 t186 t187 w0 _ ?side1 ?side2 ?side3 ?side4 ?side5 A6.out).mono ?_); (case side1 => exact IsS53.aq_ HI0); (case side2 => exact IsS53.bs_ HI0 HB); (case side3 => repeat (first | exact (Kd.R_reads' HO185.out).2.2 | (with_reducible refine Kd.C_alloc ?_ _) | (with_reducible refine Kd.C_drewN ?_ _) | (with_reducible refine Kd.C_drew ?_))); (case side4 => exact (Kd.R_reads' HO185.out).2.1); (case side5 => exact far_slice (IsS53.own_ne HI0.out HO185.out (by decide))); rintro e w17 ⟨rfl, hi, hb, hk⟩; refine ⟨_, rfl, ?_⟩; replace BK176 := tk_ BK176 hk NB176_0; replace HO185 := Aside0.mk (Kd.R_mono (Kd.R_keep (IsS53.apart (show IsS53 w0 _ g s0_0 t182 from by repeat (first | (with_reducible first | exact HI0.out | apply IsS53.alloc | apply IsS53.drewN | apply IsS53.drew | apply IsS53.set_1 | refine IsS53.far ?_ NB0_176.out _) | exact HI0.out)) (re_ HO185) (by decide)) hk (fun _ h => h.2)) (fun _ h => h.1)); replace HK := kt_ HK hk; replace HB := Aside0.mk (hb); replace HI0 := Aside0.mk (hi); (try clear hb); (try clear hb2); (try clear hk); (try clear hi)) | ((with_reducible refine gate_dst (N := 21) rfl ?_); refine Kd.R_lit (Kd.int .i64) _ 3 ?hg (N := 21) ?hd (xs := ([1, 1000000, 7, 100] : List Int)) (inner := [.int .i64 1, .int .i64 1000000, .int .i64 7, .int .i64 100]) (ok := fun _ => True) (okp := fun _ => True) ?hr ?hp (fun _ hk => hk) trivial (Below.refl _ _) (Nat.le_refl _) (by simp) ?_; (case hd => rfl); (case hg => rfl); (case hr => first | (go_simp; done) | (go_simp; rfl)); (case hp => exact (Reps.one (show Kd.M (Kd.int .i64) _ _ _ 1 [.int .i64 1] from rfl) (Reps.one (show Kd.M (Kd.int .i64) _ _ _ 1000000 [.int .i64 1000000] from rfl) (Reps.one (show Kd.M (Kd.int .i64) _ _ _ 7 [.int .i64 7] from rfl) (Reps.one (show Kd.M (Kd.int .i64) _ _ _ 100 [.int .i64 100] from rfl) (Reps.none _ _)))))); intro v189 w18 ho19 hb hg_ hnew_; clear hg_ hnew_; (first | rw [← Ny188.out] at ho19 | (simp only [Int.reduceToNat] at ho19; rw [← Ny188.out] at ho19)); have HO190 := Aside0.mk (Kd.R_lower (Kd.R_new' ho19 (Kd.R_lt (re_ HO185))) (keep_size (w := w) (g := g) (row := none) (ke_ HK))); replace HO185 := Aside0.mk (Kd.R_elder' (re_ HO185) (Kd.R_base ho19) hb); replace BK176 := tb_ BK176 hb; replace HK := kb_ HK hb; replace HB := IsS53.ts_ HI0 HB hb; replace HI0 := IsS53.tb_ HI0 hb; clear hb ho19; obtain ⟨Ao20, co20, eo20⟩ := Kd.R_slice HO190.out; subst eo20) | ((with_reducible refine gate_callee (f := 13) rfl ?_); refine gq_ (some 22) rfl rfl Try.func13 #[.pointer (some ⟨g, 0, none⟩), .slice Ao20 y188.length co20] rfl ?_; (with_reducible refine (payrollgen_Tape_Pick.calls g s0_0 t187 _ _ y188 t191 t192 w0 _ ?side1 ?side2 ?side3 ?side4 ?side5 A7.out).mono ?_); (case side1 => exact IsS53.aq_ HI0); (case side2 => exact IsS53.bs_ HI0 HB); (case side3 => repeat (first | exact (Kd.R_reads' HO190.out).2.2 | (with_reducible refine Kd.C_alloc ?_ _) | (with_reducible refine Kd.C_drewN ?_ _) | (with_reducible refine Kd.C_drew ?_))); (case side4 => exact (Kd.R_reads' HO190.out).2.1); (case side5 => exact far_slice (IsS53.own_ne HI0.out HO190.out (by decide))); rintro e w21 ⟨rfl, hi, hb, hk⟩; refine ⟨_, rfl, ?_⟩; replace BK176 := tk_ BK176 hk NB176_0; replace HO185 := Aside0.mk (Kd.R_mono (Kd.R_keep (IsS53.apart (show IsS53 w0 _ g s0_0 t187 from by repeat (first | (with_reducible first | exact HI0.out | apply IsS53.alloc | apply IsS53.drewN | apply IsS53.drew | apply IsS53.set_1 | refine IsS53.far ?_ NB0_176.out _) | exact HI0.out)) (re_ HO185) (by decide)) hk (fun _ h => h.2)) (fun _ h => h.1)); replace HO190 := Aside0.mk (Kd.R_mono (Kd.R_keep (IsS53.apart (show IsS53 w0 _ g s0_0 t187 from by repeat (first | (with_reducible first | exact HI0.out | apply IsS53.alloc | apply IsS53.drewN | apply IsS53.drew | apply IsS53.set_1 | refine IsS53.far ?_ NB0_176.out _) | exact HI0.out)) (re_ HO190) (by decide)) hk (fun _ h => h.2)) (fun _ h => h.1)); replace HK := kt_ HK hk; replace HB := Aside0.mk (hb); replace HI0 := Aside0.mk (hi); (try clear hb); (try clear hb2); (try clear hk); (try clear hi)) | ((with_reducible refine gate_callee (f := 31) rfl ?_); refine gq_ (some 38) rfl rfl Try.func31 #[.int .i64 t186, .int .i64 t191] rfl ?_; (with_reducible refine (payrollref1_New.calls k t186 t191 t193 t194 t195 _ A8.out).mono ?_); rintro e w22 ⟨rfl, hb⟩; refine ⟨_, rfl, ?_⟩; replace HO185 := rb_ HO185 hb; replace HO190 := rb_ HO190 hb; replace BK176 := tb_ BK176 hb; replace HK := kb_ HK hb; replace HB := IsS53.ts_ HI0 HB hb; replace HI0 := IsS53.tb_ HI0 hb; (try clear hb); (try clear hb2); (try clear hk); (try clear hi)) | ((with_reducible refine gate_dst (N := 5) rfl ?_); refine bx_ (N := 5) (cs := #[.int .i64 0, .int .i64 0]) (t := 41) ?_; intro gb196 hg w23 hbox hb; have BK196 := Aside0.mk (hbox); have GW196 := ks_ HK hg; have GE196 := kw_ HW0 HK hg; have NB176_196 := nl_ BK176 hg; have NB196_176 := nr_ BK176 hg; have NB0_196 := IsS53.nl_ HI0 hg; have NB196_0 := IsS53.nr_ HI0 hg; replace HO185 := rb_ HO185 hb; replace HO190 := rb_ HO190 hb; replace BK176 := tb_ BK176 hb; replace HK := kb_ HK hb; replace HB := IsS53.ts_ HI0 HB hb; replace HI0 := IsS53.tb_ HI0 hb; clear hb hbox hg; have hnb24 := NB196_176.out; have hnc24 := NB176_196.out; have hnb25 := NB196_0.out; have hnc25 := NB0_196.out; have hcz26_0 : w23.cell? ⟨gb196, 0, none⟩ = some (.int .i64 0) := (blk_cell BK196.out 0).trans rfl; have hcz26_1 : w23.cell? ⟨gb196, 1, none⟩ = some (.int .i64 0) := (blk_cell BK196.out 1).trans rfl; have hfz26_0 := blk_frozen BK196.out 0; have hfz26_1 := blk_frozen BK196.out 1; have hnb27 := NB176_0.out; have hnc27 := NB0_176.out; have hcz28_0 : w23.cell? ⟨gb176, 0, none⟩ = some (.int .i64 0) := (blk_cell BK176.out 0).trans rfl; have hcz28_1 : w23.cell? ⟨gb176, 1, none⟩ = some (.int .i64 0) := (blk_cell BK176.out 1).trans rfl; have hfz28_0 := blk_frozen BK176.out 0; have hfz28_1 := blk_frozen BK176.out 1))
   refine bodyPost_ret (results_cell_row rfl _ _ gb176 41 #[.int .i64 t193, .int .i64 t194] (0, 0) _ rfl (by (with_reducible repeat (first | refine blk_drewN ?_ _ | refine blk_drew ?_ | refine blk_alloc ?_ _)); refine blk_put (cs := #[.int .i64 t193, .int .i64 0]) ?_ 1 _ rfl; (with_reducible repeat (first | refine blk_drewN ?_ _ | refine blk_drew ?_ | refine blk_alloc ?_ _)); refine blk_put (cs := #[.int .i64 0, .int .i64 0]) ?_ 0 _ rfl; (with_reducible repeat (first | refine blk_drewN ?_ _ | refine blk_drew ?_ | refine blk_alloc ?_ _)); refine blk_far ?_ NB176_196.out _; (with_reducible repeat (first | refine blk_drewN ?_ _ | refine blk_drew ?_ | refine blk_alloc ?_ _)); refine blk_far ?_ NB176_196.out _; (with_reducible repeat (first | refine blk_drewN ?_ _ | refine blk_drew ?_ | refine blk_alloc ?_ _)); exact BK176.out) Try.underlying41 rfl (by kernel_rfl)) rfl ?_
   exact ⟨by first | rfl | (simp [errW_none, errW_some] <;> rfl) | (simp [*, errW_none, errW_some] <;> rfl), IsS53.aq_ HI0, IsS53.bs_ HI0 HB, ke_ HK⟩
  ·
   rw [if_neg c9] at H
   have c9b0 : (t195 == 0) = false := beq_eq_false_iff_ne.mpr c9
   have c9b1 : (t195 != 0) = true := bne_iff_ne.mpr c9
   simp only [Option.some.injEq, Prod.mk.injEq] at H
   obtain ⟨rfl, rfl, rfl⟩ := H
   go_enter Try.func21, Try.ntmps21
   go_wp2_with (first | ((with_reducible refine gate_dst (N := 2) rfl ?_); refine bx_ (N := 2) (cs := #[.int .i64 0, .int .i64 0]) (t := 41) ?_; intro gb176 hg w29 hbox hb; have BK176 := Aside0.mk (hbox); have GW176 := ks_ HK hg; have GE176 := kw_ HW0 HK hg; have NB0_176 := IsS53.nl_ HI0 hg; have NB176_0 := IsS53.nr_ HI0 hg; replace HK := kb_ HK hb; replace HB := IsS53.ts_ HI0 HB hb; replace HI0 := IsS53.tb_ HI0 hb; clear hb hbox hg) | ((with_reducible refine gate_callee (f := 14) rfl ?_); refine gq_ (some 8) rfl rfl Try.func14 #[.pointer (some ⟨g, 0, none⟩), .int .i64 41] rfl ?_; (with_reducible refine (payrollgen_Tape_Next.calls g s0_0 s0_1 41 t177 t178 w0 _ ?side1 ?side2 A2.out).mono ?_); (case side1 => exact IsS53.aq_ HI0); (case side2 => exact IsS53.bs_ HI0 HB); rintro e w30 ⟨rfl, hi, hb, hk⟩; refine ⟨_, rfl, ?_⟩; replace BK176 := tk_ BK176 hk NB176_0; replace HK := kt_ HK hk; replace HB := Aside0.mk (hb); replace HI0 := Aside0.mk (hi); (try clear hb); (try clear hb2); (try clear hk); (try clear hi)) | ((with_reducible refine gate_callee (f := 14) rfl ?_); refine gq_ (some 11) rfl rfl Try.func14 #[.pointer (some ⟨g, 0, none⟩), .int .i64 12] rfl ?_; (with_reducible refine (payrollgen_Tape_Next.calls g s0_0 t178 12 t179 t180 w0 _ ?side1 ?side2 A3.out).mono ?_); (case side1 => exact IsS53.aq_ HI0); (case side2 => exact IsS53.bs_ HI0 HB); rintro e w31 ⟨rfl, hi, hb, hk⟩; refine ⟨_, rfl, ?_⟩; replace BK176 := tk_ BK176 hk NB176_0; replace HK := kt_ HK hk; replace HB := Aside0.mk (hb); replace HI0 := Aside0.mk (hi); (try clear hb); (try clear hb2); (try clear hk); (try clear hi)) | ((with_reducible refine gate_callee (f := 14) rfl ?_); refine gq_ (some 14) rfl rfl Try.func14 #[.pointer (some ⟨g, 0, none⟩), .int .i64 8] rfl ?_; (with_reducible refine (payrollgen_Tape_Next.calls g s0_0 t180 8 t181 t182 w0 _ ?side1 ?side2 A4.out).mono ?_); (case side1 => exact IsS53.aq_ HI0); (case side2 => exact IsS53.bs_ HI0 HB); rintro e w32 ⟨rfl, hi, hb, hk⟩; refine ⟨_, rfl, ?_⟩; replace BK176 := tk_ BK176 hk NB176_0; replace HK := kt_ HK hk; replace HB := Aside0.mk (hb); replace HI0 := Aside0.mk (hi); (try clear hb); (try clear hb2); (try clear hk); (try clear hi)) | ((with_reducible refine gate_dst (N := 18) rfl ?_); refine Kd.R_lit (Kd.int .i64) _ 3 ?hg (N := 18) ?hd (xs := ([1000000000000, (-1000000000000), 999999999999, 999999] : List Int)) (inner := [.int .i64 1000000000000, .int .i64 (-1000000000000), .int .i64 999999999999, .int .i64 999999]) (ok := fun _ => True) (okp := fun _ => True) ?hr ?hp (fun _ hk => hk) trivial (Below.refl _ _) (Nat.le_refl _) (by simp) ?_; (case hd => rfl); (case hg => rfl); (case hr => first | (go_simp; done) | (go_simp; rfl)); (case hp => exact (Reps.one (show Kd.M (Kd.int .i64) _ _ _ 1000000000000 [.int .i64 1000000000000] from rfl) (Reps.one (show Kd.M (Kd.int .i64) _ _ _ (-1000000000000) [.int .i64 (-1000000000000)] from rfl) (Reps.one (show Kd.M (Kd.int .i64) _ _ _ 999999999999 [.int .i64 999999999999] from rfl) (Reps.one (show Kd.M (Kd.int .i64) _ _ _ 999999 [.int .i64 999999] from rfl) (Reps.none _ _)))))); intro v184 w33 ho34 hb hg_ hnew_; clear hg_ hnew_; (first | rw [← Ny183.out] at ho34 | (simp only [Int.reduceToNat] at ho34; rw [← Ny183.out] at ho34)); have HO185 := Aside0.mk (Kd.R_lower ho34 (keep_size (w := w) (g := g) (row := none) (ke_ HK))); replace BK176 := tb_ BK176 hb; replace HK := kb_ HK hb; replace HB := IsS53.ts_ HI0 HB hb; replace HI0 := IsS53.tb_ HI0 hb; clear hb ho34; obtain ⟨Ao35, co35, eo35⟩ := Kd.R_slice HO185.out; subst eo35) | ((with_reducible refine gate_callee (f := 13) rfl ?_); refine gq_ (some 19) rfl rfl Try.func13 #[.pointer (some ⟨g, 0, none⟩), .slice Ao35 y183.length co35] rfl ?_; (with_reducible refine (payrollgen_Tape_Pick.calls g s0_0 t182 _ _ y183 t186 t187 w0 _ ?side1 ?side2 ?side3 ?side4 ?side5 A6.out).mono ?_); (case side1 => exact IsS53.aq_ HI0); (case side2 => exact IsS53.bs_ HI0 HB); (case side3 => repeat (first | exact (Kd.R_reads' HO185.out).2.2 | (with_reducible refine Kd.C_alloc ?_ _) | (with_reducible refine Kd.C_drewN ?_ _) | (with_reducible refine Kd.C_drew ?_))); (case side4 => exact (Kd.R_reads' HO185.out).2.1); (case side5 => exact far_slice (IsS53.own_ne HI0.out HO185.out (by decide))); rintro e w36 ⟨rfl, hi, hb, hk⟩; refine ⟨_, rfl, ?_⟩; replace BK176 := tk_ BK176 hk NB176_0; replace HO185 := Aside0.mk (Kd.R_mono (Kd.R_keep (IsS53.apart (show IsS53 w0 _ g s0_0 t182 from by repeat (first | (with_reducible first | exact HI0.out | apply IsS53.alloc | apply IsS53.drewN | apply IsS53.drew | apply IsS53.set_1 | refine IsS53.far ?_ NB0_176.out _) | exact HI0.out)) (re_ HO185) (by decide)) hk (fun _ h => h.2)) (fun _ h => h.1)); replace HK := kt_ HK hk; replace HB := Aside0.mk (hb); replace HI0 := Aside0.mk (hi); (try clear hb); (try clear hb2); (try clear hk); (try clear hi)) | ((with_reducible refine gate_dst (N := 21) rfl ?_); refine Kd.R_lit (Kd.int .i64) _ 3 ?hg (N := 21) ?hd (xs := ([1, 1000000, 7, 100] : List Int)) (inner := [.int .i64 1, .int .i64 1000000, .int .i64 7, .int .i64 100]) (ok := fun _ => True) (okp := fun _ => True) ?hr ?hp (fun _ hk => hk) trivial (Below.refl _ _) (Nat.le_refl _) (by simp) ?_; (case hd => rfl); (case hg => rfl); (case hr => first | (go_simp; done) | (go_simp; rfl)); (case hp => exact (Reps.one (show Kd.M (Kd.int .i64) _ _ _ 1 [.int .i64 1] from rfl) (Reps.one (show Kd.M (Kd.int .i64) _ _ _ 1000000 [.int .i64 1000000] from rfl) (Reps.one (show Kd.M (Kd.int .i64) _ _ _ 7 [.int .i64 7] from rfl) (Reps.one (show Kd.M (Kd.int .i64) _ _ _ 100 [.int .i64 100] from rfl) (Reps.none _ _)))))); intro v189 w37 ho38 hb hg_ hnew_; clear hg_ hnew_; (first | rw [← Ny188.out] at ho38 | (simp only [Int.reduceToNat] at ho38; rw [← Ny188.out] at ho38)); have HO190 := Aside0.mk (Kd.R_lower (Kd.R_new' ho38 (Kd.R_lt (re_ HO185))) (keep_size (w := w) (g := g) (row := none) (ke_ HK))); replace HO185 := Aside0.mk (Kd.R_elder' (re_ HO185) (Kd.R_base ho38) hb); replace BK176 := tb_ BK176 hb; replace HK := kb_ HK hb; replace HB := IsS53.ts_ HI0 HB hb; replace HI0 := IsS53.tb_ HI0 hb; clear hb ho38; obtain ⟨Ao39, co39, eo39⟩ := Kd.R_slice HO190.out; subst eo39) | ((with_reducible refine gate_callee (f := 13) rfl ?_); refine gq_ (some 22) rfl rfl Try.func13 #[.pointer (some ⟨g, 0, none⟩), .slice Ao39 y188.length co39] rfl ?_; (with_reducible refine (payrollgen_Tape_Pick.calls g s0_0 t187 _ _ y188 t191 t192 w0 _ ?side1 ?side2 ?side3 ?side4 ?side5 A7.out).mono ?_); (case side1 => exact IsS53.aq_ HI0); (case side2 => exact IsS53.bs_ HI0 HB); (case side3 => repeat (first | exact (Kd.R_reads' HO190.out).2.2 | (with_reducible refine Kd.C_alloc ?_ _) | (with_reducible refine Kd.C_drewN ?_ _) | (with_reducible refine Kd.C_drew ?_))); (case side4 => exact (Kd.R_reads' HO190.out).2.1); (case side5 => exact far_slice (IsS53.own_ne HI0.out HO190.out (by decide))); rintro e w40 ⟨rfl, hi, hb, hk⟩; refine ⟨_, rfl, ?_⟩; replace BK176 := tk_ BK176 hk NB176_0; replace HO185 := Aside0.mk (Kd.R_mono (Kd.R_keep (IsS53.apart (show IsS53 w0 _ g s0_0 t187 from by repeat (first | (with_reducible first | exact HI0.out | apply IsS53.alloc | apply IsS53.drewN | apply IsS53.drew | apply IsS53.set_1 | refine IsS53.far ?_ NB0_176.out _) | exact HI0.out)) (re_ HO185) (by decide)) hk (fun _ h => h.2)) (fun _ h => h.1)); replace HO190 := Aside0.mk (Kd.R_mono (Kd.R_keep (IsS53.apart (show IsS53 w0 _ g s0_0 t187 from by repeat (first | (with_reducible first | exact HI0.out | apply IsS53.alloc | apply IsS53.drewN | apply IsS53.drew | apply IsS53.set_1 | refine IsS53.far ?_ NB0_176.out _) | exact HI0.out)) (re_ HO190) (by decide)) hk (fun _ h => h.2)) (fun _ h => h.1)); replace HK := kt_ HK hk; replace HB := Aside0.mk (hb); replace HI0 := Aside0.mk (hi); (try clear hb); (try clear hb2); (try clear hk); (try clear hi)) | ((with_reducible refine gate_callee (f := 31) rfl ?_); refine gq_ (some 38) rfl rfl Try.func31 #[.int .i64 t186, .int .i64 t191] rfl ?_; (with_reducible refine (payrollref1_New.calls k t186 t191 t193 t194 t195 _ A8.out).mono ?_); rintro e w41 ⟨rfl, hb⟩; refine ⟨_, rfl, ?_⟩; replace HO185 := rb_ HO185 hb; replace HO190 := rb_ HO190 hb; replace BK176 := tb_ BK176 hb; replace HK := kb_ HK hb; replace HB := IsS53.ts_ HI0 HB hb; replace HI0 := IsS53.tb_ HI0 hb; (try clear hb); (try clear hb2); (try clear hk); (try clear hi)) | ((with_reducible refine gate_dst (N := 5) rfl ?_); refine bx_ (N := 5) (cs := #[.int .i64 0, .int .i64 0]) (t := 41) ?_; intro gb196 hg w42 hbox hb; have BK196 := Aside0.mk (hbox); have GW196 := ks_ HK hg; have GE196 := kw_ HW0 HK hg; have NB176_196 := nl_ BK176 hg; have NB196_176 := nr_ BK176 hg; have NB0_196 := IsS53.nl_ HI0 hg; have NB196_0 := IsS53.nr_ HI0 hg; replace HO185 := rb_ HO185 hb; replace HO190 := rb_ HO190 hb; replace BK176 := tb_ BK176 hb; replace HK := kb_ HK hb; replace HB := IsS53.ts_ HI0 HB hb; replace HI0 := IsS53.tb_ HI0 hb; clear hb hbox hg; have hnb43 := NB196_176.out; have hnc43 := NB176_196.out; have hnb44 := NB196_0.out; have hnc44 := NB0_196.out; have hcz45_0 : w42.cell? ⟨gb196, 0, none⟩ = some (.int .i64 0) := (blk_cell BK196.out 0).trans rfl; have hcz45_1 : w42.cell? ⟨gb196, 1, none⟩ = some (.int .i64 0) := (blk_cell BK196.out 1).trans rfl; have hfz45_0 := blk_frozen BK196.out 0; have hfz45_1 := blk_frozen BK196.out 1; have hnb46 := NB176_0.out; have hnc46 := NB0_176.out; have hcz47_0 : w42.cell? ⟨gb176, 0, none⟩ = some (.int .i64 0) := (blk_cell BK176.out 0).trans rfl; have hcz47_1 : w42.cell? ⟨gb176, 1, none⟩ = some (.int .i64 0) := (blk_cell BK176.out 1).trans rfl; have hfz47_0 := blk_frozen BK176.out 0; have hfz47_1 := blk_frozen BK176.out 1))
   refine bodyPost_ret (results_cell_row rfl _ _ gb176 41 #[.int .i64 (Int.tmod t186 1000), .int .i64 1] (0, 0) _ rfl (by (with_reducible repeat (first | refine blk_drewN ?_ _ | refine blk_drew ?_ | refine blk_alloc ?_ _)); refine blk_put (cs := #[.int .i64 (Int.tmod t186 1000), .int .i64 0]) ?_ 1 _ rfl; (with_reducible repeat (first | refine blk_drewN ?_ _ | refine blk_drew ?_ | refine blk_alloc ?_ _)); refine blk_put (cs := #[.int .i64 0, .int .i64 0]) ?_ 0 _ rfl; (with_reducible repeat (first | refine blk_drewN ?_ _ | refine blk_drew ?_ | refine blk_alloc ?_ _)); refine blk_far ?_ NB176_196.out _; (with_reducible repeat (first | refine blk_drewN ?_ _ | refine blk_drew ?_ | refine blk_alloc ?_ _)); refine blk_far ?_ NB176_196.out _; (with_reducible repeat (first | refine blk_drewN ?_ _ | refine blk_drew ?_ | refine blk_alloc ?_ _)); exact BK176.out) Try.underlying41 rfl (by kernel_rfl)) rfl ?_
   exact ⟨by first | rfl | (simp [errW_none, errW_some] <;> rfl) | (simp [*, errW_none, errW_some] <;> rfl), IsS53.aq_ HI0, IsS53.bs_ HI0 HB, ke_ HK⟩
 ·
  rw [if_neg c5] at H
  have c5b0 : (t181 == 5) = false := beq_eq_false_iff_ne.mpr c5
  have c5b1 : (t181 != 5) = true := bne_iff_ne.mpr c5
  by_cases c48 : t181 = 6
  ·
   rw [if_pos c48] at H
   have c48b0 : (t181 == 6) = true := beq_iff_eq.mpr c48
   have c48b1 : (t181 != 6) = false := bne_eq_false_iff_eq.mpr c48
   clear c48
   replace H := Option.bind_eq_some_iff.mp H
   obtain ⟨⟨t197, t198⟩, A490, H⟩ := H
   replace H : ((payrollref1_New.f k (wrap64 (t197 - 100000)) 100).bind fun bt199 => (if bt199.2.2 = 0 then (some (bt199.1, bt199.2.1, t198)) else (some (Int.tmod (wrap64 (t197 - 100000)) 1000, 1, t198)))) = some (r1, r2, r3) := H
   have A49 := Aside0.mk A490
   clear A490
   replace H := Option.bind_eq_some_iff.mp H
   obtain ⟨⟨t199, t200, t201⟩, A500, H⟩ := H
   replace H : (if t201 = 0 then (some (t199, t200, t198)) else (some (Int.tmod (wrap64 (t197 - 100000)) 1000, 1, t198))) = some (r1, r2, r3) := H
   have A50 := Aside0.mk A500
   clear A500
   by_cases c51 : t201 = 0
   ·
    rw [if_pos c51] at H
    have c51b0 : (t201 == 0) = true := beq_iff_eq.mpr c51
    have c51b1 : (t201 != 0) = false := bne_eq_false_iff_eq.mpr c51
    clear c51
    simp only [Option.some.injEq, Prod.mk.injEq] at H
    obtain ⟨rfl, rfl, rfl⟩ := H
    go_enter Try.func21, Try.ntmps21
    go_wp2_with (first | ((with_reducible refine gate_dst (N := 2) rfl ?_); refine bx_ (N := 2) (cs := #[.int .i64 0, .int .i64 0]) (t := 41) ?_; intro gb176 hg w52 hbox hb; have BK176 := Aside0.mk (hbox); have GW176 := ks_ HK hg; have GE176 := kw_ HW0 HK hg; have NB0_176 := IsS53.nl_ HI0 hg; have NB176_0 := IsS53.nr_ HI0 hg; replace HK := kb_ HK hb; replace HB := IsS53.ts_ HI0 HB hb; replace HI0 := IsS53.tb_ HI0 hb; clear hb hbox hg) | ((with_reducible refine gate_callee (f := 14) rfl ?_); refine gq_ (some 8) rfl rfl Try.func14 #[.pointer (some ⟨g, 0, none⟩), .int .i64 41] rfl ?_; (with_reducible refine (payrollgen_Tape_Next.calls g s0_0 s0_1 41 t177 t178 w0 _ ?side1 ?side2 A2.out).mono ?_); (case side1 => exact IsS53.aq_ HI0); (case side2 => exact IsS53.bs_ HI0 HB); rintro e w53 ⟨rfl, hi, hb, hk⟩; refine ⟨_, rfl, ?_⟩; replace BK176 := tk_ BK176 hk NB176_0; replace HK := kt_ HK hk; replace HB := Aside0.mk (hb); replace HI0 := Aside0.mk (hi); (try clear hb); (try clear hb2); (try clear hk); (try clear hi)) | ((with_reducible refine gate_callee (f := 14) rfl ?_); refine gq_ (some 11) rfl rfl Try.func14 #[.pointer (some ⟨g, 0, none⟩), .int .i64 12] rfl ?_; (with_reducible refine (payrollgen_Tape_Next.calls g s0_0 t178 12 t179 t180 w0 _ ?side1 ?side2 A3.out).mono ?_); (case side1 => exact IsS53.aq_ HI0); (case side2 => exact IsS53.bs_ HI0 HB); rintro e w54 ⟨rfl, hi, hb, hk⟩; refine ⟨_, rfl, ?_⟩; replace BK176 := tk_ BK176 hk NB176_0; replace HK := kt_ HK hk; replace HB := Aside0.mk (hb); replace HI0 := Aside0.mk (hi); (try clear hb); (try clear hb2); (try clear hk); (try clear hi)) | ((with_reducible refine gate_callee (f := 14) rfl ?_); refine gq_ (some 14) rfl rfl Try.func14 #[.pointer (some ⟨g, 0, none⟩), .int .i64 8] rfl ?_; (with_reducible refine (payrollgen_Tape_Next.calls g s0_0 t180 8 t181 t182 w0 _ ?side1 ?side2 A4.out).mono ?_); (case side1 => exact IsS53.aq_ HI0); (case side2 => exact IsS53.bs_ HI0 HB); rintro e w55 ⟨rfl, hi, hb, hk⟩; refine ⟨_, rfl, ?_⟩; replace BK176 := tk_ BK176 hk NB176_0; replace HK := kt_ HK hk; replace HB := Aside0.mk (hb); replace HI0 := Aside0.mk (hi); (try clear hb); (try clear hb2); (try clear hk); (try clear hi)) | ((with_reducible refine gate_callee (f := 14) rfl ?_); refine gq_ (some 26) rfl rfl Try.func14 #[.pointer (some ⟨g, 0, none⟩), .int .i64 200001] rfl ?_; (with_reducible refine (payrollgen_Tape_Next.calls g s0_0 t182 200001 t197 t198 w0 _ ?side1 ?side2 A49.out).mono ?_); (case side1 => exact IsS53.aq_ HI0); (case side2 => exact IsS53.bs_ HI0 HB); rintro e w56 ⟨rfl, hi, hb, hk⟩; refine ⟨_, rfl, ?_⟩; replace BK176 := tk_ BK176 hk NB176_0; replace HK := kt_ HK hk; replace HB := Aside0.mk (hb); replace HI0 := Aside0.mk (hi); (try clear hb); (try clear hb2); (try clear hk); (try clear hi)) | ((with_reducible refine gate_callee (f := 31) rfl ?_); refine gq_ (some 38) rfl rfl Try.func31 #[.int .i64 (wrap64 (t197 - 100000)), .int .i64 100] rfl ?_; (with_reducible refine (payrollref1_New.calls k (wrap64 (t197 - 100000)) 100 t199 t200 t201 _ A50.out).mono ?_); rintro e w57 ⟨rfl, hb⟩; refine ⟨_, rfl, ?_⟩; replace BK176 := tb_ BK176 hb; replace HK := kb_ HK hb; replace HB := IsS53.ts_ HI0 HB hb; replace HI0 := IsS53.tb_ HI0 hb; (try clear hb); (try clear hb2); (try clear hk); (try clear hi)) | ((with_reducible refine gate_dst (N := 5) rfl ?_); refine bx_ (N := 5) (cs := #[.int .i64 0, .int .i64 0]) (t := 41) ?_; intro gb202 hg w58 hbox hb; have BK202 := Aside0.mk (hbox); have GW202 := ks_ HK hg; have GE202 := kw_ HW0 HK hg; have NB176_202 := nl_ BK176 hg; have NB202_176 := nr_ BK176 hg; have NB0_202 := IsS53.nl_ HI0 hg; have NB202_0 := IsS53.nr_ HI0 hg; replace BK176 := tb_ BK176 hb; replace HK := kb_ HK hb; replace HB := IsS53.ts_ HI0 HB hb; replace HI0 := IsS53.tb_ HI0 hb; clear hb hbox hg; have hnb59 := NB202_176.out; have hnc59 := NB176_202.out; have hnb60 := NB202_0.out; have hnc60 := NB0_202.out; have hcz61_0 : w58.cell? ⟨gb202, 0, none⟩ = some (.int .i64 0) := (blk_cell BK202.out 0).trans rfl; have hcz61_1 : w58.cell? ⟨gb202, 1, none⟩ = some (.int .i64 0) := (blk_cell BK202.out 1).trans rfl; have hfz61_0 := blk_frozen BK202.out 0; have hfz61_1 := blk_frozen BK202.out 1; have hnb62 := NB176_0.out; have hnc62 := NB0_176.out; have hcz63_0 : w58.cell? ⟨gb176, 0, none⟩ = some (.int .i64 0) := (blk_cell BK176.out 0).trans rfl; have hcz63_1 : w58.cell? ⟨gb176, 1, none⟩ = some (.int .i64 0) := (blk_cell BK176.out 1).trans rfl; have hfz63_0 := blk_frozen BK176.out 0; have hfz63_1 := blk_frozen BK176.out 1))
    refine bodyPost_ret (results_cell_row rfl _ _ gb176 41 #[.int .i64 t199, .int .i64 t200] (0, 0) _ rfl (by (with_reducible repeat (first | refine blk_drewN ?_ _ | refine blk_drew ?_ | refine blk_alloc ?_ _)); refine blk_put (cs := #[.int .i64 t199, .int .i64 0]) ?_ 1 _ rfl; (with_reducible repeat (first | refine blk_drewN ?_ _ | refine blk_drew ?_ | refine blk_alloc ?_ _)); refine blk_put (cs := #[.int .i64 0, .int .i64 0]) ?_ 0 _ rfl; (with_reducible repeat (first | refine blk_drewN ?_ _ | refine blk_drew ?_ | refine blk_alloc ?_ _)); refine blk_far ?_ NB176_202.out _; (with_reducible repeat (first | refine blk_drewN ?_ _ | refine blk_drew ?_ | refine blk_alloc ?_ _)); refine blk_far ?_ NB176_202.out _; (with_reducible repeat (first | refine blk_drewN ?_ _ | refine blk_drew ?_ | refine blk_alloc ?_ _)); exact BK176.out) Try.underlying41 rfl (by kernel_rfl)) rfl ?_
    exact ⟨by first | rfl | (simp [errW_none, errW_some] <;> rfl) | (simp [*, errW_none, errW_some] <;> rfl), IsS53.aq_ HI0, IsS53.bs_ HI0 HB, ke_ HK⟩
   ·
    rw [if_neg c51] at H
    have c51b0 : (t201 == 0) = false := beq_eq_false_iff_ne.mpr c51
    have c51b1 : (t201 != 0) = true := bne_iff_ne.mpr c51
    simp only [Option.some.injEq, Prod.mk.injEq] at H
    obtain ⟨rfl, rfl, rfl⟩ := H
    go_enter Try.func21, Try.ntmps21
    go_wp2_with (first | ((with_reducible refine gate_dst (N := 2) rfl ?_); refine bx_ (N := 2) (cs := #[.int .i64 0, .int .i64 0]) (t := 41) ?_; intro gb176 hg w64 hbox hb; have BK176 := Aside0.mk (hbox); have GW176 := ks_ HK hg; have GE176 := kw_ HW0 HK hg; have NB0_176 := IsS53.nl_ HI0 hg; have NB176_0 := IsS53.nr_ HI0 hg; replace HK := kb_ HK hb; replace HB := IsS53.ts_ HI0 HB hb; replace HI0 := IsS53.tb_ HI0 hb; clear hb hbox hg) | ((with_reducible refine gate_callee (f := 14) rfl ?_); refine gq_ (some 8) rfl rfl Try.func14 #[.pointer (some ⟨g, 0, none⟩), .int .i64 41] rfl ?_; (with_reducible refine (payrollgen_Tape_Next.calls g s0_0 s0_1 41 t177 t178 w0 _ ?side1 ?side2 A2.out).mono ?_); (case side1 => exact IsS53.aq_ HI0); (case side2 => exact IsS53.bs_ HI0 HB); rintro e w65 ⟨rfl, hi, hb, hk⟩; refine ⟨_, rfl, ?_⟩; replace BK176 := tk_ BK176 hk NB176_0; replace HK := kt_ HK hk; replace HB := Aside0.mk (hb); replace HI0 := Aside0.mk (hi); (try clear hb); (try clear hb2); (try clear hk); (try clear hi)) | ((with_reducible refine gate_callee (f := 14) rfl ?_); refine gq_ (some 11) rfl rfl Try.func14 #[.pointer (some ⟨g, 0, none⟩), .int .i64 12] rfl ?_; (with_reducible refine (payrollgen_Tape_Next.calls g s0_0 t178 12 t179 t180 w0 _ ?side1 ?side2 A3.out).mono ?_); (case side1 => exact IsS53.aq_ HI0); (case side2 => exact IsS53.bs_ HI0 HB); rintro e w66 ⟨rfl, hi, hb, hk⟩; refine ⟨_, rfl, ?_⟩; replace BK176 := tk_ BK176 hk NB176_0; replace HK := kt_ HK hk; replace HB := Aside0.mk (hb); replace HI0 := Aside0.mk (hi); (try clear hb); (try clear hb2); (try clear hk); (try clear hi)) | ((with_reducible refine gate_callee (f := 14) rfl ?_); refine gq_ (some 14) rfl rfl Try.func14 #[.pointer (some ⟨g, 0, none⟩), .int .i64 8] rfl ?_; (with_reducible refine (payrollgen_Tape_Next.calls g s0_0 t180 8 t181 t182 w0 _ ?side1 ?side2 A4.out).mono ?_); (case side1 => exact IsS53.aq_ HI0); (case side2 => exact IsS53.bs_ HI0 HB); rintro e w67 ⟨rfl, hi, hb, hk⟩; refine ⟨_, rfl, ?_⟩; replace BK176 := tk_ BK176 hk NB176_0; replace HK := kt_ HK hk; replace HB := Aside0.mk (hb); replace HI0 := Aside0.mk (hi); (try clear hb); (try clear hb2); (try clear hk); (try clear hi)) | ((with_reducible refine gate_callee (f := 14) rfl ?_); refine gq_ (some 26) rfl rfl Try.func14 #[.pointer (some ⟨g, 0, none⟩), .int .i64 200001] rfl ?_; (with_reducible refine (payrollgen_Tape_Next.calls g s0_0 t182 200001 t197 t198 w0 _ ?side1 ?side2 A49.out).mono ?_); (case side1 => exact IsS53.aq_ HI0); (case side2 => exact IsS53.bs_ HI0 HB); rintro e w68 ⟨rfl, hi, hb, hk⟩; refine ⟨_, rfl, ?_⟩; replace BK176 := tk_ BK176 hk NB176_0; replace HK := kt_ HK hk; replace HB := Aside0.mk (hb); replace HI0 := Aside0.mk (hi); (try clear hb); (try clear hb2); (try clear hk); (try clear hi)) | ((with_reducible refine gate_callee (f := 31) rfl ?_); refine gq_ (some 38) rfl rfl Try.func31 #[.int .i64 (wrap64 (t197 - 100000)), .int .i64 100] rfl ?_; (with_reducible refine (payrollref1_New.calls k (wrap64 (t197 - 100000)) 100 t199 t200 t201 _ A50.out).mono ?_); rintro e w69 ⟨rfl, hb⟩; refine ⟨_, rfl, ?_⟩; replace BK176 := tb_ BK176 hb; replace HK := kb_ HK hb; replace HB := IsS53.ts_ HI0 HB hb; replace HI0 := IsS53.tb_ HI0 hb; (try clear hb); (try clear hb2); (try clear hk); (try clear hi)) | ((with_reducible refine gate_dst (N := 5) rfl ?_); refine bx_ (N := 5) (cs := #[.int .i64 0, .int .i64 0]) (t := 41) ?_; intro gb202 hg w70 hbox hb; have BK202 := Aside0.mk (hbox); have GW202 := ks_ HK hg; have GE202 := kw_ HW0 HK hg; have NB176_202 := nl_ BK176 hg; have NB202_176 := nr_ BK176 hg; have NB0_202 := IsS53.nl_ HI0 hg; have NB202_0 := IsS53.nr_ HI0 hg; replace BK176 := tb_ BK176 hb; replace HK := kb_ HK hb; replace HB := IsS53.ts_ HI0 HB hb; replace HI0 := IsS53.tb_ HI0 hb; clear hb hbox hg; have hnb71 := NB202_176.out; have hnc71 := NB176_202.out; have hnb72 := NB202_0.out; have hnc72 := NB0_202.out; have hcz73_0 : w70.cell? ⟨gb202, 0, none⟩ = some (.int .i64 0) := (blk_cell BK202.out 0).trans rfl; have hcz73_1 : w70.cell? ⟨gb202, 1, none⟩ = some (.int .i64 0) := (blk_cell BK202.out 1).trans rfl; have hfz73_0 := blk_frozen BK202.out 0; have hfz73_1 := blk_frozen BK202.out 1; have hnb74 := NB176_0.out; have hnc74 := NB0_176.out; have hcz75_0 : w70.cell? ⟨gb176, 0, none⟩ = some (.int .i64 0) := (blk_cell BK176.out 0).trans rfl; have hcz75_1 : w70.cell? ⟨gb176, 1, none⟩ = some (.int .i64 0) := (blk_cell BK176.out 1).trans rfl; have hfz75_0 := blk_frozen BK176.out 0; have hfz75_1 := blk_frozen BK176.out 1))
    refine bodyPost_ret (results_cell_row rfl _ _ gb176 41 #[.int .i64 (Int.tmod (wrap64 (t197 - 100000)) 1000), .int .i64 1] (0, 0) _ rfl (by (with_reducible repeat (first | refine blk_drewN ?_ _ | refine blk_drew ?_ | refine blk_alloc ?_ _)); refine blk_put (cs := #[.int .i64 (Int.tmod (wrap64 (t197 - 100000)) 1000), .int .i64 0]) ?_ 1 _ rfl; (with_reducible repeat (first | refine blk_drewN ?_ _ | refine blk_drew ?_ | refine blk_alloc ?_ _)); refine blk_put (cs := #[.int .i64 0, .int .i64 0]) ?_ 0 _ rfl; (with_reducible repeat (first | refine blk_drewN ?_ _ | refine blk_drew ?_ | refine blk_alloc ?_ _)); refine blk_far ?_ NB176_202.out _; (with_reducible repeat (first | refine blk_drewN ?_ _ | refine blk_drew ?_ | refine blk_alloc ?_ _)); refine blk_far ?_ NB176_202.out _; (with_reducible repeat (first | refine blk_drewN ?_ _ | refine blk_drew ?_ | refine blk_alloc ?_ _)); exact BK176.out) Try.underlying41 rfl (by kernel_rfl)) rfl ?_
    exact ⟨by first | rfl | (simp [errW_none, errW_some] <;> rfl) | (simp [*, errW_none, errW_some] <;> rfl), IsS53.aq_ HI0, IsS53.bs_ HI0 HB, ke_ HK⟩
  ·
   rw [if_neg c48] at H
   have c48b0 : (t181 == 6) = false := beq_eq_false_iff_ne.mpr c48
   have c48b1 : (t181 != 6) = true := bne_iff_ne.mpr c48
   by_cases c76 : t181 = 7
   ·
    rw [if_pos c76] at H
    have c76b0 : (t181 == 7) = true := beq_iff_eq.mpr c76
    have c76b1 : (t181 != 7) = false := bne_eq_false_iff_eq.mpr c76
    clear c76
    replace H := Option.bind_eq_some_iff.mp H
    obtain ⟨⟨t203, t204⟩, A770, H⟩ := H
    replace H : ((payrollgen_Tape_Pick.f s0_0 t204 (([1000000, 999983, 65536, 1000] : List Int))).bind fun bt208 => ((payrollref1_New.f k t203 bt208.1).bind fun bt210 => (if bt210.2.2 = 0 then (some (bt210.1, bt210.2.1, bt208.2)) else (some (Int.tmod t203 1000, 1, bt208.2))))) = some (r1, r2, r3) := H
    have A77 := Aside0.mk A770
    clear A770
    obtain ⟨y205, hy205⟩ : ∃ y_ : List Int, y_ = (([1000000, 999983, 65536, 1000] : List Int)) := ⟨_, rfl⟩
    replace H : ((payrollgen_Tape_Pick.f s0_0 t204 y205).bind fun bt208 => ((payrollref1_New.f k t203 bt208.1).bind fun bt210 => (if bt210.2.2 = 0 then (some (bt210.1, bt210.2.1, bt208.2)) else (some (Int.tmod t203 1000, 1, bt208.2))))) = some (r1, r2, r3) := by first | (rw [hy205]; with_reducible exact H) | (have H2_ := (Option.bind_some _ _).symm.trans H; rw [hy205]; with_reducible exact H2_) | (have H2_ := (Option.bind_some _ _).symm.trans H; with_reducible exact H2_) | with_reducible exact H | (rw [hy205]; exact H) | exact H
    have Ny205 := Aside0.mk hy205
    clear hy205
    replace H := Option.bind_eq_some_iff.mp H
    obtain ⟨⟨t208, t209⟩, A780, H⟩ := H
    replace H : ((payrollref1_New.f k t203 t208).bind fun bt210 => (if bt210.2.2 = 0 then (some (bt210.1, bt210.2.1, t209)) else (some (Int.tmod t203 1000, 1, t209)))) = some (r1, r2, r3) := H
    have A78 := Aside0.mk A780
    clear A780
    replace H := Option.bind_eq_some_iff.mp H
    obtain ⟨⟨t210, t211, t212⟩, A790, H⟩ := H
    replace H : (if t212 = 0 then (some (t210, t211, t209)) else (some (Int.tmod t203 1000, 1, t209))) = some (r1, r2, r3) := H
    have A79 := Aside0.mk A790
    clear A790
    by_cases c80 : t212 = 0
    ·
     rw [if_pos c80] at H
     have c80b0 : (t212 == 0) = true := beq_iff_eq.mpr c80
     have c80b1 : (t212 != 0) = false := bne_eq_false_iff_eq.mpr c80
     clear c80
     simp only [Option.some.injEq, Prod.mk.injEq] at H
     obtain ⟨rfl, rfl, rfl⟩ := H
     go_enter Try.func21, Try.ntmps21
     go_wp2_with (first | ((with_reducible refine gate_dst (N := 2) rfl ?_); refine bx_ (N := 2) (cs := #[.int .i64 0, .int .i64 0]) (t := 41) ?_; intro gb176 hg w81 hbox hb; have BK176 := Aside0.mk (hbox); have GW176 := ks_ HK hg; have GE176 := kw_ HW0 HK hg; have NB0_176 := IsS53.nl_ HI0 hg; have NB176_0 := IsS53.nr_ HI0 hg; replace HK := kb_ HK hb; replace HB := IsS53.ts_ HI0 HB hb; replace HI0 := IsS53.tb_ HI0 hb; clear hb hbox hg) | ((with_reducible refine gate_callee (f := 14) rfl ?_); refine gq_ (some 8) rfl rfl Try.func14 #[.pointer (some ⟨g, 0, none⟩), .int .i64 41] rfl ?_; (with_reducible refine (payrollgen_Tape_Next.calls g s0_0 s0_1 41 t177 t178 w0 _ ?side1 ?side2 A2.out).mono ?_); (case side1 => exact IsS53.aq_ HI0); (case side2 => exact IsS53.bs_ HI0 HB); rintro e w82 ⟨rfl, hi, hb, hk⟩; refine ⟨_, rfl, ?_⟩; replace BK176 := tk_ BK176 hk NB176_0; replace HK := kt_ HK hk; replace HB := Aside0.mk (hb); replace HI0 := Aside0.mk (hi); (try clear hb); (try clear hb2); (try clear hk); (try clear hi)) | ((with_reducible refine gate_callee (f := 14) rfl ?_); refine gq_ (some 11) rfl rfl Try.func14 #[.pointer (some ⟨g, 0, none⟩), .int .i64 12] rfl ?_; (with_reducible refine (payrollgen_Tape_Next.calls g s0_0 t178 12 t179 t180 w0 _ ?side1 ?side2 A3.out).mono ?_); (case side1 => exact IsS53.aq_ HI0); (case side2 => exact IsS53.bs_ HI0 HB); rintro e w83 ⟨rfl, hi, hb, hk⟩; refine ⟨_, rfl, ?_⟩; replace BK176 := tk_ BK176 hk NB176_0; replace HK := kt_ HK hk; replace HB := Aside0.mk (hb); replace HI0 := Aside0.mk (hi); (try clear hb); (try clear hb2); (try clear hk); (try clear hi)) | ((with_reducible refine gate_callee (f := 14) rfl ?_); refine gq_ (some 14) rfl rfl Try.func14 #[.pointer (some ⟨g, 0, none⟩), .int .i64 8] rfl ?_; (with_reducible refine (payrollgen_Tape_Next.calls g s0_0 t180 8 t181 t182 w0 _ ?side1 ?side2 A4.out).mono ?_); (case side1 => exact IsS53.aq_ HI0); (case side2 => exact IsS53.bs_ HI0 HB); rintro e w84 ⟨rfl, hi, hb, hk⟩; refine ⟨_, rfl, ?_⟩; replace BK176 := tk_ BK176 hk NB176_0; replace HK := kt_ HK hk; replace HB := Aside0.mk (hb); replace HI0 := Aside0.mk (hi); (try clear hb); (try clear hb2); (try clear hk); (try clear hi)) | ((with_reducible refine gate_callee (f := 14) rfl ?_); refine gq_ (some 31) rfl rfl Try.func14 #[.pointer (some ⟨g, 0, none⟩), .int .i64 1000] rfl ?_; (with_reducible refine (payrollgen_Tape_Next.calls g s0_0 t182 1000 t203 t204 w0 _ ?side1 ?side2 A77.out).mono ?_); (case side1 => exact IsS53.aq_ HI0); (case side2 => exact IsS53.bs_ HI0 HB); rintro e w85 ⟨rfl, hi, hb, hk⟩; refine ⟨_, rfl, ?_⟩; replace BK176 := tk_ BK176 hk NB176_0; replace HK := kt_ HK hk; replace HB := Aside0.mk (hb); replace HI0 := Aside0.mk (hi); (try clear hb); (try clear hb2); (try clear hk); (try clear hi)) | ((with_reducible refine gate_dst (N := 33) rfl ?_); refine Kd.R_lit (Kd.int .i64) _ 3 ?hg (N := 33) ?hd (xs := ([1000000, 999983, 65536, 1000] : List Int)) (inner := [.int .i64 1000000, .int .i64 999983, .int .i64 65536, .int .i64 1000]) (ok := fun _ => True) (okp := fun _ => True) ?hr ?hp (fun _ hk => hk) trivial (Below.refl _ _) (Nat.le_refl _) (by simp) ?_; (case hd => rfl); (case hg => rfl); (case hr => first | (go_simp; done) | (go_simp; rfl)); (case hp => exact (Reps.one (show Kd.M (Kd.int .i64) _ _ _ 1000000 [.int .i64 1000000] from rfl) (Reps.one (show Kd.M (Kd.int .i64) _ _ _ 999983 [.int .i64 999983] from rfl) (Reps.one (show Kd.M (Kd.int .i64) _ _ _ 65536 [.int .i64 65536] from rfl) (Reps.one (show Kd.M (Kd.int .i64) _ _ _ 1000 [.int .i64 1000] from rfl) (Reps.none _ _)))))); intro v206 w86 ho87 hb hg_ hnew_; clear hg_ hnew_; (first | rw [← Ny205.out] at ho87 | (simp only [Int.reduceToNat] at ho87; rw [← Ny205.out] at ho87)); have HO207 := Aside0.mk (Kd.R_lower ho87 (keep_size (w := w) (g := g) (row := none) (ke_ HK))); replace BK176 := tb_ BK176 hb; replace HK := kb_ HK hb; replace HB := IsS53.ts_ HI0 HB hb; replace HI0 := IsS53.tb_ HI0 hb; clear hb ho87; obtain ⟨Ao88, co88, eo88⟩ := Kd.R_slice HO207.out; subst eo88) | ((with_reducible refine gate_callee (f := 13) rfl ?_); refine gq_ (some 34) rfl rfl Try.func13 #[.pointer (some ⟨g, 0, none⟩), .slice Ao88 y205.length co88] rfl ?_; (with_reducible refine (payrollgen_Tape_Pick.calls g s0_0 t204 _ _ y205 t208 t209 w0 _ ?side1 ?side2 ?side3 ?side4 ?side5 A78.out).mono ?_); (case side1 => exact IsS53.aq_ HI0); (case side2 => exact IsS53.bs_ HI0 HB); (case side3 => repeat (first | exact (Kd.R_reads' HO207.out).2.2 | (with_reducible refine Kd.C_alloc ?_ _) | (with_reducible refine Kd.C_drewN ?_ _) | (with_reducible refine Kd.C_drew ?_))); (case side4 => exact (Kd.R_reads' HO207.out).2.1); (case side5 => exact far_slice (IsS53.own_ne HI0.out HO207.out (by decide))); rintro e w89 ⟨rfl, hi, hb, hk⟩; refine ⟨_, rfl, ?_⟩; replace BK176 := tk_ BK176 hk NB176_0; replace HO207 := Aside0.mk (Kd.R_mono (Kd.R_keep (IsS53.apart (show IsS53 w0 _ g s0_0 t204 from by repeat (first | (with_reducible first | exact HI0.out | apply IsS53.alloc | apply IsS53.drewN | apply IsS53.drew | apply IsS53.set_1 | refine IsS53.far ?_ NB0_176.out _) | exact HI0.out)) (re_ HO207) (by decide)) hk (fun _ h => h.2)) (fun _ h => h.1)); replace HK := kt_ HK hk; replace HB := Aside0.mk (hb); replace HI0 := Aside0.mk (hi); (try clear hb); (try clear hb2); (try clear hk); (try clear hi)) | ((with_reducible refine gate_callee (f := 31) rfl ?_); refine gq_ (some 38) rfl rfl Try.func31 #[.int .i64 t203, .int .i64 t208] rfl ?_; (with_reducible refine (payrollref1_New.calls k t203 t208 t210 t211 t212 _ A79.out).mono ?_); rintro e w90 ⟨rfl, hb⟩; refine ⟨_, rfl, ?_⟩; replace HO207 := rb_ HO207 hb; replace BK176 := tb_ BK176 hb; replace HK := kb_ HK hb; replace HB := IsS53.ts_ HI0 HB hb; replace HI0 := IsS53.tb_ HI0 hb; (try clear hb); (try clear hb2); (try clear hk); (try clear hi)) | ((with_reducible refine gate_dst (N := 5) rfl ?_); refine bx_ (N := 5) (cs := #[.int .i64 0, .int .i64 0]) (t := 41) ?_; intro gb213 hg w91 hbox hb; have BK213 := Aside0.mk (hbox); have GW213 := ks_ HK hg; have GE213 := kw_ HW0 HK hg; have NB176_213 := nl_ BK176 hg; have NB213_176 := nr_ BK176 hg; have NB0_213 := IsS53.nl_ HI0 hg; have NB213_0 := IsS53.nr_ HI0 hg; replace HO207 := rb_ HO207 hb; replace BK176 := tb_ BK176 hb; replace HK := kb_ HK hb; replace HB := IsS53.ts_ HI0 HB hb; replace HI0 := IsS53.tb_ HI0 hb; clear hb hbox hg; have hnb92 := NB213_176.out; have hnc92 := NB176_213.out; have hnb93 := NB213_0.out; have hnc93 := NB0_213.out; have hcz94_0 : w91.cell? ⟨gb213, 0, none⟩ = some (.int .i64 0) := (blk_cell BK213.out 0).trans rfl; have hcz94_1 : w91.cell? ⟨gb213, 1, none⟩ = some (.int .i64 0) := (blk_cell BK213.out 1).trans rfl; have hfz94_0 := blk_frozen BK213.out 0; have hfz94_1 := blk_frozen BK213.out 1; have hnb95 := NB176_0.out; have hnc95 := NB0_176.out; have hcz96_0 : w91.cell? ⟨gb176, 0, none⟩ = some (.int .i64 0) := (blk_cell BK176.out 0).trans rfl; have hcz96_1 : w91.cell? ⟨gb176, 1, none⟩ = some (.int .i64 0) := (blk_cell BK176.out 1).trans rfl; have hfz96_0 := blk_frozen BK176.out 0; have hfz96_1 := blk_frozen BK176.out 1))
     refine bodyPost_ret (results_cell_row rfl _ _ gb176 41 #[.int .i64 t210, .int .i64 t211] (0, 0) _ rfl (by (with_reducible repeat (first | refine blk_drewN ?_ _ | refine blk_drew ?_ | refine blk_alloc ?_ _)); refine blk_put (cs := #[.int .i64 t210, .int .i64 0]) ?_ 1 _ rfl; (with_reducible repeat (first | refine blk_drewN ?_ _ | refine blk_drew ?_ | refine blk_alloc ?_ _)); refine blk_put (cs := #[.int .i64 0, .int .i64 0]) ?_ 0 _ rfl; (with_reducible repeat (first | refine blk_drewN ?_ _ | refine blk_drew ?_ | refine blk_alloc ?_ _)); refine blk_far ?_ NB176_213.out _; (with_reducible repeat (first | refine blk_drewN ?_ _ | refine blk_drew ?_ | refine blk_alloc ?_ _)); refine blk_far ?_ NB176_213.out _; (with_reducible repeat (first | refine blk_drewN ?_ _ | refine blk_drew ?_ | refine blk_alloc ?_ _)); exact BK176.out) Try.underlying41 rfl (by kernel_rfl)) rfl ?_
     exact ⟨by first | rfl | (simp [errW_none, errW_some] <;> rfl) | (simp [*, errW_none, errW_some] <;> rfl), IsS53.aq_ HI0, IsS53.bs_ HI0 HB, ke_ HK⟩
    ·
     rw [if_neg c80] at H
     have c80b0 : (t212 == 0) = false := beq_eq_false_iff_ne.mpr c80
     have c80b1 : (t212 != 0) = true := bne_iff_ne.mpr c80
     simp only [Option.some.injEq, Prod.mk.injEq] at H
     obtain ⟨rfl, rfl, rfl⟩ := H
     go_enter Try.func21, Try.ntmps21
     go_wp2_with (first | ((with_reducible refine gate_dst (N := 2) rfl ?_); refine bx_ (N := 2) (cs := #[.int .i64 0, .int .i64 0]) (t := 41) ?_; intro gb176 hg w97 hbox hb; have BK176 := Aside0.mk (hbox); have GW176 := ks_ HK hg; have GE176 := kw_ HW0 HK hg; have NB0_176 := IsS53.nl_ HI0 hg; have NB176_0 := IsS53.nr_ HI0 hg; replace HK := kb_ HK hb; replace HB := IsS53.ts_ HI0 HB hb; replace HI0 := IsS53.tb_ HI0 hb; clear hb hbox hg) | ((with_reducible refine gate_callee (f := 14) rfl ?_); refine gq_ (some 8) rfl rfl Try.func14 #[.pointer (some ⟨g, 0, none⟩), .int .i64 41] rfl ?_; (with_reducible refine (payrollgen_Tape_Next.calls g s0_0 s0_1 41 t177 t178 w0 _ ?side1 ?side2 A2.out).mono ?_); (case side1 => exact IsS53.aq_ HI0); (case side2 => exact IsS53.bs_ HI0 HB); rintro e w98 ⟨rfl, hi, hb, hk⟩; refine ⟨_, rfl, ?_⟩; replace BK176 := tk_ BK176 hk NB176_0; replace HK := kt_ HK hk; replace HB := Aside0.mk (hb); replace HI0 := Aside0.mk (hi); (try clear hb); (try clear hb2); (try clear hk); (try clear hi)) | ((with_reducible refine gate_callee (f := 14) rfl ?_); refine gq_ (some 11) rfl rfl Try.func14 #[.pointer (some ⟨g, 0, none⟩), .int .i64 12] rfl ?_; (with_reducible refine (payrollgen_Tape_Next.calls g s0_0 t178 12 t179 t180 w0 _ ?side1 ?side2 A3.out).mono ?_); (case side1 => exact IsS53.aq_ HI0); (case side2 => exact IsS53.bs_ HI0 HB); rintro e w99 ⟨rfl, hi, hb, hk⟩; refine ⟨_, rfl, ?_⟩; replace BK176 := tk_ BK176 hk NB176_0; replace HK := kt_ HK hk; replace HB := Aside0.mk (hb); replace HI0 := Aside0.mk (hi); (try clear hb); (try clear hb2); (try clear hk); (try clear hi)) | ((with_reducible refine gate_callee (f := 14) rfl ?_); refine gq_ (some 14) rfl rfl Try.func14 #[.pointer (some ⟨g, 0, none⟩), .int .i64 8] rfl ?_; (with_reducible refine (payrollgen_Tape_Next.calls g s0_0 t180 8 t181 t182 w0 _ ?side1 ?side2 A4.out).mono ?_); (case side1 => exact IsS53.aq_ HI0); (case side2 => exact IsS53.bs_ HI0 HB); rintro e w100 ⟨rfl, hi, hb, hk⟩; refine ⟨_, rfl, ?_⟩; replace BK176 := tk_ BK176 hk NB176_0; replace HK := kt_ HK hk; replace HB := Aside0.mk (hb); replace HI0 := Aside0.mk (hi); (try clear hb); (try clear hb2); (try clear hk); (try clear hi)) | ((with_reducible refine gate_callee (f := 14) rfl ?_); refine gq_ (some 31) rfl rfl Try.func14 #[.pointer (some ⟨g, 0, none⟩), .int .i64 1000] rfl ?_; (with_reducible refine (payrollgen_Tape_Next.calls g s0_0 t182 1000 t203 t204 w0 _ ?side1 ?side2 A77.out).mono ?_); (case side1 => exact IsS53.aq_ HI0); (case side2 => exact IsS53.bs_ HI0 HB); rintro e w101 ⟨rfl, hi, hb, hk⟩; refine ⟨_, rfl, ?_⟩; replace BK176 := tk_ BK176 hk NB176_0; replace HK := kt_ HK hk; replace HB := Aside0.mk (hb); replace HI0 := Aside0.mk (hi); (try clear hb); (try clear hb2); (try clear hk); (try clear hi)) | ((with_reducible refine gate_dst (N := 33) rfl ?_); refine Kd.R_lit (Kd.int .i64) _ 3 ?hg (N := 33) ?hd (xs := ([1000000, 999983, 65536, 1000] : List Int)) (inner := [.int .i64 1000000, .int .i64 999983, .int .i64 65536, .int .i64 1000]) (ok := fun _ => True) (okp := fun _ => True) ?hr ?hp (fun _ hk => hk) trivial (Below.refl _ _) (Nat.le_refl _) (by simp) ?_; (case hd => rfl); (case hg => rfl); (case hr => first | (go_simp; done) | (go_simp; rfl)); (case hp => exact (Reps.one (show Kd.M (Kd.int .i64) _ _ _ 1000000 [.int .i64 1000000] from rfl) (Reps.one (show Kd.M (Kd.int .i64) _ _ _ 999983 [.int .i64 999983] from rfl) (Reps.one (show Kd.M (Kd.int .i64) _ _ _ 65536 [.int .i64 65536] from rfl) (Reps.one (show Kd.M (Kd.int .i64) _ _ _ 1000 [.int .i64 1000] from rfl) (Reps.none _ _)))))); intro v206 w102 ho103 hb hg_ hnew_; clear hg_ hnew_; (first | rw [← Ny205.out] at ho103 | (simp only [Int.reduceToNat] at ho103; rw [← Ny205.out] at ho103)); have HO207 := Aside0.mk (Kd.R_lower ho103 (keep_size (w := w) (g := g) (row := none) (ke_ HK))); replace BK176 := tb_ BK176 hb; replace HK := kb_ HK hb; replace HB := IsS53.ts_ HI0 HB hb; replace HI0 := IsS53.tb_ HI0 hb; clear hb ho103; obtain ⟨Ao104, co104, eo104⟩ := Kd.R_slice HO207.out; subst eo104) | ((with_reducible refine gate_callee (f := 13) rfl ?_); refine gq_ (some 34) rfl rfl Try.func13 #[.pointer (some ⟨g, 0, none⟩), .slice Ao104 y205.length co104] rfl ?_; (with_reducible refine (payrollgen_Tape_Pick.calls g s0_0 t204 _ _ y205 t208 t209 w0 _ ?side1 ?side2 ?side3 ?side4 ?side5 A78.out).mono ?_); (case side1 => exact IsS53.aq_ HI0); (case side2 => exact IsS53.bs_ HI0 HB); (case side3 => repeat (first | exact (Kd.R_reads' HO207.out).2.2 | (with_reducible refine Kd.C_alloc ?_ _) | (with_reducible refine Kd.C_drewN ?_ _) | (with_reducible refine Kd.C_drew ?_))); (case side4 => exact (Kd.R_reads' HO207.out).2.1); (case side5 => exact far_slice (IsS53.own_ne HI0.out HO207.out (by decide))); rintro e w105 ⟨rfl, hi, hb, hk⟩; refine ⟨_, rfl, ?_⟩; replace BK176 := tk_ BK176 hk NB176_0; replace HO207 := Aside0.mk (Kd.R_mono (Kd.R_keep (IsS53.apart (show IsS53 w0 _ g s0_0 t204 from by repeat (first | (with_reducible first | exact HI0.out | apply IsS53.alloc | apply IsS53.drewN | apply IsS53.drew | apply IsS53.set_1 | refine IsS53.far ?_ NB0_176.out _) | exact HI0.out)) (re_ HO207) (by decide)) hk (fun _ h => h.2)) (fun _ h => h.1)); replace HK := kt_ HK hk; replace HB := Aside0.mk (hb); replace HI0 := Aside0.mk (hi); (try clear hb); (try clear hb2); (try clear hk); (try clear hi)) | ((with_reducible refine gate_callee (f := 31) rfl ?_); refine gq_ (some 38) rfl rfl Try.func31 #[.int .i64 t203, .int .i64 t208] rfl ?_; (with_reducible refine (payrollref1_New.calls k t203 t208 t210 t211 t212 _ A79.out).mono ?_); rintro e w106 ⟨rfl, hb⟩; refine ⟨_, rfl, ?_⟩; replace HO207 := rb_ HO207 hb; replace BK176 := tb_ BK176 hb; replace HK := kb_ HK hb; replace HB := IsS53.ts_ HI0 HB hb; replace HI0 := IsS53.tb_ HI0 hb; (try clear hb); (try clear hb2); (try clear hk); (try clear hi)) | ((with_reducible refine gate_dst (N := 5) rfl ?_); refine bx_ (N := 5) (cs := #[.int .i64 0, .int .i64 0]) (t := 41) ?_; intro gb213 hg w107 hbox hb; have BK213 := Aside0.mk (hbox); have GW213 := ks_ HK hg; have GE213 := kw_ HW0 HK hg; have NB176_213 := nl_ BK176 hg; have NB213_176 := nr_ BK176 hg; have NB0_213 := IsS53.nl_ HI0 hg; have NB213_0 := IsS53.nr_ HI0 hg; replace HO207 := rb_ HO207 hb; replace BK176 := tb_ BK176 hb; replace HK := kb_ HK hb; replace HB := IsS53.ts_ HI0 HB hb; replace HI0 := IsS53.tb_ HI0 hb; clear hb hbox hg; have hnb108 := NB213_176.out; have hnc108 := NB176_213.out; have hnb109 := NB213_0.out; have hnc109 := NB0_213.out; have hcz110_0 : w107.cell? ⟨gb213, 0, none⟩ = some (.int .i64 0) := (blk_cell BK213.out 0).trans rfl; have hcz110_1 : w107.cell? ⟨gb213, 1, none⟩ = some (.int .i64 0) := (blk_cell BK213.out 1).trans rfl; have hfz110_0 := blk_frozen BK213.out 0; have hfz110_1 := blk_frozen BK213.out 1; have hnb111 := NB176_0.out; have hnc111 := NB0_176.out; have hcz112_0 : w107.cell? ⟨gb176, 0, none⟩ = some (.int .i64 0) := (blk_cell BK176.out 0).trans rfl; have hcz112_1 : w107.cell? ⟨gb176, 1, none⟩ = some (.int .i64 0) := (blk_cell BK176.out 1).trans rfl; have hfz112_0 := blk_frozen BK176.out 0; have hfz112_1 := blk_frozen BK176.out 1))
     refine bodyPost_ret (results_cell_row rfl _ _ gb176 41 #[.int .i64 (Int.tmod t203 1000), .int .i64 1] (0, 0) _ rfl (by (with_reducible repeat (first | refine blk_drewN ?_ _ | refine blk_drew ?_ | refine blk_alloc ?_ _)); refine blk_put (cs := #[.int .i64 (Int.tmod t203 1000), .int .i64 0]) ?_ 1 _ rfl; (with_reducible repeat (first | refine blk_drewN ?_ _ | refine blk_drew ?_ | refine blk_alloc ?_ _)); refine blk_put (cs := #[.int .i64 0, .int .i64 0]) ?_ 0 _ rfl; (with_reducible repeat (first | refine blk_drewN ?_ _ | refine blk_drew ?_ | refine blk_alloc ?_ _)); refine blk_far ?_ NB176_213.out _; (with_reducible repeat (first | refine blk_drewN ?_ _ | refine blk_drew ?_ | refine blk_alloc ?_ _)); refine blk_far ?_ NB176_213.out _; (with_reducible repeat (first | refine blk_drewN ?_ _ | refine blk_drew ?_ | refine blk_alloc ?_ _)); exact BK176.out) Try.underlying41 rfl (by kernel_rfl)) rfl ?_
     exact ⟨by first | rfl | (simp [errW_none, errW_some] <;> rfl) | (simp [*, errW_none, errW_some] <;> rfl), IsS53.aq_ HI0, IsS53.bs_ HI0 HB, ke_ HK⟩
   ·
    rw [if_neg c76] at H
    have c76b0 : (t181 == 7) = false := beq_eq_false_iff_ne.mpr c76
    have c76b1 : (t181 != 7) = true := bne_iff_ne.mpr c76
    replace H := Option.bind_eq_some_iff.mp H
    obtain ⟨⟨t214, t215, t216⟩, A1130, H⟩ := H
    replace H : (if t216 = 0 then (some (t214, t215, t182)) else (some (Int.tmod (wrap64 (t177 - 20)) 1000, 1, t182))) = some (r1, r2, r3) := H
    have A113 := Aside0.mk A1130
    clear A1130
    by_cases c114 : t216 = 0
    ·
     rw [if_pos c114] at H
     have c114b0 : (t216 == 0) = true := beq_iff_eq.mpr c114
     have c114b1 : (t216 != 0) = false := bne_eq_false_iff_eq.mpr c114
     clear c114
     simp only [Option.some.injEq, Prod.mk.injEq] at H
     obtain ⟨rfl, rfl, rfl⟩ := H
     go_enter Try.func21, Try.ntmps21
     go_wp2_with (first | ((with_reducible refine gate_dst (N := 2) rfl ?_); refine bx_ (N := 2) (cs := #[.int .i64 0, .int .i64 0]) (t := 41) ?_; intro gb176 hg w115 hbox hb; have BK176 := Aside0.mk (hbox); have GW176 := ks_ HK hg; have GE176 := kw_ HW0 HK hg; have NB0_176 := IsS53.nl_ HI0 hg; have NB176_0 := IsS53.nr_ HI0 hg; replace HK := kb_ HK hb; replace HB := IsS53.ts_ HI0 HB hb; replace HI0 := IsS53.tb_ HI0 hb; clear hb hbox hg) | ((with_reducible refine gate_callee (f := 14) rfl ?_); refine gq_ (some 8) rfl rfl Try.func14 #[.pointer (some ⟨g, 0, none⟩), .int .i64 41] rfl ?_; (with_reducible refine (payrollgen_Tape_Next.calls g s0_0 s0_1 41 t177 t178 w0 _ ?side1 ?side2 A2.out).mono ?_); (case side1 => exact IsS53.aq_ HI0); (case side2 => exact IsS53.bs_ HI0 HB); rintro e w116 ⟨rfl, hi, hb, hk⟩; refine ⟨_, rfl, ?_⟩; replace BK176 := tk_ BK176 hk NB176_0; replace HK := kt_ HK hk; replace HB := Aside0.mk (hb); replace HI0 := Aside0.mk (hi); (try clear hb); (try clear hb2); (try clear hk); (try clear hi)) | ((with_reducible refine gate_callee (f := 14) rfl ?_); refine gq_ (some 11) rfl rfl Try.func14 #[.pointer (some ⟨g, 0, none⟩), .int .i64 12] rfl ?_; (with_reducible refine (payrollgen_Tape_Next.calls g s0_0 t178 12 t179 t180 w0 _ ?side1 ?side2 A3.out).mono ?_); (case side1 => exact IsS53.aq_ HI0); (case side2 => exact IsS53.bs_ HI0 HB); rintro e w117 ⟨rfl, hi, hb, hk⟩; refine ⟨_, rfl, ?_⟩; replace BK176 := tk_ BK176 hk NB176_0; replace HK := kt_ HK hk; replace HB := Aside0.mk (hb); replace HI0 := Aside0.mk (hi); (try clear hb); (try clear hb2); (try clear hk); (try clear hi)) | ((with_reducible refine gate_callee (f := 14) rfl ?_); refine gq_ (some 14) rfl rfl Try.func14 #[.pointer (some ⟨g, 0, none⟩), .int .i64 8] rfl ?_; (with_reducible refine (payrollgen_Tape_Next.calls g s0_0 t180 8 t181 t182 w0 _ ?side1 ?side2 A4.out).mono ?_); (case side1 => exact IsS53.aq_ HI0); (case side2 => exact IsS53.bs_ HI0 HB); rintro e w118 ⟨rfl, hi, hb, hk⟩; refine ⟨_, rfl, ?_⟩; replace BK176 := tk_ BK176 hk NB176_0; replace HK := kt_ HK hk; replace HB := Aside0.mk (hb); replace HI0 := Aside0.mk (hi); (try clear hb); (try clear hb2); (try clear hk); (try clear hi)) | ((with_reducible refine gate_callee (f := 31) rfl ?_); refine gq_ (some 38) rfl rfl Try.func31 #[.int .i64 (wrap64 (t177 - 20)), .int .i64 (wrap64 (1 + t179))] rfl ?_; (with_reducible refine (payrollref1_New.calls k (wrap64 (t177 - 20)) (wrap64 (1 + t179)) t214 t215 t216 _ A113.out).mono ?_); rintro e w119 ⟨rfl, hb⟩; refine ⟨_, rfl, ?_⟩; replace BK176 := tb_ BK176 hb; replace HK := kb_ HK hb; replace HB := IsS53.ts_ HI0 HB hb; replace HI0 := IsS53.tb_ HI0 hb; (try clear hb); (try clear hb2); (try clear hk); (try clear hi)) | ((with_reducible refine gate_dst (N := 5) rfl ?_); refine bx_ (N := 5) (cs := #[.int .i64 0, .int .i64 0]) (t := 41) ?_; intro gb217 hg w120 hbox hb; have BK217 := Aside0.mk (hbox); have GW217 := ks_ HK hg; have GE217 := kw_ HW0 HK hg; have NB176_217 := nl_ BK176 hg; have NB217_176 := nr_ BK176 hg; have NB0_217 := IsS53.nl_ HI0 hg; have NB217_0 := IsS53.nr_ HI0 hg; replace BK176 := tb_ BK176 hb; replace HK := kb_ HK hb; replace HB := IsS53.ts_ HI0 HB hb; replace HI0 := IsS53.tb_ HI0 hb; clear hb hbox hg; have hnb121 := NB217_176.out; have hnc121 := NB176_217.out; have hnb122 := NB217_0.out; have hnc122 := NB0_217.out; have hcz123_0 : w120.cell? ⟨gb217, 0, none⟩ = some (.int .i64 0) := (blk_cell BK217.out 0).trans rfl; have hcz123_1 : w120.cell? ⟨gb217, 1, none⟩ = some (.int .i64 0) := (blk_cell BK217.out 1).trans rfl; have hfz123_0 := blk_frozen BK217.out 0; have hfz123_1 := blk_frozen BK217.out 1; have hnb124 := NB176_0.out; have hnc124 := NB0_176.out; have hcz125_0 : w120.cell? ⟨gb176, 0, none⟩ = some (.int .i64 0) := (blk_cell BK176.out 0).trans rfl; have hcz125_1 : w120.cell? ⟨gb176, 1, none⟩ = some (.int .i64 0) := (blk_cell BK176.out 1).trans rfl; have hfz125_0 := blk_frozen BK176.out 0; have hfz125_1 := blk_frozen BK176.out 1))
     refine bodyPost_ret (results_cell_row rfl _ _ gb176 41 #[.int .i64 t214, .int .i64 t215] (0, 0) _ rfl (by (with_reducible repeat (first | refine blk_drewN ?_ _ | refine blk_drew ?_ | refine blk_alloc ?_ _)); refine blk_put (cs := #[.int .i64 t214, .int .i64 0]) ?_ 1 _ rfl; (with_reducible repeat (first | refine blk_drewN ?_ _ | refine blk_drew ?_ | refine blk_alloc ?_ _)); refine blk_put (cs := #[.int .i64 0, .int .i64 0]) ?_ 0 _ rfl; (with_reducible repeat (first | refine blk_drewN ?_ _ | refine blk_drew ?_ | refine blk_alloc ?_ _)); refine blk_far ?_ NB176_217.out _; (with_reducible repeat (first | refine blk_drewN ?_ _ | refine blk_drew ?_ | refine blk_alloc ?_ _)); refine blk_far ?_ NB176_217.out _; (with_reducible repeat (first | refine blk_drewN ?_ _ | refine blk_drew ?_ | refine blk_alloc ?_ _)); exact BK176.out) Try.underlying41 rfl (by kernel_rfl)) rfl ?_
     exact ⟨by first | rfl | (simp [errW_none, errW_some] <;> rfl) | (simp [*, errW_none, errW_some] <;> rfl), IsS53.aq_ HI0, IsS53.bs_ HI0 HB, ke_ HK⟩
    ·
     rw [if_neg c114] at H
     have c114b0 : (t216 == 0) = false := beq_eq_false_iff_ne.mpr c114
     have c114b1 : (t216 != 0) = true := bne_iff_ne.mpr c114
     simp only [Option.some.injEq, Prod.mk.injEq] at H
     obtain ⟨rfl, rfl, rfl⟩ := H
     go_enter Try.func21, Try.ntmps21
     go_wp2_with (first | ((with_reducible refine gate_dst (N := 2) rfl ?_); refine bx_ (N := 2) (cs := #[.int .i64 0, .int .i64 0]) (t := 41) ?_; intro gb176 hg w126 hbox hb; have BK176 := Aside0.mk (hbox); have GW176 := ks_ HK hg; have GE176 := kw_ HW0 HK hg; have NB0_176 := IsS53.nl_ HI0 hg; have NB176_0 := IsS53.nr_ HI0 hg; replace HK := kb_ HK hb; replace HB := IsS53.ts_ HI0 HB hb; replace HI0 := IsS53.tb_ HI0 hb; clear hb hbox hg) | ((with_reducible refine gate_callee (f := 14) rfl ?_); refine gq_ (some 8) rfl rfl Try.func14 #[.pointer (some ⟨g, 0, none⟩), .int .i64 41] rfl ?_; (with_reducible refine (payrollgen_Tape_Next.calls g s0_0 s0_1 41 t177 t178 w0 _ ?side1 ?side2 A2.out).mono ?_); (case side1 => exact IsS53.aq_ HI0); (case side2 => exact IsS53.bs_ HI0 HB); rintro e w127 ⟨rfl, hi, hb, hk⟩; refine ⟨_, rfl, ?_⟩; replace BK176 := tk_ BK176 hk NB176_0; replace HK := kt_ HK hk; replace HB := Aside0.mk (hb); replace HI0 := Aside0.mk (hi); (try clear hb); (try clear hb2); (try clear hk); (try clear hi)) | ((with_reducible refine gate_callee (f := 14) rfl ?_); refine gq_ (some 11) rfl rfl Try.func14 #[.pointer (some ⟨g, 0, none⟩), .int .i64 12] rfl ?_; (with_reducible refine (payrollgen_Tape_Next.calls g s0_0 t178 12 t179 t180 w0 _ ?side1 ?side2 A3.out).mono ?_); (case side1 => exact IsS53.aq_ HI0); (case side2 => exact IsS53.bs_ HI0 HB); rintro e w128 ⟨rfl, hi, hb, hk⟩; refine ⟨_, rfl, ?_⟩; replace BK176 := tk_ BK176 hk NB176_0; replace HK := kt_ HK hk; replace HB := Aside0.mk (hb); replace HI0 := Aside0.mk (hi); (try clear hb); (try clear hb2); (try clear hk); (try clear hi)) | ((with_reducible refine gate_callee (f := 14) rfl ?_); refine gq_ (some 14) rfl rfl Try.func14 #[.pointer (some ⟨g, 0, none⟩), .int .i64 8] rfl ?_; (with_reducible refine (payrollgen_Tape_Next.calls g s0_0 t180 8 t181 t182 w0 _ ?side1 ?side2 A4.out).mono ?_); (case side1 => exact IsS53.aq_ HI0); (case side2 => exact IsS53.bs_ HI0 HB); rintro e w129 ⟨rfl, hi, hb, hk⟩; refine ⟨_, rfl, ?_⟩; replace BK176 := tk_ BK176 hk NB176_0; replace HK := kt_ HK hk; replace HB := Aside0.mk (hb); replace HI0 := Aside0.mk (hi); (try clear hb); (try clear hb2); (try clear hk); (try clear hi)) | ((with_reducible refine gate_callee (f := 31) rfl ?_); refine gq_ (some 38) rfl rfl Try.func31 #[.int .i64 (wrap64 (t177 - 20)), .int .i64 (wrap64 (1 + t179))] rfl ?_; (with_reducible refine (payrollref1_New.calls k (wrap64 (t177 - 20)) (wrap64 (1 + t179)) t214 t215 t216 _ A113.out).mono ?_); rintro e w130 ⟨rfl, hb⟩; refine ⟨_, rfl, ?_⟩; replace BK176 := tb_ BK176 hb; replace HK := kb_ HK hb; replace HB := IsS53.ts_ HI0 HB hb; replace HI0 := IsS53.tb_ HI0 hb; (try clear hb); (try clear hb2); (try clear hk); (try clear hi)) | ((with_reducible refine gate_dst (N := 5) rfl ?_); refine bx_ (N := 5) (cs := #[.int .i64 0, .int .i64 0]) (t := 41) ?_; intro gb217 hg w131 hbox hb; have BK217 := Aside0.mk (hbox); have GW217 := ks_ HK hg; have GE217 := kw_ HW0 HK hg; have NB176_217 := nl_ BK176 hg; have NB217_176 := nr_ BK176 hg; have NB0_217 := IsS53.nl_ HI0 hg; have NB217_0 := IsS53.nr_ HI0 hg; replace BK176 := tb_ BK176 hb; replace HK := kb_ HK hb; replace HB := IsS53.ts_ HI0 HB hb; replace HI0 := IsS53.tb_ HI0 hb; clear hb hbox hg; have hnb132 := NB217_176.out; have hnc132 := NB176_217.out; have hnb133 := NB217_0.out; have hnc133 := NB0_217.out; have hcz134_0 : w131.cell? ⟨gb217, 0, none⟩ = some (.int .i64 0) := (blk_cell BK217.out 0).trans rfl; have hcz134_1 : w131.cell? ⟨gb217, 1, none⟩ = some (.int .i64 0) := (blk_cell BK217.out 1).trans rfl; have hfz134_0 := blk_frozen BK217.out 0; have hfz134_1 := blk_frozen BK217.out 1; have hnb135 := NB176_0.out; have hnc135 := NB0_176.out; have hcz136_0 : w131.cell? ⟨gb176, 0, none⟩ = some (.int .i64 0) := (blk_cell BK176.out 0).trans rfl; have hcz136_1 : w131.cell? ⟨gb176, 1, none⟩ = some (.int .i64 0) := (blk_cell BK176.out 1).trans rfl; have hfz136_0 := blk_frozen BK176.out 0; have hfz136_1 := blk_frozen BK176.out 1))
     refine bodyPost_ret (results_cell_row rfl _ _ gb176 41 #[.int .i64 (Int.tmod (wrap64 (t177 - 20)) 1000), .int .i64 1] (0, 0) _ rfl (by (with_reducible repeat (first | refine blk_drewN ?_ _ | refine blk_drew ?_ | refine blk_alloc ?_ _)); refine blk_put (cs := #[.int .i64 (Int.tmod (wrap64 (t177 - 20)) 1000), .int .i64 0]) ?_ 1 _ rfl; (with_reducible repeat (first | refine blk_drewN ?_ _ | refine blk_drew ?_ | refine blk_alloc ?_ _)); refine blk_put (cs := #[.int .i64 0, .int .i64 0]) ?_ 0 _ rfl; (with_reducible repeat (first | refine blk_drewN ?_ _ | refine blk_drew ?_ | refine blk_alloc ?_ _)); refine blk_far ?_ NB176_217.out _; (with_reducible repeat (first | refine blk_drewN ?_ _ | refine blk_drew ?_ | refine blk_alloc ?_ _)); refine blk_far ?_ NB176_217.out _; (with_reducible repeat (first | refine blk_drewN ?_ _ | refine blk_drew ?_ | refine blk_alloc ?_ _)); exact BK176.out) Try.underlying41 rfl (by kernel_rfl)) rfl ?_
     exact ⟨by first | rfl | (simp [errW_none, errW_some] <;> rfl) | (simp [*, errW_none, errW_some] <;> rfl), IsS53.aq_ HI0, IsS53.bs_ HI0 HB, ke_ HK⟩

end Go.Proofs.Ytcipegkeoheikaa.PN
