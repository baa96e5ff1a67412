-- Written by a program of this session: the machine side of the proofs, out of Lean's own print of the program. Lean checks it.
import Derived.Test.YtcipegkeoheikaaPKx0
import Derived.Test.YtcipegkeoheikaaPKx2
import Derived.Test.YtcipegkeoheikaaPKx3
import Derived.Test.YtcipegkeoheikaaPKx4
import Derived.Test.YtcipegkeoheikaaPKx5
namespace Go.Proofs.Ytcipegkeoheikaa.PK
open Go.RowKit Go.Proofs.YtcipegkeoheikaaW.PrintWords Go.Proofs.YtcipegkeoheikaaW.PrintLast Go.Proofs.YtcipegkeoheikaaW.PrintMore
attribute [local go_sem] max2_int min2_int max_two min_two max_three min_three max_four min_four   -- for this text's walks alone
set_option linter.unusedVariables false
set_option linter.unusedSimpArgs false

/-! ### payrolllaw2_sane: function 17 -/
def payrolllaw2_sane.f (k : Nat)  : Option (Bool) := (rounding_Cents.f k 5 2 4).bind fun bt156 => ((rounding_Cents.f k (-5) 2 6).bind fun bt158 => ((rounding_Allocate.f k (-100) (([1, 1, 1] : List Int))).bind fun bt163 => ((rounding_Part.f k 10 1 4 1 6).bind fun bt167 => (if bt156.2 = 0 then (if bt156.1 = 3 then (if bt158.2 = 0 then (if bt158.1 = (-2) then (if bt163.2 = 0 then (if (bt163.1.length : Int) = 3 then (if 0 < (bt163.1.length : Int) then (if (rd bt163.1 0) = (-34) then (if 2 < (bt163.1.length : Int) then (if (rd bt163.1 2) = (-33) then (if bt167.2 = 0 then (some (bt167.1 == 2)) else (some false)) else (some false)) else (none)) else (some false)) else (none)) else (some false)) else (some false)) else (some false)) else (some false)) else (some false)) else (some false)))))
theorem payrolllaw2_sane.mono : ∀ k, LeO (payrolllaw2_sane.f k ) (payrolllaw2_sane.f (k + 1) ) := by
 intro  k
 unfold payrolllaw2_sane.f
 repeat' first
  | (with_reducible exact rounding_Allocate.mono _ _ _)
  | (with_reducible exact rounding_Cents.mono _ _ _ _)
  | (with_reducible exact rounding_Part.mono _ _ _ _ _ _)
  | (with_reducible exact LeO.refl _)
  | (with_reducible exact LeO.none _)
  | (with_reducible refine LeO.ite ?_ ?_)
  | (with_reducible refine LeO.bind ?_ (fun _ => ?_))
  | exact rounding_Allocate.mono _ _ _
  | exact rounding_Cents.mono _ _ _ _
  | exact rounding_Part.mono _ _ _ _ _ _
  | exact LeO.none _
  | refine LeO.ite ?_ ?_
  | refine LeO.bind ?_ (fun _ => ?_)
set_option maxHeartbeats 8000000 in
set_option maxRecDepth 100000 in
theorem payrolllaw2_sane.calls (k : Nat)  (r : Bool) (w : World) (h : payrolllaw2_sane.f k  = some r) :
 Calls Try.prog 17 #[] w fun e w' => e = .returned (.bool r) ∧ Below w.heap.size w w' := by
 have hu41 := Try.underlying41
 have HB := Aside0.mk (Below.refl w.heap.size w)
 have H : ((rounding_Cents.f k 5 2 4).bind fun bt156 => ((rounding_Cents.f k (-5) 2 6).bind fun bt158 => ((rounding_Allocate.f k (-100) (([1, 1, 1] : List Int))).bind fun bt163 => ((rounding_Part.f k 10 1 4 1 6).bind fun bt167 => (if bt156.2 = 0 then (if bt156.1 = 3 then (if bt158.2 = 0 then (if bt158.1 = (-2) then (if bt163.2 = 0 then (if (bt163.1.length : Int) = 3 then (if 0 < (bt163.1.length : Int) then (if (rd bt163.1 0) = (-34) then (if 2 < (bt163.1.length : Int) then (if (rd bt163.1 2) = (-33) then (if bt167.2 = 0 then (some (bt167.1 == 2)) else (some false)) else (some false)) else (none)) else (some false)) else (none)) else (some false)) else (some false)) else (some false)) else (some false)) else (some false)) else (some false)))))) = some r := h
 clear h
 replace H := Option.bind_eq_some_iff.mp H
 obtain ⟨⟨t156, t157⟩, A10, H⟩ := H
 replace H : ((rounding_Cents.f k (-5) 2 6).bind fun bt158 => ((rounding_Allocate.f k (-100) (([1, 1, 1] : List Int))).bind fun bt163 => ((rounding_Part.f k 10 1 4 1 6).bind fun bt167 => (if t157 = 0 then (if t156 = 3 then (if bt158.2 = 0 then (if bt158.1 = (-2) then (if bt163.2 = 0 then (if (bt163.1.length : Int) = 3 then (if 0 < (bt163.1.length : Int) then (if (rd bt163.1 0) = (-34) then (if 2 < (bt163.1.length : Int) then (if (rd bt163.1 2) = (-33) then (if bt167.2 = 0 then (some (bt167.1 == 2)) else (some false)) else (some false)) else (none)) else (some false)) else (none)) else (some false)) else (some false)) else (some false)) else (some false)) else (some false)) else (some false))))) = some r := H
 have A1 := Aside0.mk A10
 clear A10
 replace H := Option.bind_eq_some_iff.mp H
 obtain ⟨⟨t158, t159⟩, A20, H⟩ := H
 replace H : ((rounding_Allocate.f k (-100) (([1, 1, 1] : List Int))).bind fun bt163 => ((rounding_Part.f k 10 1 4 1 6).bind fun bt167 => (if t157 = 0 then (if t156 = 3 then (if t159 = 0 then (if t158 = (-2) then (if bt163.2 = 0 then (if (bt163.1.length : Int) = 3 then (if 0 < (bt163.1.length : Int) then (if (rd bt163.1 0) = (-34) then (if 2 < (bt163.1.length : Int) then (if (rd bt163.1 2) = (-33) then (if bt167.2 = 0 then (some (bt167.1 == 2)) else (some false)) else (some false)) else (none)) else (some false)) else (none)) else (some false)) else (some false)) else (some false)) else (some false)) else (some false)) else (some false)))) = some r := H
 have A2 := Aside0.mk A20
 clear A20
 obtain ⟨y160, hy160⟩ : ∃ y_ : List Int, y_ = (([1, 1, 1] : List Int)) := ⟨_, rfl⟩
 replace H : ((rounding_Allocate.f k (-100) y160).bind fun bt163 => ((rounding_Part.f k 10 1 4 1 6).bind fun bt167 => (if t157 = 0 then (if t156 = 3 then (if t159 = 0 then (if t158 = (-2) then (if bt163.2 = 0 then (if (bt163.1.length : Int) = 3 then (if 0 < (bt163.1.length : Int) then (if (rd bt163.1 0) = (-34) then (if 2 < (bt163.1.length : Int) then (if (rd bt163.1 2) = (-33) then (if bt167.2 = 0 then (some (bt167.1 == 2)) else (some false)) else (some false)) else (none)) else (some false)) else (none)) else (some false)) else (some false)) else (some false)) else (some false)) else (some false)) else (some false)))) = some r := by first | (rw [hy160]; with_reducible exact H) | (have H2_ := (Option.bind_some _ _).symm.trans H; rw [hy160]; with_reducible exact H2_) | (have H2_ := (Option.bind_some _ _).symm.trans H; with_reducible exact H2_) | with_reducible exact H | (rw [hy160]; exact H) | exact H
 have Ny160 := Aside0.mk hy160
 clear hy160
 replace H := Option.bind_eq_some_iff.mp H
 obtain ⟨⟨t163, t164⟩, A30, H⟩ := H
 replace H : ((rounding_Part.f k 10 1 4 1 6).bind fun bt167 => (if t157 = 0 then (if t156 = 3 then (if t159 = 0 then (if t158 = (-2) then (if t164 = 0 then (if (t163.length : Int) = 3 then (if 0 < (t163.length : Int) then (if (rd t163 0) = (-34) then (if 2 < (t163.length : Int) then (if (rd t163 2) = (-33) then (if bt167.2 = 0 then (some (bt167.1 == 2)) else (some false)) else (some false)) else (none)) else (some false)) else (none)) else (some false)) else (some false)) else (some false)) else (some false)) else (some false)) else (some false))) = some r := H
 have A3 := Aside0.mk A30
 clear A30
 replace H := Option.bind_eq_some_iff.mp H
 obtain ⟨⟨t167, t168⟩, A40, H⟩ := H
 replace H : (if t157 = 0 then (if t156 = 3 then (if t159 = 0 then (if t158 = (-2) then (if t164 = 0 then (if (t163.length : Int) = 3 then (if 0 < (t163.length : Int) then (if (rd t163 0) = (-34) then (if 2 < (t163.length : Int) then (if (rd t163 2) = (-33) then (if t168 = 0 then (some (t167 == 2)) else (some false)) else (some false)) else (none)) else (some false)) else (none)) else (some false)) else (some false)) else (some false)) else (some false)) else (some false)) else (some false)) = some r := H
 have A4 := Aside0.mk A40
 clear A40
 by_cases c5 : t157 = 0
 ·
  rw [if_pos c5] at H
  have c5b0 : (t157 == 0) = true := beq_iff_eq.mpr c5
  have c5b1 : (t157 != 0) = false := bne_eq_false_iff_eq.mpr c5
  clear c5
  by_cases c6 : t156 = 3
  ·
   rw [if_pos c6] at H
   have c6b0 : (t156 == 3) = true := beq_iff_eq.mpr c6
   have c6b1 : (t156 != 3) = false := bne_eq_false_iff_eq.mpr c6
   clear c6
   by_cases c7 : t159 = 0
   ·
    rw [if_pos c7] at H
    have c7b0 : (t159 == 0) = true := beq_iff_eq.mpr c7
    have c7b1 : (t159 != 0) = false := bne_eq_false_iff_eq.mpr c7
    clear c7
    by_cases c8 : t158 = (-2)
    ·
     rw [if_pos c8] at H
     have c8b0 : (t158 == (-2)) = true := beq_iff_eq.mpr c8
     have c8b1 : (t158 != (-2)) = false := bne_eq_false_iff_eq.mpr c8
     clear c8
     by_cases c9 : t164 = 0
     ·
      rw [if_pos c9] at H
      have c9b0 : (t164 == 0) = true := beq_iff_eq.mpr c9
      have c9b1 : (t164 != 0) = false := bne_eq_false_iff_eq.mpr c9
      clear c9
      by_cases c10 : (t163.length : Int) = 3
      ·
       rw [if_pos c10] at H
       have c10b0 : ((t163.length : Int) == 3) = true := beq_iff_eq.mpr c10
       have c10b1 : ((t163.length : Int) != 3) = false := bne_eq_false_iff_eq.mpr c10
       clear c10
       by_cases c11 : 0 < (t163.length : Int)
       ·
        rw [if_pos c11] at H
        have c11b0 : decide (0 < (t163.length : Int)) = true := decide_eq_true c11
        have c11b1 : decide (0 < t163.length) = true := decide_eq_true (by omega)
        clear c11
        by_cases c12 : (rd t163 0) = (-34)
        ·
         rw [if_pos c12] at H
         have c12b0 : ((rd t163 0) == (-34)) = true := beq_iff_eq.mpr c12
         have c12b1 : ((rd t163 0) != (-34)) = false := bne_eq_false_iff_eq.mpr c12
         clear c12
         by_cases c13 : 2 < (t163.length : Int)
         ·
          rw [if_pos c13] at H
          have c13b0 : decide (2 < (t163.length : Int)) = true := decide_eq_true c13
          have c13b1 : decide (2 < t163.length) = true := decide_eq_true (by omega)
          clear c13
          by_cases c14 : (rd t163 2) = (-33)
          ·
           rw [if_pos c14] at H
           have c14b0 : ((rd t163 2) == (-33)) = true := beq_iff_eq.mpr c14
           have c14b1 : ((rd t163 2) != (-33)) = false := bne_eq_false_iff_eq.mpr c14
           clear c14
           by_cases c15 : t168 = 0
           ·
            rw [if_pos c15] at H
            have c15b0 : (t168 == 0) = true := beq_iff_eq.mpr c15
            have c15b1 : (t168 != 0) = false := bne_eq_false_iff_eq.mpr c15
            clear c15
            obtain rfl := Option.some.inj H
            go_enter Try.func17, Try.ntmps17
            go_wp2_with (first | ((with_reducible refine gate_callee (f := 37) rfl ?_); refine gq_ (some 11) rfl rfl Try.func37 #[.agg #[.int .i64 5, .int .i64 2], .int .i64 4] rfl ?_; (with_reducible refine (rounding_Cents.calls k 5 2 4 t156 t157 _ A1.out).mono ?_); rintro e w16 ⟨rfl, hb⟩; refine ⟨_, rfl, ?_⟩; replace HB := ts_ HB hb; (try clear hb); (try clear hb2); (try clear hk); (try clear hi)) | ((with_reducible refine gate_callee (f := 37) rfl ?_); refine gq_ (some 16) rfl rfl Try.func37 #[.agg #[.int .i64 (-5), .int .i64 2], .int .i64 6] rfl ?_; (with_reducible refine (rounding_Cents.calls k (-5) 2 6 t158 t159 _ A2.out).mono ?_); rintro e w17 ⟨rfl, hb⟩; refine ⟨_, rfl, ?_⟩; replace HB := ts_ HB hb; (try clear hb); (try clear hb2); (try clear hk); (try clear hi)) | ((with_reducible refine gate_dst (N := 20) rfl ?_); (try (refine gate_guard (by rfl) ?_; dsimp only)); refine Kd.R_lit (Kd.int .i64) _ 3 ?hg (N := 20) ?hd (xs := ([1, 1, 1] : List Int)) (inner := [.int .i64 1, .int .i64 1, .int .i64 1]) (ok := fun _ => True) (okp := fun _ => True) ?hr ?hp (fun _ hk => hk) trivial (Below.refl _ _) (Nat.le_refl _) (by simp) ?_; (case hd => rfl); (case hg => rfl); (case hr => first | (go_simp; done) | (go_simp; rfl)); (case hp => exact (Reps.one (show Kd.M (Kd.int .i64) _ _ _ 1 [.int .i64 1] from rfl) (Reps.one (show Kd.M (Kd.int .i64) _ _ _ 1 [.int .i64 1] from rfl) (Reps.one (show Kd.M (Kd.int .i64) _ _ _ 1 [.int .i64 1] from rfl) (Reps.none _ _))))); intro v161 w18 ho19 hb hg_ hnew_; clear hg_ hnew_; (first | rw [← Ny160.out] at ho19 | (simp only [Int.reduceToNat] at ho19; rw [← Ny160.out] at ho19)); have HO162 := Aside0.mk (Kd.R_lower ho19 (below_size (be_ HB))); replace HB := ts_ HB hb; clear hb ho19; obtain ⟨Ao20, co20, eo20⟩ := Kd.R_slice HO162.out; subst eo20) | ((with_reducible refine gate_callee (f := 15) rfl ?_); refine gq_ (some 21) rfl rfl Try.func15 #[.int .i64 (-100), .slice Ao20 y160.length co20] rfl ?_; (with_reducible refine (rounding_Allocate.calls k (-100) _ _ y160 t163 t164 _ ?side1 ?side2 A3.out).mono ?_); (case side1 => repeat (first | exact (Kd.R_reads' HO162.out).2.2 | (with_reducible refine Kd.C_alloc ?_ _) | (with_reducible refine Kd.C_drewN ?_ _) | (with_reducible refine Kd.C_drew ?_))); (case side2 => exact (Kd.R_reads' HO162.out).2.1); rintro e w21 ⟨v165, rfl, ho0, hb⟩; refine ⟨_, rfl, ?_⟩; have HO166 := Aside0.mk (Kd.R_lower (Kd.R_new' ho0 (Kd.R_lt (re_ HO162))) (below_size (be_ HB))); replace HO162 := Aside0.mk (Kd.R_elder' (re_ HO162) (Kd.R_base ho0) hb); replace HB := ts_ HB hb; (try clear hb); (try clear hb2); (try clear hk); (try clear hi); (try clear ho0)) | ((with_reducible refine gate_callee (f := 18) rfl ?_); refine gq_ (some 25) rfl rfl Try.func18 #[.int .i64 10, .int .i64 1, .int .i64 4, .int .i64 1, .int .i64 6] rfl ?_; (with_reducible refine (rounding_Part.calls k 10 1 4 1 6 t167 t168 _ A4.out).mono ?_); rintro e w' ⟨rfl, ⟨nd, rfl⟩⟩; refine ⟨_, rfl, ?_⟩; obtain ⟨Ao22, co22, eo22⟩ := Kd.R_slice HO166.out; subst eo22; have p169 : 0 ≤ (0 : Int) := (by omega); have q169 : 0 < (t163.length : Int) := of_decide_eq_true (by first | (with_reducible assumption) | assumption); obtain ⟨ad169, e169, hx169_0⟩ := Kd.at_int (Kd.R_reads' HO166.out).2.2 0 p169 q169; cases e169; have qi169 : (0 < t163.length) = True := eq_true (by omega); (try rw [show ((0 : Int)).toNat = 0 from rfl] at hx169_0); (try rw [Addr.add_zero'] at hx169_0); replace p169 := eq_true p169; replace q169 := eq_true q169; have p170 : 0 ≤ (2 : Int) := (by omega); have q170 : 2 < (t163.length : Int) := of_decide_eq_true (by first | (with_reducible assumption) | assumption); obtain ⟨ad170, e170, hx170_0⟩ := Kd.at_int (Kd.R_reads' HO166.out).2.2 2 p170 q170; obtain rfl : ad169 = ad170 := (by injection e170); (try simp only [show (2 : Int).toNat = 2 from rfl, Nat.reduceMul, Nat.reduceEqDiff, Go.Addr.add, ↓reduceIte] at hx170_0); have qi170 : (2 < t163.length) = True := eq_true (by omega); (try rw [show ((2 : Int)).toNat = 2 from rfl] at hx170_0); replace p170 := eq_true p170; replace q170 := eq_true q170))
            go_ret
            exact ⟨by first | rfl | (simp [errW_none, errW_some] <;> rfl) | (simp [*, errW_none, errW_some] <;> rfl), be_ HB⟩
           ·
            rw [if_neg c15] at H
            have c15b0 : (t168 == 0) = false := beq_eq_false_iff_ne.mpr c15
            have c15b1 : (t168 != 0) = true := bne_iff_ne.mpr c15
            obtain rfl := Option.some.inj H
            go_enter Try.func17, Try.ntmps17
            go_wp2_with (first | ((with_reducible refine gate_callee (f := 37) rfl ?_); refine gq_ (some 11) rfl rfl Try.func37 #[.agg #[.int .i64 5, .int .i64 2], .int .i64 4] rfl ?_; (with_reducible refine (rounding_Cents.calls k 5 2 4 t156 t157 _ A1.out).mono ?_); rintro e w23 ⟨rfl, hb⟩; refine ⟨_, rfl, ?_⟩; replace HB := ts_ HB hb; (try clear hb); (try clear hb2); (try clear hk); (try clear hi)) | ((with_reducible refine gate_callee (f := 37) rfl ?_); refine gq_ (some 16) rfl rfl Try.func37 #[.agg #[.int .i64 (-5), .int .i64 2], .int .i64 6] rfl ?_; (with_reducible refine (rounding_Cents.calls k (-5) 2 6 t158 t159 _ A2.out).mono ?_); rintro e w24 ⟨rfl, hb⟩; refine ⟨_, rfl, ?_⟩; replace HB := ts_ HB hb; (try clear hb); (try clear hb2); (try clear hk); (try clear hi)) | ((with_reducible refine gate_dst (N := 20) rfl ?_); (try (refine gate_guard (by rfl) ?_; dsimp only)); refine Kd.R_lit (Kd.int .i64) _ 3 ?hg (N := 20) ?hd (xs := ([1, 1, 1] : List Int)) (inner := [.int .i64 1, .int .i64 1, .int .i64 1]) (ok := fun _ => True) (okp := fun _ => True) ?hr ?hp (fun _ hk => hk) trivial (Below.refl _ _) (Nat.le_refl _) (by simp) ?_; (case hd => rfl); (case hg => rfl); (case hr => first | (go_simp; done) | (go_simp; rfl)); (case hp => exact (Reps.one (show Kd.M (Kd.int .i64) _ _ _ 1 [.int .i64 1] from rfl) (Reps.one (show Kd.M (Kd.int .i64) _ _ _ 1 [.int .i64 1] from rfl) (Reps.one (show Kd.M (Kd.int .i64) _ _ _ 1 [.int .i64 1] from rfl) (Reps.none _ _))))); intro v161 w25 ho26 hb hg_ hnew_; clear hg_ hnew_; (first | rw [← Ny160.out] at ho26 | (simp only [Int.reduceToNat] at ho26; rw [← Ny160.out] at ho26)); have HO162 := Aside0.mk (Kd.R_lower ho26 (below_size (be_ HB))); replace HB := ts_ HB hb; clear hb ho26; obtain ⟨Ao27, co27, eo27⟩ := Kd.R_slice HO162.out; subst eo27) | ((with_reducible refine gate_callee (f := 15) rfl ?_); refine gq_ (some 21) rfl rfl Try.func15 #[.int .i64 (-100), .slice Ao27 y160.length co27] rfl ?_; (with_reducible refine (rounding_Allocate.calls k (-100) _ _ y160 t163 t164 _ ?side1 ?side2 A3.out).mono ?_); (case side1 => repeat (first | exact (Kd.R_reads' HO162.out).2.2 | (with_reducible refine Kd.C_alloc ?_ _) | (with_reducible refine Kd.C_drewN ?_ _) | (with_reducible refine Kd.C_drew ?_))); (case side2 => exact (Kd.R_reads' HO162.out).2.1); rintro e w28 ⟨v165, rfl, ho0, hb⟩; refine ⟨_, rfl, ?_⟩; have HO166 := Aside0.mk (Kd.R_lower (Kd.R_new' ho0 (Kd.R_lt (re_ HO162))) (below_size (be_ HB))); replace HO162 := Aside0.mk (Kd.R_elder' (re_ HO162) (Kd.R_base ho0) hb); replace HB := ts_ HB hb; (try clear hb); (try clear hb2); (try clear hk); (try clear hi); (try clear ho0)) | ((with_reducible refine gate_callee (f := 18) rfl ?_); refine gq_ (some 25) rfl rfl Try.func18 #[.int .i64 10, .int .i64 1, .int .i64 4, .int .i64 1, .int .i64 6] rfl ?_; (with_reducible refine (rounding_Part.calls k 10 1 4 1 6 t167 t168 _ A4.out).mono ?_); rintro e w' ⟨rfl, ⟨nd, rfl⟩⟩; refine ⟨_, rfl, ?_⟩; obtain ⟨Ao29, co29, eo29⟩ := Kd.R_slice HO166.out; subst eo29; have p169 : 0 ≤ (0 : Int) := (by omega); have q169 : 0 < (t163.length : Int) := of_decide_eq_true (by first | (with_reducible assumption) | assumption); obtain ⟨ad169, e169, hx169_0⟩ := Kd.at_int (Kd.R_reads' HO166.out).2.2 0 p169 q169; cases e169; have qi169 : (0 < t163.length) = True := eq_true (by omega); (try rw [show ((0 : Int)).toNat = 0 from rfl] at hx169_0); (try rw [Addr.add_zero'] at hx169_0); replace p169 := eq_true p169; replace q169 := eq_true q169; have p170 : 0 ≤ (2 : Int) := (by omega); have q170 : 2 < (t163.length : Int) := of_decide_eq_true (by first | (with_reducible assumption) | assumption); obtain ⟨ad170, e170, hx170_0⟩ := Kd.at_int (Kd.R_reads' HO166.out).2.2 2 p170 q170; obtain rfl : ad169 = ad170 := (by injection e170); (try simp only [show (2 : Int).toNat = 2 from rfl, Nat.reduceMul, Nat.reduceEqDiff, Go.Addr.add, ↓reduceIte] at hx170_0); have qi170 : (2 < t163.length) = True := eq_true (by omega); (try rw [show ((2 : Int)).toNat = 2 from rfl] at hx170_0); replace p170 := eq_true p170; replace q170 := eq_true q170))
            go_ret
            exact ⟨by first | rfl | (simp [errW_none, errW_some] <;> rfl) | (simp [*, errW_none, errW_some] <;> rfl), be_ HB⟩
          ·
           rw [if_neg c14] at H
           have c14b0 : ((rd t163 2) == (-33)) = false := beq_eq_false_iff_ne.mpr c14
           have c14b1 : ((rd t163 2) != (-33)) = true := bne_iff_ne.mpr c14
           obtain rfl := Option.some.inj H
           go_enter Try.func17, Try.ntmps17
           go_wp2_with (first | ((with_reducible refine gate_callee (f := 37) rfl ?_); refine gq_ (some 11) rfl rfl Try.func37 #[.agg #[.int .i64 5, .int .i64 2], .int .i64 4] rfl ?_; (with_reducible refine (rounding_Cents.calls k 5 2 4 t156 t157 _ A1.out).mono ?_); rintro e w30 ⟨rfl, hb⟩; refine ⟨_, rfl, ?_⟩; replace HB := ts_ HB hb; (try clear hb); (try clear hb2); (try clear hk); (try clear hi)) | ((with_reducible refine gate_callee (f := 37) rfl ?_); refine gq_ (some 16) rfl rfl Try.func37 #[.agg #[.int .i64 (-5), .int .i64 2], .int .i64 6] rfl ?_; (with_reducible refine (rounding_Cents.calls k (-5) 2 6 t158 t159 _ A2.out).mono ?_); rintro e w31 ⟨rfl, hb⟩; refine ⟨_, rfl, ?_⟩; replace HB := ts_ HB hb; (try clear hb); (try clear hb2); (try clear hk); (try clear hi)) | ((with_reducible refine gate_dst (N := 20) rfl ?_); (try (refine gate_guard (by rfl) ?_; dsimp only)); refine Kd.R_lit (Kd.int .i64) _ 3 ?hg (N := 20) ?hd (xs := ([1, 1, 1] : List Int)) (inner := [.int .i64 1, .int .i64 1, .int .i64 1]) (ok := fun _ => True) (okp := fun _ => True) ?hr ?hp (fun _ hk => hk) trivial (Below.refl _ _) (Nat.le_refl _) (by simp) ?_; (case hd => rfl); (case hg => rfl); (case hr => first | (go_simp; done) | (go_simp; rfl)); (case hp => exact (Reps.one (show Kd.M (Kd.int .i64) _ _ _ 1 [.int .i64 1] from rfl) (Reps.one (show Kd.M (Kd.int .i64) _ _ _ 1 [.int .i64 1] from rfl) (Reps.one (show Kd.M (Kd.int .i64) _ _ _ 1 [.int .i64 1] from rfl) (Reps.none _ _))))); intro v161 w32 ho33 hb hg_ hnew_; clear hg_ hnew_; (first | rw [← Ny160.out] at ho33 | (simp only [Int.reduceToNat] at ho33; rw [← Ny160.out] at ho33)); have HO162 := Aside0.mk (Kd.R_lower ho33 (below_size (be_ HB))); replace HB := ts_ HB hb; clear hb ho33; obtain ⟨Ao34, co34, eo34⟩ := Kd.R_slice HO162.out; subst eo34) | ((with_reducible refine gate_callee (f := 15) rfl ?_); refine gq_ (some 21) rfl rfl Try.func15 #[.int .i64 (-100), .slice Ao34 y160.length co34] rfl ?_; (with_reducible refine (rounding_Allocate.calls k (-100) _ _ y160 t163 t164 _ ?side1 ?side2 A3.out).mono ?_); (case side1 => repeat (first | exact (Kd.R_reads' HO162.out).2.2 | (with_reducible refine Kd.C_alloc ?_ _) | (with_reducible refine Kd.C_drewN ?_ _) | (with_reducible refine Kd.C_drew ?_))); (case side2 => exact (Kd.R_reads' HO162.out).2.1); rintro e w35 ⟨v165, rfl, ho0, hb⟩; refine ⟨_, rfl, ?_⟩; have HO166 := Aside0.mk (Kd.R_lower (Kd.R_new' ho0 (Kd.R_lt (re_ HO162))) (below_size (be_ HB))); replace HO162 := Aside0.mk (Kd.R_elder' (re_ HO162) (Kd.R_base ho0) hb); replace HB := ts_ HB hb; (try clear hb); (try clear hb2); (try clear hk); (try clear hi); (try clear ho0)) | ((with_reducible refine gate_callee (f := 18) rfl ?_); refine gq_ (some 25) rfl rfl Try.func18 #[.int .i64 10, .int .i64 1, .int .i64 4, .int .i64 1, .int .i64 6] rfl ?_; (with_reducible refine (rounding_Part.calls k 10 1 4 1 6 t167 t168 _ A4.out).mono ?_); rintro e w' ⟨rfl, ⟨nd, rfl⟩⟩; refine ⟨_, rfl, ?_⟩; obtain ⟨Ao36, co36, eo36⟩ := Kd.R_slice HO166.out; subst eo36; have p169 : 0 ≤ (0 : Int) := (by omega); have q169 : 0 < (t163.length : Int) := of_decide_eq_true (by first | (with_reducible assumption) | assumption); obtain ⟨ad169, e169, hx169_0⟩ := Kd.at_int (Kd.R_reads' HO166.out).2.2 0 p169 q169; cases e169; have qi169 : (0 < t163.length) = True := eq_true (by omega); (try rw [show ((0 : Int)).toNat = 0 from rfl] at hx169_0); (try rw [Addr.add_zero'] at hx169_0); replace p169 := eq_true p169; replace q169 := eq_true q169; have p170 : 0 ≤ (2 : Int) := (by omega); have q170 : 2 < (t163.length : Int) := of_decide_eq_true (by first | (with_reducible assumption) | assumption); obtain ⟨ad170, e170, hx170_0⟩ := Kd.at_int (Kd.R_reads' HO166.out).2.2 2 p170 q170; obtain rfl : ad169 = ad170 := (by injection e170); (try simp only [show (2 : Int).toNat = 2 from rfl, Nat.reduceMul, Nat.reduceEqDiff, Go.Addr.add, ↓reduceIte] at hx170_0); have qi170 : (2 < t163.length) = True := eq_true (by omega); (try rw [show ((2 : Int)).toNat = 2 from rfl] at hx170_0); replace p170 := eq_true p170; replace q170 := eq_true q170))
           go_ret
           exact ⟨by first | rfl | (simp [errW_none, errW_some] <;> rfl) | (simp [*, errW_none, errW_some] <;> rfl), be_ HB⟩
         ·
          rw [if_neg c13] at H
          exact absurd H (by simp)
        ·
         rw [if_neg c12] at H
         have c12b0 : ((rd t163 0) == (-34)) = false := beq_eq_false_iff_ne.mpr c12
         have c12b1 : ((rd t163 0) != (-34)) = true := bne_iff_ne.mpr c12
         obtain rfl := Option.some.inj H
         go_enter Try.func17, Try.ntmps17
         go_wp2_with (first | ((with_reducible refine gate_callee (f := 37) rfl ?_); refine gq_ (some 11) rfl rfl Try.func37 #[.agg #[.int .i64 5, .int .i64 2], .int .i64 4] rfl ?_; (with_reducible refine (rounding_Cents.calls k 5 2 4 t156 t157 _ A1.out).mono ?_); rintro e w37 ⟨rfl, hb⟩; refine ⟨_, rfl, ?_⟩; replace HB := ts_ HB hb; (try clear hb); (try clear hb2); (try clear hk); (try clear hi)) | ((with_reducible refine gate_callee (f := 37) rfl ?_); refine gq_ (some 16) rfl rfl Try.func37 #[.agg #[.int .i64 (-5), .int .i64 2], .int .i64 6] rfl ?_; (with_reducible refine (rounding_Cents.calls k (-5) 2 6 t158 t159 _ A2.out).mono ?_); rintro e w38 ⟨rfl, hb⟩; refine ⟨_, rfl, ?_⟩; replace HB := ts_ HB hb; (try clear hb); (try clear hb2); (try clear hk); (try clear hi)) | ((with_reducible refine gate_dst (N := 20) rfl ?_); (try (refine gate_guard (by rfl) ?_; dsimp only)); refine Kd.R_lit (Kd.int .i64) _ 3 ?hg (N := 20) ?hd (xs := ([1, 1, 1] : List Int)) (inner := [.int .i64 1, .int .i64 1, .int .i64 1]) (ok := fun _ => True) (okp := fun _ => True) ?hr ?hp (fun _ hk => hk) trivial (Below.refl _ _) (Nat.le_refl _) (by simp) ?_; (case hd => rfl); (case hg => rfl); (case hr => first | (go_simp; done) | (go_simp; rfl)); (case hp => exact (Reps.one (show Kd.M (Kd.int .i64) _ _ _ 1 [.int .i64 1] from rfl) (Reps.one (show Kd.M (Kd.int .i64) _ _ _ 1 [.int .i64 1] from rfl) (Reps.one (show Kd.M (Kd.int .i64) _ _ _ 1 [.int .i64 1] from rfl) (Reps.none _ _))))); intro v161 w39 ho40 hb hg_ hnew_; clear hg_ hnew_; (first | rw [← Ny160.out] at ho40 | (simp only [Int.reduceToNat] at ho40; rw [← Ny160.out] at ho40)); have HO162 := Aside0.mk (Kd.R_lower ho40 (below_size (be_ HB))); replace HB := ts_ HB hb; clear hb ho40; obtain ⟨Ao41, co41, eo41⟩ := Kd.R_slice HO162.out; subst eo41) | ((with_reducible refine gate_callee (f := 15) rfl ?_); refine gq_ (some 21) rfl rfl Try.func15 #[.int .i64 (-100), .slice Ao41 y160.length co41] rfl ?_; (with_reducible refine (rounding_Allocate.calls k (-100) _ _ y160 t163 t164 _ ?side1 ?side2 A3.out).mono ?_); (case side1 => repeat (first | exact (Kd.R_reads' HO162.out).2.2 | (with_reducible refine Kd.C_alloc ?_ _) | (with_reducible refine Kd.C_drewN ?_ _) | (with_reducible refine Kd.C_drew ?_))); (case side2 => exact (Kd.R_reads' HO162.out).2.1); rintro e w42 ⟨v165, rfl, ho0, hb⟩; refine ⟨_, rfl, ?_⟩; have HO166 := Aside0.mk (Kd.R_lower (Kd.R_new' ho0 (Kd.R_lt (re_ HO162))) (below_size (be_ HB))); replace HO162 := Aside0.mk (Kd.R_elder' (re_ HO162) (Kd.R_base ho0) hb); replace HB := ts_ HB hb; (try clear hb); (try clear hb2); (try clear hk); (try clear hi); (try clear ho0)) | ((with_reducible refine gate_callee (f := 18) rfl ?_); refine gq_ (some 25) rfl rfl Try.func18 #[.int .i64 10, .int .i64 1, .int .i64 4, .int .i64 1, .int .i64 6] rfl ?_; (with_reducible refine (rounding_Part.calls k 10 1 4 1 6 t167 t168 _ A4.out).mono ?_); rintro e w' ⟨rfl, ⟨nd, rfl⟩⟩; refine ⟨_, rfl, ?_⟩; obtain ⟨Ao43, co43, eo43⟩ := Kd.R_slice HO166.out; subst eo43; have p169 : 0 ≤ (0 : Int) := (by omega); have q169 : 0 < (t163.length : Int) := of_decide_eq_true (by first | (with_reducible assumption) | assumption); obtain ⟨ad169, e169, hx169_0⟩ := Kd.at_int (Kd.R_reads' HO166.out).2.2 0 p169 q169; cases e169; have qi169 : (0 < t163.length) = True := eq_true (by omega); (try rw [show ((0 : Int)).toNat = 0 from rfl] at hx169_0); (try rw [Addr.add_zero'] at hx169_0); replace p169 := eq_true p169; replace q169 := eq_true q169))
         go_ret
         exact ⟨by first | rfl | (simp [errW_none, errW_some] <;> rfl) | (simp [*, errW_none, errW_some] <;> rfl), be_ HB⟩
       ·
        rw [if_neg c11] at H
        exact absurd H (by simp)
      ·
       rw [if_neg c10] at H
       have c10b0 : ((t163.length : Int) == 3) = false := beq_eq_false_iff_ne.mpr c10
       have c10b1 : ((t163.length : Int) != 3) = true := bne_iff_ne.mpr c10
       obtain rfl := Option.some.inj H
       go_enter Try.func17, Try.ntmps17
       go_wp2_with (first | ((with_reducible refine gate_callee (f := 37) rfl ?_); refine gq_ (some 11) rfl rfl Try.func37 #[.agg #[.int .i64 5, .int .i64 2], .int .i64 4] rfl ?_; (with_reducible refine (rounding_Cents.calls k 5 2 4 t156 t157 _ A1.out).mono ?_); rintro e w44 ⟨rfl, hb⟩; refine ⟨_, rfl, ?_⟩; replace HB := ts_ HB hb; (try clear hb); (try clear hb2); (try clear hk); (try clear hi)) | ((with_reducible refine gate_callee (f := 37) rfl ?_); refine gq_ (some 16) rfl rfl Try.func37 #[.agg #[.int .i64 (-5), .int .i64 2], .int .i64 6] rfl ?_; (with_reducible refine (rounding_Cents.calls k (-5) 2 6 t158 t159 _ A2.out).mono ?_); rintro e w45 ⟨rfl, hb⟩; refine ⟨_, rfl, ?_⟩; replace HB := ts_ HB hb; (try clear hb); (try clear hb2); (try clear hk); (try clear hi)) | ((with_reducible refine gate_dst (N := 20) rfl ?_); (try (refine gate_guard (by rfl) ?_; dsimp only)); refine Kd.R_lit (Kd.int .i64) _ 3 ?hg (N := 20) ?hd (xs := ([1, 1, 1] : List Int)) (inner := [.int .i64 1, .int .i64 1, .int .i64 1]) (ok := fun _ => True) (okp := fun _ => True) ?hr ?hp (fun _ hk => hk) trivial (Below.refl _ _) (Nat.le_refl _) (by simp) ?_; (case hd => rfl); (case hg => rfl); (case hr => first | (go_simp; done) | (go_simp; rfl)); (case hp => exact (Reps.one (show Kd.M (Kd.int .i64) _ _ _ 1 [.int .i64 1] from rfl) (Reps.one (show Kd.M (Kd.int .i64) _ _ _ 1 [.int .i64 1] from rfl) (Reps.one (show Kd.M (Kd.int .i64) _ _ _ 1 [.int .i64 1] from rfl) (Reps.none _ _))))); intro v161 w46 ho47 hb hg_ hnew_; clear hg_ hnew_; (first | rw [← Ny160.out] at ho47 | (simp only [Int.reduceToNat] at ho47; rw [← Ny160.out] at ho47)); have HO162 := Aside0.mk (Kd.R_lower ho47 (below_size (be_ HB))); replace HB := ts_ HB hb; clear hb ho47; obtain ⟨Ao48, co48, eo48⟩ := Kd.R_slice HO162.out; subst eo48) | ((with_reducible refine gate_callee (f := 15) rfl ?_); refine gq_ (some 21) rfl rfl Try.func15 #[.int .i64 (-100), .slice Ao48 y160.length co48] rfl ?_; (with_reducible refine (rounding_Allocate.calls k (-100) _ _ y160 t163 t164 _ ?side1 ?side2 A3.out).mono ?_); (case side1 => repeat (first | exact (Kd.R_reads' HO162.out).2.2 | (with_reducible refine Kd.C_alloc ?_ _) | (with_reducible refine Kd.C_drewN ?_ _) | (with_reducible refine Kd.C_drew ?_))); (case side2 => exact (Kd.R_reads' HO162.out).2.1); rintro e w49 ⟨v165, rfl, ho0, hb⟩; refine ⟨_, rfl, ?_⟩; have HO166 := Aside0.mk (Kd.R_lower (Kd.R_new' ho0 (Kd.R_lt (re_ HO162))) (below_size (be_ HB))); replace HO162 := Aside0.mk (Kd.R_elder' (re_ HO162) (Kd.R_base ho0) hb); replace HB := ts_ HB hb; (try clear hb); (try clear hb2); (try clear hk); (try clear hi); (try clear ho0)) | ((with_reducible refine gate_callee (f := 18) rfl ?_); refine gq_ (some 25) rfl rfl Try.func18 #[.int .i64 10, .int .i64 1, .int .i64 4, .int .i64 1, .int .i64 6] rfl ?_; (with_reducible refine (rounding_Part.calls k 10 1 4 1 6 t167 t168 _ A4.out).mono ?_); rintro e w' ⟨rfl, ⟨nd, rfl⟩⟩; refine ⟨_, rfl, ?_⟩; obtain ⟨Ao50, co50, eo50⟩ := Kd.R_slice HO166.out; subst eo50))
       go_ret
       exact ⟨by first | rfl | (simp [errW_none, errW_some] <;> rfl) | (simp [*, errW_none, errW_some] <;> rfl), be_ HB⟩
     ·
      rw [if_neg c9] at H
      have c9b0 : (t164 == 0) = false := beq_eq_false_iff_ne.mpr c9
      have c9b1 : (t164 != 0) = true := bne_iff_ne.mpr c9
      obtain rfl := Option.some.inj H
      go_enter Try.func17, Try.ntmps17
      go_wp2_with (first | ((with_reducible refine gate_callee (f := 37) rfl ?_); refine gq_ (some 11) rfl rfl Try.func37 #[.agg #[.int .i64 5, .int .i64 2], .int .i64 4] rfl ?_; (with_reducible refine (rounding_Cents.calls k 5 2 4 t156 t157 _ A1.out).mono ?_); rintro e w51 ⟨rfl, hb⟩; refine ⟨_, rfl, ?_⟩; replace HB := ts_ HB hb; (try clear hb); (try clear hb2); (try clear hk); (try clear hi)) | ((with_reducible refine gate_callee (f := 37) rfl ?_); refine gq_ (some 16) rfl rfl Try.func37 #[.agg #[.int .i64 (-5), .int .i64 2], .int .i64 6] rfl ?_; (with_reducible refine (rounding_Cents.calls k (-5) 2 6 t158 t159 _ A2.out).mono ?_); rintro e w52 ⟨rfl, hb⟩; refine ⟨_, rfl, ?_⟩; replace HB := ts_ HB hb; (try clear hb); (try clear hb2); (try clear hk); (try clear hi)) | ((with_reducible refine gate_dst (N := 20) rfl ?_); (try (refine gate_guard (by rfl) ?_; dsimp only)); refine Kd.R_lit (Kd.int .i64) _ 3 ?hg (N := 20) ?hd (xs := ([1, 1, 1] : List Int)) (inner := [.int .i64 1, .int .i64 1, .int .i64 1]) (ok := fun _ => True) (okp := fun _ => True) ?hr ?hp (fun _ hk => hk) trivial (Below.refl _ _) (Nat.le_refl _) (by simp) ?_; (case hd => rfl); (case hg => rfl); (case hr => first | (go_simp; done) | (go_simp; rfl)); (case hp => exact (Reps.one (show Kd.M (Kd.int .i64) _ _ _ 1 [.int .i64 1] from rfl) (Reps.one (show Kd.M (Kd.int .i64) _ _ _ 1 [.int .i64 1] from rfl) (Reps.one (show Kd.M (Kd.int .i64) _ _ _ 1 [.int .i64 1] from rfl) (Reps.none _ _))))); intro v161 w53 ho54 hb hg_ hnew_; clear hg_ hnew_; (first | rw [← Ny160.out] at ho54 | (simp only [Int.reduceToNat] at ho54; rw [← Ny160.out] at ho54)); have HO162 := Aside0.mk (Kd.R_lower ho54 (below_size (be_ HB))); replace HB := ts_ HB hb; clear hb ho54; obtain ⟨Ao55, co55, eo55⟩ := Kd.R_slice HO162.out; subst eo55) | ((with_reducible refine gate_callee (f := 15) rfl ?_); refine gq_ (some 21) rfl rfl Try.func15 #[.int .i64 (-100), .slice Ao55 y160.length co55] rfl ?_; (with_reducible refine (rounding_Allocate.calls k (-100) _ _ y160 t163 t164 _ ?side1 ?side2 A3.out).mono ?_); (case side1 => repeat (first | exact (Kd.R_reads' HO162.out).2.2 | (with_reducible refine Kd.C_alloc ?_ _) | (with_reducible refine Kd.C_drewN ?_ _) | (with_reducible refine Kd.C_drew ?_))); (case side2 => exact (Kd.R_reads' HO162.out).2.1); rintro e w56 ⟨v165, rfl, ho0, hb⟩; refine ⟨_, rfl, ?_⟩; have HO166 := Aside0.mk (Kd.R_lower (Kd.R_new' ho0 (Kd.R_lt (re_ HO162))) (below_size (be_ HB))); replace HO162 := Aside0.mk (Kd.R_elder' (re_ HO162) (Kd.R_base ho0) hb); replace HB := ts_ HB hb; (try clear hb); (try clear hb2); (try clear hk); (try clear hi); (try clear ho0)) | ((with_reducible refine gate_callee (f := 18) rfl ?_); refine gq_ (some 25) rfl rfl Try.func18 #[.int .i64 10, .int .i64 1, .int .i64 4, .int .i64 1, .int .i64 6] rfl ?_; (with_reducible refine (rounding_Part.calls k 10 1 4 1 6 t167 t168 _ A4.out).mono ?_); rintro e w' ⟨rfl, ⟨nd, rfl⟩⟩; refine ⟨_, rfl, ?_⟩))
      go_ret
      exact ⟨by first | rfl | (simp [errW_none, errW_some] <;> rfl) | (simp [*, errW_none, errW_some] <;> rfl), be_ HB⟩
    ·
     rw [if_neg c8] at H
     have c8b0 : (t158 == (-2)) = false := beq_eq_false_iff_ne.mpr c8
     have c8b1 : (t158 != (-2)) = true := bne_iff_ne.mpr c8
     obtain rfl := Option.some.inj H
     go_enter Try.func17, Try.ntmps17
     go_wp2_with (first | ((with_reducible refine gate_callee (f := 37) rfl ?_); refine gq_ (some 11) rfl rfl Try.func37 #[.agg #[.int .i64 5, .int .i64 2], .int .i64 4] rfl ?_; (with_reducible refine (rounding_Cents.calls k 5 2 4 t156 t157 _ A1.out).mono ?_); rintro e w57 ⟨rfl, hb⟩; refine ⟨_, rfl, ?_⟩; replace HB := ts_ HB hb; (try clear hb); (try clear hb2); (try clear hk); (try clear hi)) | ((with_reducible refine gate_callee (f := 37) rfl ?_); refine gq_ (some 16) rfl rfl Try.func37 #[.agg #[.int .i64 (-5), .int .i64 2], .int .i64 6] rfl ?_; (with_reducible refine (rounding_Cents.calls k (-5) 2 6 t158 t159 _ A2.out).mono ?_); rintro e w58 ⟨rfl, hb⟩; refine ⟨_, rfl, ?_⟩; replace HB := ts_ HB hb; (try clear hb); (try clear hb2); (try clear hk); (try clear hi)) | ((with_reducible refine gate_dst (N := 20) rfl ?_); (try (refine gate_guard (by rfl) ?_; dsimp only)); refine Kd.R_lit (Kd.int .i64) _ 3 ?hg (N := 20) ?hd (xs := ([1, 1, 1] : List Int)) (inner := [.int .i64 1, .int .i64 1, .int .i64 1]) (ok := fun _ => True) (okp := fun _ => True) ?hr ?hp (fun _ hk => hk) trivial (Below.refl _ _) (Nat.le_refl _) (by simp) ?_; (case hd => rfl); (case hg => rfl); (case hr => first | (go_simp; done) | (go_simp; rfl)); (case hp => exact (Reps.one (show Kd.M (Kd.int .i64) _ _ _ 1 [.int .i64 1] from rfl) (Reps.one (show Kd.M (Kd.int .i64) _ _ _ 1 [.int .i64 1] from rfl) (Reps.one (show Kd.M (Kd.int .i64) _ _ _ 1 [.int .i64 1] from rfl) (Reps.none _ _))))); intro v161 w59 ho60 hb hg_ hnew_; clear hg_ hnew_; (first | rw [← Ny160.out] at ho60 | (simp only [Int.reduceToNat] at ho60; rw [← Ny160.out] at ho60)); have HO162 := Aside0.mk (Kd.R_lower ho60 (below_size (be_ HB))); replace HB := ts_ HB hb; clear hb ho60; obtain ⟨Ao61, co61, eo61⟩ := Kd.R_slice HO162.out; subst eo61) | ((with_reducible refine gate_callee (f := 15) rfl ?_); refine gq_ (some 21) rfl rfl Try.func15 #[.int .i64 (-100), .slice Ao61 y160.length co61] rfl ?_; (with_reducible refine (rounding_Allocate.calls k (-100) _ _ y160 t163 t164 _ ?side1 ?side2 A3.out).mono ?_); (case side1 => repeat (first | exact (Kd.R_reads' HO162.out).2.2 | (with_reducible refine Kd.C_alloc ?_ _) | (with_reducible refine Kd.C_drewN ?_ _) | (with_reducible refine Kd.C_drew ?_))); (case side2 => exact (Kd.R_reads' HO162.out).2.1); rintro e w62 ⟨v165, rfl, ho0, hb⟩; refine ⟨_, rfl, ?_⟩; have HO166 := Aside0.mk (Kd.R_lower (Kd.R_new' ho0 (Kd.R_lt (re_ HO162))) (below_size (be_ HB))); replace HO162 := Aside0.mk (Kd.R_elder' (re_ HO162) (Kd.R_base ho0) hb); replace HB := ts_ HB hb; (try clear hb); (try clear hb2); (try clear hk); (try clear hi); (try clear ho0)) | ((with_reducible refine gate_callee (f := 18) rfl ?_); refine gq_ (some 25) rfl rfl Try.func18 #[.int .i64 10, .int .i64 1, .int .i64 4, .int .i64 1, .int .i64 6] rfl ?_; (with_reducible refine (rounding_Part.calls k 10 1 4 1 6 t167 t168 _ A4.out).mono ?_); rintro e w' ⟨rfl, ⟨nd, rfl⟩⟩; refine ⟨_, rfl, ?_⟩))
     go_ret
     exact ⟨by first | rfl | (simp [errW_none, errW_some] <;> rfl) | (simp [*, errW_none, errW_some] <;> rfl), be_ HB⟩
   ·
    rw [if_neg c7] at H
    have c7b0 : (t159 == 0) = false := beq_eq_false_iff_ne.mpr c7
    have c7b1 : (t159 != 0) = true := bne_iff_ne.mpr c7
    obtain rfl := Option.some.inj H
    go_enter Try.func17, Try.ntmps17
    go_wp2_with (first | ((with_reducible refine gate_callee (f := 37) rfl ?_); refine gq_ (some 11) rfl rfl Try.func37 #[.agg #[.int .i64 5, .int .i64 2], .int .i64 4] rfl ?_; (with_reducible refine (rounding_Cents.calls k 5 2 4 t156 t157 _ A1.out).mono ?_); rintro e w63 ⟨rfl, hb⟩; refine ⟨_, rfl, ?_⟩; replace HB := ts_ HB hb; (try clear hb); (try clear hb2); (try clear hk); (try clear hi)) | ((with_reducible refine gate_callee (f := 37) rfl ?_); refine gq_ (some 16) rfl rfl Try.func37 #[.agg #[.int .i64 (-5), .int .i64 2], .int .i64 6] rfl ?_; (with_reducible refine (rounding_Cents.calls k (-5) 2 6 t158 t159 _ A2.out).mono ?_); rintro e w64 ⟨rfl, hb⟩; refine ⟨_, rfl, ?_⟩; replace HB := ts_ HB hb; (try clear hb); (try clear hb2); (try clear hk); (try clear hi)) | ((with_reducible refine gate_dst (N := 20) rfl ?_); (try (refine gate_guard (by rfl) ?_; dsimp only)); refine Kd.R_lit (Kd.int .i64) _ 3 ?hg (N := 20) ?hd (xs := ([1, 1, 1] : List Int)) (inner := [.int .i64 1, .int .i64 1, .int .i64 1]) (ok := fun _ => True) (okp := fun _ => True) ?hr ?hp (fun _ hk => hk) trivial (Below.refl _ _) (Nat.le_refl _) (by simp) ?_; (case hd => rfl); (case hg => rfl); (case hr => first | (go_simp; done) | (go_simp; rfl)); (case hp => exact (Reps.one (show Kd.M (Kd.int .i64) _ _ _ 1 [.int .i64 1] from rfl) (Reps.one (show Kd.M (Kd.int .i64) _ _ _ 1 [.int .i64 1] from rfl) (Reps.one (show Kd.M (Kd.int .i64) _ _ _ 1 [.int .i64 1] from rfl) (Reps.none _ _))))); intro v161 w65 ho66 hb hg_ hnew_; clear hg_ hnew_; (first | rw [← Ny160.out] at ho66 | (simp only [Int.reduceToNat] at ho66; rw [← Ny160.out] at ho66)); have HO162 := Aside0.mk (Kd.R_lower ho66 (below_size (be_ HB))); replace HB := ts_ HB hb; clear hb ho66; obtain ⟨Ao67, co67, eo67⟩ := Kd.R_slice HO162.out; subst eo67) | ((with_reducible refine gate_callee (f := 15) rfl ?_); refine gq_ (some 21) rfl rfl Try.func15 #[.int .i64 (-100), .slice Ao67 y160.length co67] rfl ?_; (with_reducible refine (rounding_Allocate.calls k (-100) _ _ y160 t163 t164 _ ?side1 ?side2 A3.out).mono ?_); (case side1 => repeat (first | exact (Kd.R_reads' HO162.out).2.2 | (with_reducible refine Kd.C_alloc ?_ _) | (with_reducible refine Kd.C_drewN ?_ _) | (with_reducible refine Kd.C_drew ?_))); (case side2 => exact (Kd.R_reads' HO162.out).2.1); rintro e w68 ⟨v165, rfl, ho0, hb⟩; refine ⟨_, rfl, ?_⟩; have HO166 := Aside0.mk (Kd.R_lower (Kd.R_new' ho0 (Kd.R_lt (re_ HO162))) (below_size (be_ HB))); replace HO162 := Aside0.mk (Kd.R_elder' (re_ HO162) (Kd.R_base ho0) hb); replace HB := ts_ HB hb; (try clear hb); (try clear hb2); (try clear hk); (try clear hi); (try clear ho0)) | ((with_reducible refine gate_callee (f := 18) rfl ?_); refine gq_ (some 25) rfl rfl Try.func18 #[.int .i64 10, .int .i64 1, .int .i64 4, .int .i64 1, .int .i64 6] rfl ?_; (with_reducible refine (rounding_Part.calls k 10 1 4 1 6 t167 t168 _ A4.out).mono ?_); rintro e w' ⟨rfl, ⟨nd, rfl⟩⟩; refine ⟨_, rfl, ?_⟩))
    go_ret
    exact ⟨by first | rfl | (simp [errW_none, errW_some] <;> rfl) | (simp [*, errW_none, errW_some] <;> rfl), be_ HB⟩
  ·
   rw [if_neg c6] at H
   have c6b0 : (t156 == 3) = false := beq_eq_false_iff_ne.mpr c6
   have c6b1 : (t156 != 3) = true := bne_iff_ne.mpr c6
   obtain rfl := Option.some.inj H
   go_enter Try.func17, Try.ntmps17
   go_wp2_with (first | ((with_reducible refine gate_callee (f := 37) rfl ?_); refine gq_ (some 11) rfl rfl Try.func37 #[.agg #[.int .i64 5, .int .i64 2], .int .i64 4] rfl ?_; (with_reducible refine (rounding_Cents.calls k 5 2 4 t156 t157 _ A1.out).mono ?_); rintro e w69 ⟨rfl, hb⟩; refine ⟨_, rfl, ?_⟩; replace HB := ts_ HB hb; (try clear hb); (try clear hb2); (try clear hk); (try clear hi)) | ((with_reducible refine gate_callee (f := 37) rfl ?_); refine gq_ (some 16) rfl rfl Try.func37 #[.agg #[.int .i64 (-5), .int .i64 2], .int .i64 6] rfl ?_; (with_reducible refine (rounding_Cents.calls k (-5) 2 6 t158 t159 _ A2.out).mono ?_); rintro e w70 ⟨rfl, hb⟩; refine ⟨_, rfl, ?_⟩; replace HB := ts_ HB hb; (try clear hb); (try clear hb2); (try clear hk); (try clear hi)) | ((with_reducible refine gate_dst (N := 20) rfl ?_); (try (refine gate_guard (by rfl) ?_; dsimp only)); refine Kd.R_lit (Kd.int .i64) _ 3 ?hg (N := 20) ?hd (xs := ([1, 1, 1] : List Int)) (inner := [.int .i64 1, .int .i64 1, .int .i64 1]) (ok := fun _ => True) (okp := fun _ => True) ?hr ?hp (fun _ hk => hk) trivial (Below.refl _ _) (Nat.le_refl _) (by simp) ?_; (case hd => rfl); (case hg => rfl); (case hr => first | (go_simp; done) | (go_simp; rfl)); (case hp => exact (Reps.one (show Kd.M (Kd.int .i64) _ _ _ 1 [.int .i64 1] from rfl) (Reps.one (show Kd.M (Kd.int .i64) _ _ _ 1 [.int .i64 1] from rfl) (Reps.one (show Kd.M (Kd.int .i64) _ _ _ 1 [.int .i64 1] from rfl) (Reps.none _ _))))); intro v161 w71 ho72 hb hg_ hnew_; clear hg_ hnew_; (first | rw [← Ny160.out] at ho72 | (simp only [Int.reduceToNat] at ho72; rw [← Ny160.out] at ho72)); have HO162 := Aside0.mk (Kd.R_lower ho72 (below_size (be_ HB))); replace HB := ts_ HB hb; clear hb ho72; obtain ⟨Ao73, co73, eo73⟩ := Kd.R_slice HO162.out; subst eo73) | ((with_reducible refine gate_callee (f := 15) rfl ?_); refine gq_ (some 21) rfl rfl Try.func15 #[.int .i64 (-100), .slice Ao73 y160.length co73] rfl ?_; (with_reducible refine (rounding_Allocate.calls k (-100) _ _ y160 t163 t164 _ ?side1 ?side2 A3.out).mono ?_); (case side1 => repeat (first | exact (Kd.R_reads' HO162.out).2.2 | (with_reducible refine Kd.C_alloc ?_ _) | (with_reducible refine Kd.C_drewN ?_ _) | (with_reducible refine Kd.C_drew ?_))); (case side2 => exact (Kd.R_reads' HO162.out).2.1); rintro e w74 ⟨v165, rfl, ho0, hb⟩; refine ⟨_, rfl, ?_⟩; have HO166 := Aside0.mk (Kd.R_lower (Kd.R_new' ho0 (Kd.R_lt (re_ HO162))) (below_size (be_ HB))); replace HO162 := Aside0.mk (Kd.R_elder' (re_ HO162) (Kd.R_base ho0) hb); replace HB := ts_ HB hb; (try clear hb); (try clear hb2); (try clear hk); (try clear hi); (try clear ho0)) | ((with_reducible refine gate_callee (f := 18) rfl ?_); refine gq_ (some 25) rfl rfl Try.func18 #[.int .i64 10, .int .i64 1, .int .i64 4, .int .i64 1, .int .i64 6] rfl ?_; (with_reducible refine (rounding_Part.calls k 10 1 4 1 6 t167 t168 _ A4.out).mono ?_); rintro e w' ⟨rfl, ⟨nd, rfl⟩⟩; refine ⟨_, rfl, ?_⟩))
   go_ret
   exact ⟨by first | rfl | (simp [errW_none, errW_some] <;> rfl) | (simp [*, errW_none, errW_some] <;> rfl), be_ HB⟩
 ·
  rw [if_neg c5] at H
  have c5b0 : (t157 == 0) = false := beq_eq_false_iff_ne.mpr c5
  have c5b1 : (t157 != 0) = true := bne_iff_ne.mpr c5
  obtain rfl := Option.some.inj H
  go_enter Try.func17, Try.ntmps17
  go_wp2_with (first | ((with_reducible refine gate_callee (f := 37) rfl ?_); refine gq_ (some 11) rfl rfl Try.func37 #[.agg #[.int .i64 5, .int .i64 2], .int .i64 4] rfl ?_; (with_reducible refine (rounding_Cents.calls k 5 2 4 t156 t157 _ A1.out).mono ?_); rintro e w75 ⟨rfl, hb⟩; refine ⟨_, rfl, ?_⟩; replace HB := ts_ HB hb; (try clear hb); (try clear hb2); (try clear hk); (try clear hi)) | ((with_reducible refine gate_callee (f := 37) rfl ?_); refine gq_ (some 16) rfl rfl Try.func37 #[.agg #[.int .i64 (-5), .int .i64 2], .int .i64 6] rfl ?_; (with_reducible refine (rounding_Cents.calls k (-5) 2 6 t158 t159 _ A2.out).mono ?_); rintro e w76 ⟨rfl, hb⟩; refine ⟨_, rfl, ?_⟩; replace HB := ts_ HB hb; (try clear hb); (try clear hb2); (try clear hk); (try clear hi)) | ((with_reducible refine gate_dst (N := 20) rfl ?_); (try (refine gate_guard (by rfl) ?_; dsimp only)); refine Kd.R_lit (Kd.int .i64) _ 3 ?hg (N := 20) ?hd (xs := ([1, 1, 1] : List Int)) (inner := [.int .i64 1, .int .i64 1, .int .i64 1]) (ok := fun _ => True) (okp := fun _ => True) ?hr ?hp (fun _ hk => hk) trivial (Below.refl _ _) (Nat.le_refl _) (by simp) ?_; (case hd => rfl); (case hg => rfl); (case hr => first | (go_simp; done) | (go_simp; rfl)); (case hp => exact (Reps.one (show Kd.M (Kd.int .i64) _ _ _ 1 [.int .i64 1] from rfl) (Reps.one (show Kd.M (Kd.int .i64) _ _ _ 1 [.int .i64 1] from rfl) (Reps.one (show Kd.M (Kd.int .i64) _ _ _ 1 [.int .i64 1] from rfl) (Reps.none _ _))))); intro v161 w77 ho78 hb hg_ hnew_; clear hg_ hnew_; (first | rw [← Ny160.out] at ho78 | (simp only [Int.reduceToNat] at ho78; rw [← Ny160.out] at ho78)); have HO162 := Aside0.mk (Kd.R_lower ho78 (below_size (be_ HB))); replace HB := ts_ HB hb; clear hb ho78; obtain ⟨Ao79, co79, eo79⟩ := Kd.R_slice HO162.out; subst eo79) | ((with_reducible refine gate_callee (f := 15) rfl ?_); refine gq_ (some 21) rfl rfl Try.func15 #[.int .i64 (-100), .slice Ao79 y160.length co79] rfl ?_; (with_reducible refine (rounding_Allocate.calls k (-100) _ _ y160 t163 t164 _ ?side1 ?side2 A3.out).mono ?_); (case side1 => repeat (first | exact (Kd.R_reads' HO162.out).2.2 | (with_reducible refine Kd.C_alloc ?_ _) | (with_reducible refine Kd.C_drewN ?_ _) | (with_reducible refine Kd.C_drew ?_))); (case side2 => exact (Kd.R_reads' HO162.out).2.1); rintro e w80 ⟨v165, rfl, ho0, hb⟩; refine ⟨_, rfl, ?_⟩; have HO166 := Aside0.mk (Kd.R_lower (Kd.R_new' ho0 (Kd.R_lt (re_ HO162))) (below_size (be_ HB))); replace HO162 := Aside0.mk (Kd.R_elder' (re_ HO162) (Kd.R_base ho0) hb); replace HB := ts_ HB hb; (try clear hb); (try clear hb2); (try clear hk); (try clear hi); (try clear ho0)) | ((with_reducible refine gate_callee (f := 18) rfl ?_); refine gq_ (some 25) rfl rfl Try.func18 #[.int .i64 10, .int .i64 1, .int .i64 4, .int .i64 1, .int .i64 6] rfl ?_; (with_reducible refine (rounding_Part.calls k 10 1 4 1 6 t167 t168 _ A4.out).mono ?_); rintro e w' ⟨rfl, ⟨nd, rfl⟩⟩; refine ⟨_, rfl, ?_⟩))
  go_ret
  exact ⟨by first | rfl | (simp [errW_none, errW_some] <;> rfl) | (simp [*, errW_none, errW_some] <;> rfl), be_ HB⟩

/-! ### payrollref1_size: function 47 -/
def payrollref1_size.f (a0 : Int) : Option (Int) := if a0 < 0 then (some (IntKind.u64.wrap ((IntKind.u64.wrap (wrap64 (-(wrap64 (a0 + 1))))) + 1))) else (some (IntKind.u64.wrap (a0)))
set_option maxHeartbeats 8000000 in
set_option maxRecDepth 100000 in
theorem payrollref1_size.calls (a0 : Int) (r : Int) (w : World) (h : payrollref1_size.f a0 = some r) :
 Calls Try.prog 47 #[.int .i64 a0] w fun e w' => e = .returned (.int .u64 r) ∧ Drawn0 w w' := by
 have H : (if a0 < 0 then (some (IntKind.u64.wrap ((IntKind.u64.wrap (wrap64 (-(wrap64 (a0 + 1))))) + 1))) else (some (IntKind.u64.wrap (a0)))) = some r := h
 clear h
 by_cases c2 : a0 < 0
 ·
  rw [if_pos c2] at H
  have c2b0 : decide (a0 < 0) = true := decide_eq_true c2
  clear c2
  obtain rfl := Option.some.inj H
  go_enter Try.func47, Try.ntmps47
  go_wp2
  go_ret
  exact ⟨by first | rfl | (simp; done) | (simp [*]; done), by repeat (first | exact Drawn0.refl _ | apply Drawn0.step)⟩
 ·
  rw [if_neg c2] at H
  have c2b0 : decide (a0 < 0) = false := decide_eq_false c2
  clear c2
  obtain rfl := Option.some.inj H
  go_enter Try.func47, Try.ntmps47
  go_wp2
  go_ret
  exact ⟨by first | rfl | (simp; done) | (simp [*]; done), by repeat (first | exact Drawn0.refl _ | apply Drawn0.step)⟩

/-! ### payrollref1_common: function 48 -/
def payrollref1_common.l0 : Nat → Int → Int → Option (Int)
 | 0, _, _ => none
 | k + 1, x0, x1 => if x1 = 0 then (some x0) else (payrollref1_common.l0 k x1 (Int.tmod x0 x1))
def payrollref1_common.f (k : Nat) (a0 : Int) (a1 : Int) : Option (Int) := payrollref1_common.l0 k a0 a1
theorem payrollref1_common.mono_l : ∀ k, (∀ y0 y1, LeO (payrollref1_common.l0 k y0 y1) (payrollref1_common.l0 (k + 1) y0 y1))
 | 0 => fun _ _ r h => by simp [payrollref1_common.l0] at h
 | k + 1 => by
  have ih0 := payrollref1_common.mono_l k
  ·
   intro y0 y1
   unfold payrollref1_common.l0
   repeat' first
   | (with_reducible exact ih0 _ _)
   | (with_reducible exact LeO.refl _)
   | (with_reducible exact LeO.none _)
   | (with_reducible refine LeO.ite ?_ ?_)
   | (with_reducible refine LeO.bind ?_ (fun _ => ?_))
   | exact ih0 _ _
   | exact LeO.none _
   | refine LeO.ite ?_ ?_
   | refine LeO.bind ?_ (fun _ => ?_)
theorem payrollref1_common.mono : ∀ a0 a1 k, LeO (payrollref1_common.f k a0 a1) (payrollref1_common.f (k + 1) a0 a1) := by
 intro a0 a1 k
 have ih0 := payrollref1_common.mono_l k
 unfold payrollref1_common.f
 repeat' first
  | (with_reducible exact ih0 _ _)
  | (with_reducible exact LeO.refl _)
  | (with_reducible exact LeO.none _)
  | (with_reducible refine LeO.ite ?_ ?_)
  | (with_reducible refine LeO.bind ?_ (fun _ => ?_))
  | exact ih0 _ _
  | exact LeO.none _
  | refine LeO.ite ?_ ?_
  | refine LeO.bind ?_ (fun _ => ?_)
set_option maxHeartbeats 8000000 in
set_option maxRecDepth 100000 in
theorem payrollref1_common.calls (k : Nat) (a0 : Int) (a1 : Int) (r : Int) (w : World) (h : payrollref1_common.f k a0 a1 = some r) :
 Calls Try.prog 48 #[.int .u64 a0, .int .u64 a1] w fun e w' => e = .returned (.int .u64 r) ∧ Drawn0 w w' := by
 have H : (payrollref1_common.l0 k a0 a1) = some r := h
 clear h
 have H' := Aside0.mk H
 clear H
 go_enter Try.func48, Try.ntmps48
 go_wp2
 repeat (go_quiet (fail); try go_wp2)
 go_loopg [0, 1] k (fun kq v0 v1 w' => ∃ (x0_1 : Int) (x1_1 : Int), v0 = .int .u64 x0_1 ∧ v1 = .int .u64 x1_1 ∧ Aside0 (payrollref1_common.l0 kq x0_1 x1_1 = some r) ∧ Aside0 (kq ≤ k) ∧ Drawn0 w w')
 case atStart => exact ⟨(a0), (a1), (by first | rfl | (simp; done) | (simp [*]; done)), (by first | rfl | (simp; done) | (simp [*]; done)), H', ⟨Nat.le_refl _⟩, by repeat (first | exact Drawn0.refl _ | apply Drawn0.step)⟩
 case round =>
  clear H'
  try clear p2
  obtain ⟨x0_1, x1_1, rfl, rfl, HA, HK1, ⟨m1, rfl⟩⟩ := hrel
  cases gk with
  | zero => exact absurd HA.out (by simp [payrollref1_common.l0])
  | succ k1 =>
   have H := HA.out
   clear HA
   simp only [payrollref1_common.l0] at H
   by_cases c3 : x1_1 = 0
   ·
    rw [if_pos c3] at H
    have c3b0 : (x1_1 == 0) = true := beq_iff_eq.mpr c3
    have c3b1 : (x1_1 != 0) = false := bne_eq_false_iff_eq.mpr c3
    clear c3
    obtain rfl := Option.some.inj H
    go_wp2
    repeat (go_quiet (fail); try go_wp2)
    go_ret
    exact ⟨by first | rfl | (simp; done) | (simp [*]; done), by repeat (first | exact Drawn0.refl _ | apply Drawn0.step)⟩
   ·
    rw [if_neg c3] at H
    have c3b0 : (x1_1 == 0) = false := beq_eq_false_iff_ne.mpr c3
    have c3b1 : (x1_1 != 0) = true := bne_iff_ne.mpr c3
    have H' := Aside0.mk H
    clear H
    go_wp2
    repeat (go_quiet (fail); try go_wp2)
    go_roundg k1
    case measure => have := HK1.out; omega
    case rel => exact ⟨(x1_1), (Int.tmod x0_1 x1_1), (by first | rfl | (simp; done) | (simp [*]; done)), (by first | rfl | (simp; done) | (simp [*]; done)), H', ⟨by have := HK1.out; omega⟩, by repeat (first | exact Drawn0.refl _ | apply Drawn0.step)⟩

/-! ### payrollref1_New: function 31 -/
def payrollref1_New.j0 : Nat → Int → Int → Int → Int → Bool → Option (Int × Int × Int)
 | 0, _, _, _, _, _ => none
 | k + 1, x0, x1, x6, x7, x31 => if x31 = true then (some (0, 0, 4)) else (if ((decide (x0 < 0)) != (decide (x1 < 0))) = true then (some (wrap64 (-(wrap64 (x6))), wrap64 (x7), 0)) else (some (wrap64 (x6), wrap64 (x7), 0)))
def payrollref1_New.f (k : Nat) (a0 : Int) (a1 : Int) : Option (Int × Int × Int) := if a1 = 0 then (some (0, 0, 5)) else ((payrollref1_size.f a0).bind fun t172 => ((payrollref1_size.f a1).bind fun t173 => ((payrollref1_common.f k t172 t173).bind fun t174 => (if t174 = 0 then (none) else (if (IntKind.u64.wrap (Int.tdiv t172 t174)) > 1000000000000 then (payrollref1_New.j0 k a0 a1 (IntKind.u64.wrap (Int.tdiv t172 t174)) (IntKind.u64.wrap (Int.tdiv t173 t174)) true) else (payrollref1_New.j0 k a0 a1 (IntKind.u64.wrap (Int.tdiv t172 t174)) (IntKind.u64.wrap (Int.tdiv t173 t174)) (decide ((IntKind.u64.wrap (Int.tdiv t173 t174)) > 1000000))))))))
theorem payrollref1_New.mono_l : ∀ k, (∀ y0 y1 y2 y3 y4, LeO (payrollref1_New.j0 k y0 y1 y2 y3 y4) (payrollref1_New.j0 (k + 1) y0 y1 y2 y3 y4))
 | 0 => fun _ _ _ _ _ r h => by simp [payrollref1_New.j0] at h
 | k + 1 => by
  have ih0 := payrollref1_New.mono_l k
  ·
   intro y0 y1 y2 y3 y4
   unfold payrollref1_New.j0
   repeat' first
   | (with_reducible exact ih0 _ _ _ _ _)
   | (with_reducible exact payrollref1_common.mono _ _ _)
   | (with_reducible exact LeO.refl _)
   | (with_reducible exact LeO.none _)
   | (with_reducible refine LeO.ite ?_ ?_)
   | (with_reducible refine LeO.bind ?_ (fun _ => ?_))
   | exact ih0 _ _ _ _ _
   | exact payrollref1_common.mono _ _ _
   | exact LeO.none _
   | refine LeO.ite ?_ ?_
   | refine LeO.bind ?_ (fun _ => ?_)
theorem payrollref1_New.mono : ∀ a0 a1 k, LeO (payrollref1_New.f k a0 a1) (payrollref1_New.f (k + 1) a0 a1) := by
 intro a0 a1 k
 have ih0 := payrollref1_New.mono_l k
 unfold payrollref1_New.f
 repeat' first
  | (with_reducible exact ih0 _ _ _ _ _)
  | (with_reducible exact payrollref1_common.mono _ _ _)
  | (with_reducible exact LeO.refl _)
  | (with_reducible exact LeO.none _)
  | (with_reducible refine LeO.ite ?_ ?_)
  | (with_reducible refine LeO.bind ?_ (fun _ => ?_))
  | exact ih0 _ _ _ _ _
  | exact payrollref1_common.mono _ _ _
  | exact LeO.none _
  | refine LeO.ite ?_ ?_
  | refine LeO.bind ?_ (fun _ => ?_)
set_option maxHeartbeats 8000000 in
set_option maxRecDepth 100000 in
theorem payrollref1_New.calls (k : Nat) (a0 : Int) (a1 : Int) (r1 : Int) (r2 : Int) (r3 : Int) (w : World) (h : payrollref1_New.f k a0 a1 = some (r1, r2, r3)) :
 Calls Try.prog 31 #[.int .i64 a0, .int .i64 a1] w fun e w' => e = .returned (.tuple #[.agg #[.int .i64 r1, .int .i64 r2], .int .i64 r3]) ∧ Below w.heap.size w w' := by
 have hu41 := Try.underlying41
 have HB := Aside0.mk (Below.refl w.heap.size w)
 have H : (if a1 = 0 then (some (0, 0, 5)) else ((payrollref1_size.f a0).bind fun t172 => ((payrollref1_size.f a1).bind fun t173 => ((payrollref1_common.f k t172 t173).bind fun t174 => (if t174 = 0 then (none) else (if (IntKind.u64.wrap (Int.tdiv t172 t174)) > 1000000000000 then (payrollref1_New.j0 k a0 a1 (IntKind.u64.wrap (Int.tdiv t172 t174)) (IntKind.u64.wrap (Int.tdiv t173 t174)) true) else (payrollref1_New.j0 k a0 a1 (IntKind.u64.wrap (Int.tdiv t172 t174)) (IntKind.u64.wrap (Int.tdiv t173 t174)) (decide ((IntKind.u64.wrap (Int.tdiv t173 t174)) > 1000000))))))))) = some (r1, r2, r3) := h
 clear h
 by_cases c3 : a1 = 0
 ·
  rw [if_pos c3] at H
  have c3b0 : (a1 == 0) = true := beq_iff_eq.mpr c3
  have c3b1 : (a1 != 0) = false := bne_eq_false_iff_eq.mpr c3
  clear c3
  simp only [Option.some.injEq, Prod.mk.injEq] at H
  obtain ⟨rfl, rfl, rfl⟩ := H
  go_enter Try.func31, Try.ntmps31
  go_wp2_with (first | ((with_reducible refine gate_dst (N := 4) rfl ?_); refine bx_ (N := 4) (cs := #[.int .i64 0, .int .i64 0]) (t := 41) ?_; intro gb171 hg w4 hbox hb; have BK171 := Aside0.mk (hbox); have GW171 := sz_ HB hg; have GE171 := sz_ HB hg; replace HB := ts_ HB hb; clear hb hbox hg; have hcz5_0 : w4.cell? ⟨gb171, 0, none⟩ = some (.int .i64 0) := (blk_cell BK171.out 0).trans rfl; have hcz5_1 : w4.cell? ⟨gb171, 1, none⟩ = some (.int .i64 0) := (blk_cell BK171.out 1).trans rfl; have hfz5_0 := blk_frozen BK171.out 0; have hfz5_1 := blk_frozen BK171.out 1))
  repeat (go_quiet (first | ((with_reducible refine gate_dst (N := 4) rfl ?_); refine bx_ (N := 4) (cs := #[.int .i64 0, .int .i64 0]) (t := 41) ?_; intro gb171 hg w4 hbox hb; have BK171 := Aside0.mk (hbox); have GW171 := sz_ HB hg; have GE171 := sz_ HB hg; replace HB := ts_ HB hb; clear hb hbox hg; have hcz5_0 : w4.cell? ⟨gb171, 0, none⟩ = some (.int .i64 0) := (blk_cell BK171.out 0).trans rfl; have hcz5_1 : w4.cell? ⟨gb171, 1, none⟩ = some (.int .i64 0) := (blk_cell BK171.out 1).trans rfl; have hfz5_0 := blk_frozen BK171.out 0; have hfz5_1 := blk_frozen BK171.out 1)); try go_wp2_with (first | ((with_reducible refine gate_dst (N := 4) rfl ?_); refine bx_ (N := 4) (cs := #[.int .i64 0, .int .i64 0]) (t := 41) ?_; intro gb171 hg w4 hbox hb; have BK171 := Aside0.mk (hbox); have GW171 := sz_ HB hg; have GE171 := sz_ HB hg; replace HB := ts_ HB hb; clear hb hbox hg; have hcz5_0 : w4.cell? ⟨gb171, 0, none⟩ = some (.int .i64 0) := (blk_cell BK171.out 0).trans rfl; have hcz5_1 : w4.cell? ⟨gb171, 1, none⟩ = some (.int .i64 0) := (blk_cell BK171.out 1).trans rfl; have hfz5_0 := blk_frozen BK171.out 0; have hfz5_1 := blk_frozen BK171.out 1)))
  refine bodyPost_ret (results_ct rfl _ _ gb171 41 #[.int .i64 0, .int .i64 0] (0, 0) _ rfl (by (with_reducible repeat (first | refine blk_drewN ?_ _ | refine blk_drew ?_ | refine blk_alloc ?_ _)); refine blk_put (cs := #[.int .i64 0, .int .i64 0]) ?_ 1 _ rfl; (with_reducible repeat (first | refine blk_drewN ?_ _ | refine blk_drew ?_ | refine blk_alloc ?_ _)); refine blk_put (cs := #[.int .i64 0, .int .i64 0]) ?_ 0 _ rfl; (with_reducible repeat (first | refine blk_drewN ?_ _ | refine blk_drew ?_ | refine blk_alloc ?_ _)); exact BK171.out) Try.underlying41 rfl (by kernel_rfl)) rfl ?_
  exact ⟨by first | rfl | (simp [errW_none, errW_some] <;> rfl) | (simp [*, errW_none, errW_some] <;> rfl), be_ HB⟩
 ·
  rw [if_neg c3] at H
  have c3b0 : (a1 == 0) = false := beq_eq_false_iff_ne.mpr c3
  have c3b1 : (a1 != 0) = true := bne_iff_ne.mpr c3
  replace H := Option.bind_eq_some_iff.mp H
  obtain ⟨t172, A60, H⟩ := H
  replace H : ((payrollref1_size.f a1).bind fun t173 => ((payrollref1_common.f k t172 t173).bind fun t174 => (if t174 = 0 then (none) else (if (IntKind.u64.wrap (Int.tdiv t172 t174)) > 1000000000000 then (payrollref1_New.j0 k a0 a1 (IntKind.u64.wrap (Int.tdiv t172 t174)) (IntKind.u64.wrap (Int.tdiv t173 t174)) true) else (payrollref1_New.j0 k a0 a1 (IntKind.u64.wrap (Int.tdiv t172 t174)) (IntKind.u64.wrap (Int.tdiv t173 t174)) (decide ((IntKind.u64.wrap (Int.tdiv t173 t174)) > 1000000))))))) = some (r1, r2, r3) := H
  have A6 := Aside0.mk A60
  clear A60
  replace H := Option.bind_eq_some_iff.mp H
  obtain ⟨t173, A70, H⟩ := H
  replace H : ((payrollref1_common.f k t172 t173).bind fun t174 => (if t174 = 0 then (none) else (if (IntKind.u64.wrap (Int.tdiv t172 t174)) > 1000000000000 then (payrollref1_New.j0 k a0 a1 (IntKind.u64.wrap (Int.tdiv t172 t174)) (IntKind.u64.wrap (Int.tdiv t173 t174)) true) else (payrollref1_New.j0 k a0 a1 (IntKind.u64.wrap (Int.tdiv t172 t174)) (IntKind.u64.wrap (Int.tdiv t173 t174)) (decide ((IntKind.u64.wrap (Int.tdiv t173 t174)) > 1000000)))))) = some (r1, r2, r3) := H
  have A7 := Aside0.mk A70
  clear A70
  replace H := Option.bind_eq_some_iff.mp H
  obtain ⟨t174, A80, H⟩ := H
  replace H : (if t174 = 0 then (none) else (if (IntKind.u64.wrap (Int.tdiv t172 t174)) > 1000000000000 then (payrollref1_New.j0 k a0 a1 (IntKind.u64.wrap (Int.tdiv t172 t174)) (IntKind.u64.wrap (Int.tdiv t173 t174)) true) else (payrollref1_New.j0 k a0 a1 (IntKind.u64.wrap (Int.tdiv t172 t174)) (IntKind.u64.wrap (Int.tdiv t173 t174)) (decide ((IntKind.u64.wrap (Int.tdiv t173 t174)) > 1000000))))) = some (r1, r2, r3) := H
  have A8 := Aside0.mk A80
  clear A80
  by_cases c9 : t174 = 0
  ·
   rw [if_pos c9] at H
   exact absurd H (by simp)
  ·
   rw [if_neg c9] at H
   have c9b0 : (t174 == 0) = false := beq_eq_false_iff_ne.mpr c9
   have c9b1 : (t174 != 0) = true := bne_iff_ne.mpr c9
   have HC10 := Aside0.mk H
   clear H
   go_enter Try.func31, Try.ntmps31
   go_upto_region 6 with (first | ((with_reducible refine gate_dst (N := 4) rfl ?_); refine bx_ (N := 4) (cs := #[.int .i64 0, .int .i64 0]) (t := 41) ?_; intro gb171 hg w11 hbox hb; have BK171 := Aside0.mk (hbox); have GW171 := sz_ HB hg; have GE171 := sz_ HB hg; replace HB := ts_ HB hb; clear hb hbox hg) | (go_at_call 47; (with_reducible refine (payrollref1_size.calls a0 t172 _ A6.out).mono ?_); rintro e w' ⟨rfl, ⟨nd, rfl⟩⟩; (try first | exact ⟨rfl, _, World.drewN_drewN _ _ _⟩ | exact ⟨rfl, _, Eq.trans (World.drewN_drewN _ _ _) (congrArg (World.drewN _) (Nat.add_assoc _ _ _))⟩)) | (go_at_call 47; (with_reducible refine (payrollref1_size.calls a1 t173 _ A7.out).mono ?_); rintro e w' ⟨rfl, ⟨nd, rfl⟩⟩; (try first | exact ⟨rfl, _, World.drewN_drewN _ _ _⟩ | exact ⟨rfl, _, Eq.trans (World.drewN_drewN _ _ _) (congrArg (World.drewN _) (Nat.add_assoc _ _ _))⟩)) | (go_at_call 48; (with_reducible refine (payrollref1_common.calls k t172 t173 t174 _ A8.out).mono ?_); rintro e w' ⟨rfl, ⟨nd, rfl⟩⟩; (try first | exact ⟨rfl, _, World.drewN_drewN _ _ _⟩ | exact ⟨rfl, _, Eq.trans (World.drewN_drewN _ _ _) (congrArg (World.drewN _) (Nat.add_assoc _ _ _))⟩)))
   repeat (go_quiet (first | ((with_reducible refine gate_dst (N := 4) rfl ?_); refine bx_ (N := 4) (cs := #[.int .i64 0, .int .i64 0]) (t := 41) ?_; intro gb171 hg w11 hbox hb; have BK171 := Aside0.mk (hbox); have GW171 := sz_ HB hg; have GE171 := sz_ HB hg; replace HB := ts_ HB hb; clear hb hbox hg) | (go_at_call 47; (with_reducible refine (payrollref1_size.calls a0 t172 _ A6.out).mono ?_); rintro e w' ⟨rfl, ⟨nd, rfl⟩⟩; (try first | exact ⟨rfl, _, World.drewN_drewN _ _ _⟩ | exact ⟨rfl, _, Eq.trans (World.drewN_drewN _ _ _) (congrArg (World.drewN _) (Nat.add_assoc _ _ _))⟩)) | (go_at_call 47; (with_reducible refine (payrollref1_size.calls a1 t173 _ A7.out).mono ?_); rintro e w' ⟨rfl, ⟨nd, rfl⟩⟩; (try first | exact ⟨rfl, _, World.drewN_drewN _ _ _⟩ | exact ⟨rfl, _, Eq.trans (World.drewN_drewN _ _ _) (congrArg (World.drewN _) (Nat.add_assoc _ _ _))⟩)) | (go_at_call 48; (with_reducible refine (payrollref1_common.calls k t172 t173 t174 _ A8.out).mono ?_); rintro e w' ⟨rfl, ⟨nd, rfl⟩⟩; (try first | exact ⟨rfl, _, World.drewN_drewN _ _ _⟩ | exact ⟨rfl, _, Eq.trans (World.drewN_drewN _ _ _) (congrArg (World.drewN _) (Nat.add_assoc _ _ _))⟩))); go_upto_region 6 with (first | ((with_reducible refine gate_dst (N := 4) rfl ?_); refine bx_ (N := 4) (cs := #[.int .i64 0, .int .i64 0]) (t := 41) ?_; intro gb171 hg w11 hbox hb; have BK171 := Aside0.mk (hbox); have GW171 := sz_ HB hg; have GE171 := sz_ HB hg; replace HB := ts_ HB hb; clear hb hbox hg) | (go_at_call 47; (with_reducible refine (payrollref1_size.calls a0 t172 _ A6.out).mono ?_); rintro e w' ⟨rfl, ⟨nd, rfl⟩⟩; (try first | exact ⟨rfl, _, World.drewN_drewN _ _ _⟩ | exact ⟨rfl, _, Eq.trans (World.drewN_drewN _ _ _) (congrArg (World.drewN _) (Nat.add_assoc _ _ _))⟩)) | (go_at_call 47; (with_reducible refine (payrollref1_size.calls a1 t173 _ A7.out).mono ?_); rintro e w' ⟨rfl, ⟨nd, rfl⟩⟩; (try first | exact ⟨rfl, _, World.drewN_drewN _ _ _⟩ | exact ⟨rfl, _, Eq.trans (World.drewN_drewN _ _ _) (congrArg (World.drewN _) (Nat.add_assoc _ _ _))⟩)) | (go_at_call 48; (with_reducible refine (payrollref1_common.calls k t172 t173 t174 _ A8.out).mono ?_); rintro e w' ⟨rfl, ⟨nd, rfl⟩⟩; (try first | exact ⟨rfl, _, World.drewN_drewN _ _ _⟩ | exact ⟨rfl, _, Eq.trans (World.drewN_drewN _ _ _) (congrArg (World.drewN _) (Nat.add_assoc _ _ _))⟩))))
   (try simp only [Act.put, List.setIfInBounds_toArray, List.set_cons_zero, List.set_cons_succ])
   go_cut [31] (fun v31 wc => ∃ (kq : Nat) (x31_9 : Bool), v31 = .bool x31_9 ∧ Aside0 (payrollref1_New.j0 kq a0 a1 (IntKind.u64.wrap (Int.tdiv t172 t174)) (IntKind.u64.wrap (Int.tdiv t173 t174)) x31_9 = some (r1, r2, r3)) ∧ Aside0 (kq ≤ k) ∧ Aside0 (wc.heap[gb171]? = some (.cells #[.int .i64 0, .int .i64 0] 41 (0, 0))) ∧ Aside0 (Below w.heap.size w wc))
   case first =>
    have H := HC10.out
    clear HC10
    by_cases c12 : (IntKind.u64.wrap (Int.tdiv t172 t174)) > 1000000000000
    ·
     rw [if_pos c12] at H
     have c12b0 : decide (1000000000000 < (IntKind.u64.wrap (Int.tdiv t172 t174))) = true := decide_eq_true c12
     clear c12
     (first | rw [c12b0] | (simp only [i64_w, i32_w]; rw [c12b0]) | skip)
     have H' := Aside0.mk H
     clear H
     go_wp2
     repeat (go_quiet (fail); try go_wp2)
     go_meet
     case rel => exact ⟨_, (true), (by first | rfl | (simp; done) | (simp [*]; done)), H', ⟨by first | omega | exact Nat.le_refl _⟩, ⟨by (with_reducible repeat (first | refine blk_drewN ?_ _ | refine blk_drew ?_ | refine blk_alloc ?_ _)); exact BK171.out⟩, ⟨by repeat (first | (with_reducible first | exact HB.out | apply below_alloc | apply pw_below_drewN | apply below_drew1 | refine below_set ?_ GE171.out) | exact HB.out)⟩⟩
    ·
     rw [if_neg c12] at H
     have c12b0 : decide (1000000000000 < (IntKind.u64.wrap (Int.tdiv t172 t174))) = false := decide_eq_false c12
     clear c12
     (first | rw [c12b0] | (simp only [i64_w, i32_w]; rw [c12b0]) | skip)
     have H' := Aside0.mk H
     clear H
     go_wp2
     repeat (go_quiet (fail); try go_wp2)
     go_meet
     case rel => exact ⟨_, (decide ((IntKind.u64.wrap (Int.tdiv t173 t174)) > 1000000)), (by first | rfl | (simp; done) | (simp [*]; done)), H', ⟨by first | omega | exact Nat.le_refl _⟩, ⟨by (with_reducible repeat (first | refine blk_drewN ?_ _ | refine blk_drew ?_ | refine blk_alloc ?_ _)); exact BK171.out⟩, ⟨by repeat (first | (with_reducible first | exact HB.out | apply below_alloc | apply pw_below_drewN | apply below_drew1 | refine below_set ?_ GE171.out) | exact HB.out)⟩⟩
   case rest =>
    clear HC10
    try clear c1
    try clear p2
    try clear c3
    try clear c3b0
    try clear c3b1
    try clear c9
    try clear c9b0
    try clear c9b1
    try clear c12
    try clear c12b0
    try clear hcz5_0
    try clear hcz5_1
    try clear hfz5_0
    try clear hfz5_1
    obtain ⟨kq, x31_9, rfl, HA, HJ9, BK171, HB⟩ := hcut
    cases kq with
    | zero => exact absurd HA.out (by simp [payrollref1_New.j0])
    | succ kj9 =>
     have H := HA.out
     clear HA
     simp only [payrollref1_New.j0] at H
     by_cases c13 : x31_9 = true
     ·
      subst c13
      have H1 : (some (0, 0, 4)) = some (r1, r2, r3) := by rw [if_pos rfl] at H; exact H
      clear H
      have H := H1
      clear H1
      simp only [Option.some.injEq, Prod.mk.injEq] at H
      obtain ⟨rfl, rfl, rfl⟩ := H
      have hcz14_0 : wc.cell? ⟨gb171, 0, none⟩ = some (.int .i64 0) := (blk_cell BK171.out 0).trans rfl
      have hcz14_1 : wc.cell? ⟨gb171, 1, none⟩ = some (.int .i64 0) := (blk_cell BK171.out 1).trans rfl
      have hfz14_0 := blk_frozen BK171.out 0
      have hfz14_1 := blk_frozen BK171.out 1
      go_wp2
      repeat (go_quiet (fail); try go_wp2)
      refine bodyPost_ret (results_ct rfl _ _ gb171 41 #[.int .i64 0, .int .i64 0] (0, 0) _ rfl (by (with_reducible repeat (first | refine blk_drewN ?_ _ | refine blk_drew ?_ | refine blk_alloc ?_ _)); refine blk_put (cs := #[.int .i64 0, .int .i64 0]) ?_ 1 _ rfl; (with_reducible repeat (first | refine blk_drewN ?_ _ | refine blk_drew ?_ | refine blk_alloc ?_ _)); refine blk_put (cs := #[.int .i64 0, .int .i64 0]) ?_ 0 _ rfl; (with_reducible repeat (first | refine blk_drewN ?_ _ | refine blk_drew ?_ | refine blk_alloc ?_ _)); exact BK171.out) Try.underlying41 rfl (by kernel_rfl)) rfl ?_
      exact ⟨by first | rfl | (simp [errW_none, errW_some] <;> rfl) | (simp [*, errW_none, errW_some] <;> rfl), be_ HB⟩
     ·
      replace c13 := Bool.eq_false_iff.mpr c13
      subst c13
      have H1 : (if ((decide (a0 < 0)) != (decide (a1 < 0))) = true then (some (wrap64 (-(wrap64 ((IntKind.u64.wrap (Int.tdiv t172 t174))))), wrap64 ((IntKind.u64.wrap (Int.tdiv t173 t174))), 0)) else (some (wrap64 ((IntKind.u64.wrap (Int.tdiv t172 t174))), wrap64 ((IntKind.u64.wrap (Int.tdiv t173 t174))), 0))) = some (r1, r2, r3) := by rw [if_neg (show ¬ (false = true) by decide)] at H; exact H
      clear H
      have H := H1
      clear H1
      by_cases c15 : ((decide (a0 < 0)) != (decide (a1 < 0))) = true
      ·
       rw [if_pos c15] at H
       have c15b0 : ((decide (a0 < 0)) != (decide (a1 < 0))) = true := c15
       (try (have c15b1 : decide ((decide (a0 < 0)) = (decide (a1 < 0))) = false := by simpa using c15))
       (try (have c15b2 : ((decide (a0 < 0)) == (decide (a1 < 0))) = false := by simpa using c15))
       (try (have c15b3 : ¬ ((decide (a0 < 0)) = (decide (a1 < 0))) := by simpa using c15))
       clear c15
       simp only [Option.some.injEq, Prod.mk.injEq] at H
       obtain ⟨rfl, rfl, rfl⟩ := H
       go_wp2_with (first | ((with_reducible refine gate_dst (N := 9) rfl ?_); refine bx_ (N := 9) (cs := #[.int .i64 0, .int .i64 0]) (t := 41) ?_; intro gb175 hg w16 hbox hb; have BK175 := Aside0.mk (hbox); have GW175 := sz_ HB hg; have GE175 := sz_ HB hg; have NB171_175 := nl_ BK171 hg; have NB175_171 := nr_ BK171 hg; replace BK171 := tb_ BK171 hb; replace HB := ts_ HB hb; clear hb hbox hg; have hnb17 := NB175_171.out; have hnc17 := NB171_175.out; have hcz18_0 : w16.cell? ⟨gb175, 0, none⟩ = some (.int .i64 0) := (blk_cell BK175.out 0).trans rfl; have hcz18_1 : w16.cell? ⟨gb175, 1, none⟩ = some (.int .i64 0) := (blk_cell BK175.out 1).trans rfl; have hfz18_0 := blk_frozen BK175.out 0; have hfz18_1 := blk_frozen BK175.out 1; have hcz19_0 : w16.cell? ⟨gb171, 0, none⟩ = some (.int .i64 0) := (blk_cell BK171.out 0).trans rfl; have hcz19_1 : w16.cell? ⟨gb171, 1, none⟩ = some (.int .i64 0) := (blk_cell BK171.out 1).trans rfl; have hfz19_0 := blk_frozen BK171.out 0; have hfz19_1 := blk_frozen BK171.out 1))
       repeat (go_quiet (first | ((with_reducible refine gate_dst (N := 9) rfl ?_); refine bx_ (N := 9) (cs := #[.int .i64 0, .int .i64 0]) (t := 41) ?_; intro gb175 hg w16 hbox hb; have BK175 := Aside0.mk (hbox); have GW175 := sz_ HB hg; have GE175 := sz_ HB hg; have NB171_175 := nl_ BK171 hg; have NB175_171 := nr_ BK171 hg; replace BK171 := tb_ BK171 hb; replace HB := ts_ HB hb; clear hb hbox hg; have hnb17 := NB175_171.out; have hnc17 := NB171_175.out; have hcz18_0 : w16.cell? ⟨gb175, 0, none⟩ = some (.int .i64 0) := (blk_cell BK175.out 0).trans rfl; have hcz18_1 : w16.cell? ⟨gb175, 1, none⟩ = some (.int .i64 0) := (blk_cell BK175.out 1).trans rfl; have hfz18_0 := blk_frozen BK175.out 0; have hfz18_1 := blk_frozen BK175.out 1; have hcz19_0 : w16.cell? ⟨gb171, 0, none⟩ = some (.int .i64 0) := (blk_cell BK171.out 0).trans rfl; have hcz19_1 : w16.cell? ⟨gb171, 1, none⟩ = some (.int .i64 0) := (blk_cell BK171.out 1).trans rfl; have hfz19_0 := blk_frozen BK171.out 0; have hfz19_1 := blk_frozen BK171.out 1)); try go_wp2_with (first | ((with_reducible refine gate_dst (N := 9) rfl ?_); refine bx_ (N := 9) (cs := #[.int .i64 0, .int .i64 0]) (t := 41) ?_; intro gb175 hg w16 hbox hb; have BK175 := Aside0.mk (hbox); have GW175 := sz_ HB hg; have GE175 := sz_ HB hg; have NB171_175 := nl_ BK171 hg; have NB175_171 := nr_ BK171 hg; replace BK171 := tb_ BK171 hb; replace HB := ts_ HB hb; clear hb hbox hg; have hnb17 := NB175_171.out; have hnc17 := NB171_175.out; have hcz18_0 : w16.cell? ⟨gb175, 0, none⟩ = some (.int .i64 0) := (blk_cell BK175.out 0).trans rfl; have hcz18_1 : w16.cell? ⟨gb175, 1, none⟩ = some (.int .i64 0) := (blk_cell BK175.out 1).trans rfl; have hfz18_0 := blk_frozen BK175.out 0; have hfz18_1 := blk_frozen BK175.out 1; have hcz19_0 : w16.cell? ⟨gb171, 0, none⟩ = some (.int .i64 0) := (blk_cell BK171.out 0).trans rfl; have hcz19_1 : w16.cell? ⟨gb171, 1, none⟩ = some (.int .i64 0) := (blk_cell BK171.out 1).trans rfl; have hfz19_0 := blk_frozen BK171.out 0; have hfz19_1 := blk_frozen BK171.out 1)))
       refine bodyPost_ret (results_ct rfl _ _ gb171 41 #[.int .i64 (wrap64 (-(wrap64 ((IntKind.u64.wrap (Int.tdiv t172 t174)))))), .int .i64 (wrap64 ((IntKind.u64.wrap (Int.tdiv t173 t174))))] (0, 0) _ rfl (by (with_reducible repeat (first | refine blk_drewN ?_ _ | refine blk_drew ?_ | refine blk_alloc ?_ _)); refine blk_put (cs := #[.int .i64 (wrap64 (-(wrap64 ((IntKind.u64.wrap (Int.tdiv t172 t174)))))), .int .i64 0]) ?_ 1 _ rfl; (with_reducible repeat (first | refine blk_drewN ?_ _ | refine blk_drew ?_ | refine blk_alloc ?_ _)); refine blk_put (cs := #[.int .i64 0, .int .i64 0]) ?_ 0 _ rfl; (with_reducible repeat (first | refine blk_drewN ?_ _ | refine blk_drew ?_ | refine blk_alloc ?_ _)); refine blk_far ?_ NB171_175.out _; (with_reducible repeat (first | refine blk_drewN ?_ _ | refine blk_drew ?_ | refine blk_alloc ?_ _)); refine blk_far ?_ NB171_175.out _; (with_reducible repeat (first | refine blk_drewN ?_ _ | refine blk_drew ?_ | refine blk_alloc ?_ _)); refine blk_far ?_ NB171_175.out _; (with_reducible repeat (first | refine blk_drewN ?_ _ | refine blk_drew ?_ | refine blk_alloc ?_ _)); exact BK171.out) Try.underlying41 rfl (by kernel_rfl)) rfl ?_
       exact ⟨by first | rfl | (simp [errW_none, errW_some] <;> rfl) | (simp [*, errW_none, errW_some] <;> rfl), be_ HB⟩
      ·
       rw [if_neg c15] at H
       have c15b0 : ((decide (a0 < 0)) != (decide (a1 < 0))) = false := by simpa using c15
       (try (have c15b1 : decide ((decide (a0 < 0)) = (decide (a1 < 0))) = true := by simpa using c15))
       (try (have c15b2 : ((decide (a0 < 0)) == (decide (a1 < 0))) = true := by simpa using c15))
       clear c15
       simp only [Option.some.injEq, Prod.mk.injEq] at H
       obtain ⟨rfl, rfl, rfl⟩ := H
       go_wp2_with (first | ((with_reducible refine gate_dst (N := 9) rfl ?_); refine bx_ (N := 9) (cs := #[.int .i64 0, .int .i64 0]) (t := 41) ?_; intro gb175 hg w20 hbox hb; have BK175 := Aside0.mk (hbox); have GW175 := sz_ HB hg; have GE175 := sz_ HB hg; have NB171_175 := nl_ BK171 hg; have NB175_171 := nr_ BK171 hg; replace BK171 := tb_ BK171 hb; replace HB := ts_ HB hb; clear hb hbox hg; have hnb21 := NB175_171.out; have hnc21 := NB171_175.out; have hcz22_0 : w20.cell? ⟨gb175, 0, none⟩ = some (.int .i64 0) := (blk_cell BK175.out 0).trans rfl; have hcz22_1 : w20.cell? ⟨gb175, 1, none⟩ = some (.int .i64 0) := (blk_cell BK175.out 1).trans rfl; have hfz22_0 := blk_frozen BK175.out 0; have hfz22_1 := blk_frozen BK175.out 1; have hcz23_0 : w20.cell? ⟨gb171, 0, none⟩ = some (.int .i64 0) := (blk_cell BK171.out 0).trans rfl; have hcz23_1 : w20.cell? ⟨gb171, 1, none⟩ = some (.int .i64 0) := (blk_cell BK171.out 1).trans rfl; have hfz23_0 := blk_frozen BK171.out 0; have hfz23_1 := blk_frozen BK171.out 1))
       repeat (go_quiet (first | ((with_reducible refine gate_dst (N := 9) rfl ?_); refine bx_ (N := 9) (cs := #[.int .i64 0, .int .i64 0]) (t := 41) ?_; intro gb175 hg w20 hbox hb; have BK175 := Aside0.mk (hbox); have GW175 := sz_ HB hg; have GE175 := sz_ HB hg; have NB171_175 := nl_ BK171 hg; have NB175_171 := nr_ BK171 hg; replace BK171 := tb_ BK171 hb; replace HB := ts_ HB hb; clear hb hbox hg; have hnb21 := NB175_171.out; have hnc21 := NB171_175.out; have hcz22_0 : w20.cell? ⟨gb175, 0, none⟩ = some (.int .i64 0) := (blk_cell BK175.out 0).trans rfl; have hcz22_1 : w20.cell? ⟨gb175, 1, none⟩ = some (.int .i64 0) := (blk_cell BK175.out 1).trans rfl; have hfz22_0 := blk_frozen BK175.out 0; have hfz22_1 := blk_frozen BK175.out 1; have hcz23_0 : w20.cell? ⟨gb171, 0, none⟩ = some (.int .i64 0) := (blk_cell BK171.out 0).trans rfl; have hcz23_1 : w20.cell? ⟨gb171, 1, none⟩ = some (.int .i64 0) := (blk_cell BK171.out 1).trans rfl; have hfz23_0 := blk_frozen BK171.out 0; have hfz23_1 := blk_frozen BK171.out 1)); try go_wp2_with (first | ((with_reducible refine gate_dst (N := 9) rfl ?_); refine bx_ (N := 9) (cs := #[.int .i64 0, .int .i64 0]) (t := 41) ?_; intro gb175 hg w20 hbox hb; have BK175 := Aside0.mk (hbox); have GW175 := sz_ HB hg; have GE175 := sz_ HB hg; have NB171_175 := nl_ BK171 hg; have NB175_171 := nr_ BK171 hg; replace BK171 := tb_ BK171 hb; replace HB := ts_ HB hb; clear hb hbox hg; have hnb21 := NB175_171.out; have hnc21 := NB171_175.out; have hcz22_0 : w20.cell? ⟨gb175, 0, none⟩ = some (.int .i64 0) := (blk_cell BK175.out 0).trans rfl; have hcz22_1 : w20.cell? ⟨gb175, 1, none⟩ = some (.int .i64 0) := (blk_cell BK175.out 1).trans rfl; have hfz22_0 := blk_frozen BK175.out 0; have hfz22_1 := blk_frozen BK175.out 1; have hcz23_0 : w20.cell? ⟨gb171, 0, none⟩ = some (.int .i64 0) := (blk_cell BK171.out 0).trans rfl; have hcz23_1 : w20.cell? ⟨gb171, 1, none⟩ = some (.int .i64 0) := (blk_cell BK171.out 1).trans rfl; have hfz23_0 := blk_frozen BK171.out 0; have hfz23_1 := blk_frozen BK171.out 1)))
       refine bodyPost_ret (results_ct rfl _ _ gb171 41 #[.int .i64 (wrap64 ((IntKind.u64.wrap (Int.tdiv t172 t174)))), .int .i64 (wrap64 ((IntKind.u64.wrap (Int.tdiv t173 t174))))] (0, 0) _ rfl (by (with_reducible repeat (first | refine blk_drewN ?_ _ | refine blk_drew ?_ | refine blk_alloc ?_ _)); refine blk_put (cs := #[.int .i64 (wrap64 ((IntKind.u64.wrap (Int.tdiv t172 t174)))), .int .i64 0]) ?_ 1 _ rfl; (with_reducible repeat (first | refine blk_drewN ?_ _ | refine blk_drew ?_ | refine blk_alloc ?_ _)); refine blk_put (cs := #[.int .i64 0, .int .i64 0]) ?_ 0 _ rfl; (with_reducible repeat (first | refine blk_drewN ?_ _ | refine blk_drew ?_ | refine blk_alloc ?_ _)); refine blk_far ?_ NB171_175.out _; (with_reducible repeat (first | refine blk_drewN ?_ _ | refine blk_drew ?_ | refine blk_alloc ?_ _)); refine blk_far ?_ NB171_175.out _; (with_reducible repeat (first | refine blk_drewN ?_ _ | refine blk_drew ?_ | refine blk_alloc ?_ _)); exact BK171.out) Try.underlying41 rfl (by kernel_rfl)) rfl ?_
       exact ⟨by first | rfl | (simp [errW_none, errW_some] <;> rfl) | (simp [*, errW_none, errW_some] <;> rfl), be_ HB⟩

/-! ### payrollgen_Tape_Step: function 22 -/
def payrollgen_Tape_Step.f (k : Nat) (s0_0 : List Int) (s0_1 : Int) : Option (Int × Int × Int) := (payrollgen_Tape_Pick.f s0_0 s0_1 (([1, 5, 1, 50, 1, 3, 100, 7] : List Int))).bind fun bt180 => ((payrollgen_Tape_Pick.f s0_0 bt180.2 (([100, 1, 20, 100, 2, 1000, 1] : List Int))).bind fun bt185 => ((payrollref1_New.f k bt180.1 bt185.1).bind fun bt187 => (some (bt187.1, bt187.2.1, bt185.2))))
theorem payrollgen_Tape_Step.mono : ∀ a0 a1 k, LeO (payrollgen_Tape_Step.f k a0 a1) (payrollgen_Tape_Step.f (k + 1) a0 a1) := by
 intro a0 a1 k
 unfold payrollgen_Tape_Step.f
 repeat' first
  | (with_reducible exact payrollref1_New.mono _ _ _)
  | (with_reducible exact LeO.refl _)
  | (with_reducible exact LeO.none _)
  | (with_reducible refine LeO.ite ?_ ?_)
  | (with_reducible refine LeO.bind ?_ (fun _ => ?_))
  | exact payrollref1_New.mono _ _ _
  | exact LeO.none _
  | refine LeO.ite ?_ ?_
  | refine LeO.bind ?_ (fun _ => ?_)
set_option maxHeartbeats 8000000 in
set_option maxRecDepth 100000 in
theorem payrollgen_Tape_Step.calls (k : Nat) (g : Nat) (s0_0 : List Int) (s0_1 : Int) (r1 : Int) (r2 : Int) (r3 : Int) (w0 w : World) (hI : IsS53 w0 w g s0_0 s0_1) (hB : Below w0.heap.size w0 w) (h : payrollgen_Tape_Step.f k s0_0 s0_1 = some (r1, r2, r3)) :
 Calls Try.prog 22 #[.pointer (some ⟨g, 0, none⟩)] w fun e w' => e = .returned (.agg #[.int .i64 r1, .int .i64 r2]) ∧ IsS53 w0 w' g s0_0 r3 ∧ Below w0.heap.size w0 w' ∧ KeepBut w w' g none := by
 have hu41 := Try.underlying41
 have HI0 := Aside0.mk hI
 have HK := Aside0.mk (KeepBut.refl w g none)
 have HL := Aside0.mk hB.size
 clear hI
 have HW0 := Aside0.mk hB.size
 have HB := Aside0.mk hB
 clear hB
 have H : ((payrollgen_Tape_Pick.f s0_0 s0_1 (([1, 5, 1, 50, 1, 3, 100, 7] : List Int))).bind fun bt180 => ((payrollgen_Tape_Pick.f s0_0 bt180.2 (([100, 1, 20, 100, 2, 1000, 1] : List Int))).bind fun bt185 => ((payrollref1_New.f k bt180.1 bt185.1).bind fun bt187 => (some (bt187.1, bt187.2.1, bt185.2))))) = some (r1, r2, r3) := h
 clear h
 obtain ⟨y177, hy177⟩ : ∃ y_ : List Int, y_ = (([1, 5, 1, 50, 1, 3, 100, 7] : List Int)) := ⟨_, rfl⟩
 replace H : ((payrollgen_Tape_Pick.f s0_0 s0_1 y177).bind fun bt180 => ((payrollgen_Tape_Pick.f s0_0 bt180.2 (([100, 1, 20, 100, 2, 1000, 1] : List Int))).bind fun bt185 => ((payrollref1_New.f k bt180.1 bt185.1).bind fun bt187 => (some (bt187.1, bt187.2.1, bt185.2))))) = some (r1, r2, r3) := by first | (rw [hy177]; with_reducible exact H) | (have H2_ := (Option.bind_some _ _).symm.trans H; rw [hy177]; with_reducible exact H2_) | (have H2_ := (Option.bind_some _ _).symm.trans H; with_reducible exact H2_) | with_reducible exact H | (rw [hy177]; exact H) | exact H
 have Ny177 := Aside0.mk hy177
 clear hy177
 replace H := Option.bind_eq_some_iff.mp H
 obtain ⟨⟨t180, t181⟩, A20, H⟩ := H
 replace H : ((payrollgen_Tape_Pick.f s0_0 t181 (([100, 1, 20, 100, 2, 1000, 1] : List Int))).bind fun bt185 => ((payrollref1_New.f k t180 bt185.1).bind fun bt187 => (some (bt187.1, bt187.2.1, bt185.2)))) = some (r1, r2, r3) := H
 have A2 := Aside0.mk A20
 clear A20
 obtain ⟨y182, hy182⟩ : ∃ y_ : List Int, y_ = (([100, 1, 20, 100, 2, 1000, 1] : List Int)) := ⟨_, rfl⟩
 replace H : ((payrollgen_Tape_Pick.f s0_0 t181 y182).bind fun bt185 => ((payrollref1_New.f k t180 bt185.1).bind fun bt187 => (some (bt187.1, bt187.2.1, bt185.2)))) = some (r1, r2, r3) := by first | (rw [hy182]; with_reducible exact H) | (have H2_ := (Option.bind_some _ _).symm.trans H; rw [hy182]; with_reducible exact H2_) | (have H2_ := (Option.bind_some _ _).symm.trans H; with_reducible exact H2_) | with_reducible exact H | (rw [hy182]; exact H) | exact H
 have Ny182 := Aside0.mk hy182
 clear hy182
 replace H := Option.bind_eq_some_iff.mp H
 obtain ⟨⟨t185, t186⟩, A30, H⟩ := H
 replace H : ((payrollref1_New.f k t180 t185).bind fun bt187 => (some (bt187.1, bt187.2.1, t186))) = some (r1, r2, r3) := H
 have A3 := Aside0.mk A30
 clear A30
 replace H := Option.bind_eq_some_iff.mp H
 obtain ⟨⟨t187, t188, t189⟩, A40, H⟩ := H
 replace H : (some (t187, t188, t186)) = some (r1, r2, r3) := H
 have A4 := Aside0.mk A40
 clear A40
 simp only [Option.some.injEq, Prod.mk.injEq] at H
 obtain ⟨rfl, rfl, rfl⟩ := H
 go_enter Try.func22, Try.ntmps22
 go_wp2_with (first | ((with_reducible refine gate_dst (N := 2) rfl ?_); refine bx_ (N := 2) (cs := #[.int .i64 0, .int .i64 0]) (t := 41) ?_; intro gb176 hg w5 hbox hb; have BK176 := Aside0.mk (hbox); have GW176 := ks_ HK hg; have GE176 := kw_ HW0 HK hg; have NB0_176 := IsS53.nl_ HI0 hg; have NB176_0 := IsS53.nr_ HI0 hg; replace HK := kb_ HK hb; replace HB := IsS53.ts_ HI0 HB hb; replace HI0 := IsS53.tb_ HI0 hb; clear hb hbox hg) | ((with_reducible refine gate_dst (N := 7) rfl ?_); refine Kd.R_lit (Kd.int .i64) _ 3 ?hg (N := 7) ?hd (xs := ([1, 5, 1, 50, 1, 3, 100, 7] : List Int)) (inner := [.int .i64 1, .int .i64 5, .int .i64 1, .int .i64 50, .int .i64 1, .int .i64 3, .int .i64 100, .int .i64 7]) (ok := fun _ => True) (okp := fun _ => True) ?hr ?hp (fun _ hk => hk) trivial (Below.refl _ _) (Nat.le_refl _) (by simp) ?_; (case hd => rfl); (case hg => rfl); (case hr => first | (go_simp; done) | (go_simp; rfl)); (case hp => exact (Reps.one (show Kd.M (Kd.int .i64) _ _ _ 1 [.int .i64 1] from rfl) (Reps.one (show Kd.M (Kd.int .i64) _ _ _ 5 [.int .i64 5] from rfl) (Reps.one (show Kd.M (Kd.int .i64) _ _ _ 1 [.int .i64 1] from rfl) (Reps.one (show Kd.M (Kd.int .i64) _ _ _ 50 [.int .i64 50] from rfl) (Reps.one (show Kd.M (Kd.int .i64) _ _ _ 1 [.int .i64 1] from rfl) (Reps.one (show Kd.M (Kd.int .i64) _ _ _ 3 [.int .i64 3] from rfl) (Reps.one (show Kd.M (Kd.int .i64) _ _ _ 100 [.int .i64 100] from rfl) (Reps.one (show Kd.M (Kd.int .i64) _ _ _ 7 [.int .i64 7] from rfl) (Reps.none _ _)))))))))); intro v178 w6 ho7 hb hg_ hnew_; clear hg_ hnew_; (first | rw [← Ny177.out] at ho7 | (simp only [Int.reduceToNat] at ho7; rw [← Ny177.out] at ho7)); have HO179 := Aside0.mk (Kd.R_lower ho7 (keep_size (w := w) (g := g) (row := none) (ke_ HK))); replace BK176 := tb_ BK176 hb; replace HK := kb_ HK hb; replace HB := IsS53.ts_ HI0 HB hb; replace HI0 := IsS53.tb_ HI0 hb; clear hb ho7; obtain ⟨Ao8, co8, eo8⟩ := Kd.R_slice HO179.out; subst eo8) | ((with_reducible refine gate_callee (f := 13) rfl ?_); refine gq_ (some 8) rfl rfl Try.func13 #[.pointer (some ⟨g, 0, none⟩), .slice Ao8 y177.length co8] rfl ?_; (with_reducible refine (payrollgen_Tape_Pick.calls g s0_0 s0_1 _ _ y177 t180 t181 w0 _ ?side1 ?side2 ?side3 ?side4 ?side5 A2.out).mono ?_); (case side1 => exact IsS53.aq_ HI0); (case side2 => exact IsS53.bs_ HI0 HB); (case side3 => repeat (first | exact (Kd.R_reads' HO179.out).2.2 | (with_reducible refine Kd.C_alloc ?_ _) | (with_reducible refine Kd.C_drewN ?_ _) | (with_reducible refine Kd.C_drew ?_))); (case side4 => exact (Kd.R_reads' HO179.out).2.1); (case side5 => exact far_slice (IsS53.own_ne HI0.out HO179.out (by decide))); rintro e w9 ⟨rfl, hi, hb, hk⟩; refine ⟨_, rfl, ?_⟩; replace BK176 := tk_ BK176 hk NB176_0; replace HO179 := Aside0.mk (Kd.R_mono (Kd.R_keep (IsS53.apart (show IsS53 w0 _ g s0_0 s0_1 from by repeat (first | (with_reducible first | exact HI0.out | apply IsS53.alloc | apply IsS53.drewN | apply IsS53.drew | apply IsS53.set_1 | refine IsS53.far ?_ NB0_176.out _) | exact HI0.out)) (re_ HO179) (by decide)) hk (fun _ h => h.2)) (fun _ h => h.1)); replace HK := kt_ HK hk; replace HB := Aside0.mk (hb); replace HI0 := Aside0.mk (hi); (try clear hb); (try clear hb2); (try clear hk); (try clear hi)) | ((with_reducible refine gate_dst (N := 10) rfl ?_); refine Kd.R_lit (Kd.int .i64) _ 3 ?hg (N := 10) ?hd (xs := ([100, 1, 20, 100, 2, 1000, 1] : List Int)) (inner := [.int .i64 100, .int .i64 1, .int .i64 20, .int .i64 100, .int .i64 2, .int .i64 1000, .int .i64 1]) (ok := fun _ => True) (okp := fun _ => True) ?hr ?hp (fun _ hk => hk) trivial (Below.refl _ _) (Nat.le_refl _) (by simp) ?_; (case hd => rfl); (case hg => rfl); (case hr => first | (go_simp; done) | (go_simp; rfl)); (case hp => exact (Reps.one (show Kd.M (Kd.int .i64) _ _ _ 100 [.int .i64 100] from rfl) (Reps.one (show Kd.M (Kd.int .i64) _ _ _ 1 [.int .i64 1] from rfl) (Reps.one (show Kd.M (Kd.int .i64) _ _ _ 20 [.int .i64 20] from rfl) (Reps.one (show Kd.M (Kd.int .i64) _ _ _ 100 [.int .i64 100] from rfl) (Reps.one (show Kd.M (Kd.int .i64) _ _ _ 2 [.int .i64 2] from rfl) (Reps.one (show Kd.M (Kd.int .i64) _ _ _ 1000 [.int .i64 1000] from rfl) (Reps.one (show Kd.M (Kd.int .i64) _ _ _ 1 [.int .i64 1] from rfl) (Reps.none _ _))))))))); intro v183 w10 ho11 hb hg_ hnew_; clear hg_ hnew_; (first | rw [← Ny182.out] at ho11 | (simp only [Int.reduceToNat] at ho11; rw [← Ny182.out] at ho11)); have HO184 := Aside0.mk (Kd.R_lower (Kd.R_new' ho11 (Kd.R_lt (re_ HO179))) (keep_size (w := w) (g := g) (row := none) (ke_ HK))); replace HO179 := Aside0.mk (Kd.R_elder' (re_ HO179) (Kd.R_base ho11) hb); replace BK176 := tb_ BK176 hb; replace HK := kb_ HK hb; replace HB := IsS53.ts_ HI0 HB hb; replace HI0 := IsS53.tb_ HI0 hb; clear hb ho11; obtain ⟨Ao12, co12, eo12⟩ := Kd.R_slice HO184.out; subst eo12) | ((with_reducible refine gate_callee (f := 13) rfl ?_); refine gq_ (some 11) rfl rfl Try.func13 #[.pointer (some ⟨g, 0, none⟩), .slice Ao12 y182.length co12] rfl ?_; (with_reducible refine (payrollgen_Tape_Pick.calls g s0_0 t181 _ _ y182 t185 t186 w0 _ ?side1 ?side2 ?side3 ?side4 ?side5 A3.out).mono ?_); (case side1 => exact IsS53.aq_ HI0); (case side2 => exact IsS53.bs_ HI0 HB); (case side3 => repeat (first | exact (Kd.R_reads' HO184.out).2.2 | (with_reducible refine Kd.C_alloc ?_ _) | (with_reducible refine Kd.C_drewN ?_ _) | (with_reducible refine Kd.C_drew ?_))); (case side4 => exact (Kd.R_reads' HO184.out).2.1); (case side5 => exact far_slice (IsS53.own_ne HI0.out HO184.out (by decide))); rintro e w13 ⟨rfl, hi, hb, hk⟩; refine ⟨_, rfl, ?_⟩; replace BK176 := tk_ BK176 hk NB176_0; replace HO179 := Aside0.mk (Kd.R_mono (Kd.R_keep (IsS53.apart (show IsS53 w0 _ g s0_0 t181 from by repeat (first | (with_reducible first | exact HI0.out | apply IsS53.alloc | apply IsS53.drewN | apply IsS53.drew | apply IsS53.set_1 | refine IsS53.far ?_ NB0_176.out _) | exact HI0.out)) (re_ HO179) (by decide)) hk (fun _ h => h.2)) (fun _ h => h.1)); replace HO184 := Aside0.mk (Kd.R_mono (Kd.R_keep (IsS53.apart (show IsS53 w0 _ g s0_0 t181 from by repeat (first | (with_reducible first | exact HI0.out | apply IsS53.alloc | apply IsS53.drewN | apply IsS53.drew | apply IsS53.set_1 | refine IsS53.far ?_ NB0_176.out _) | exact HI0.out)) (re_ HO184) (by decide)) hk (fun _ h => h.2)) (fun _ h => h.1)); replace HK := kt_ HK hk; replace HB := Aside0.mk (hb); replace HI0 := Aside0.mk (hi); (try clear hb); (try clear hb2); (try clear hk); (try clear hi)) | ((with_reducible refine gate_callee (f := 31) rfl ?_); refine gq_ (some 12) rfl rfl Try.func31 #[.int .i64 t180, .int .i64 t185] rfl ?_; (with_reducible refine (payrollref1_New.calls k t180 t185 t187 t188 t189 _ A4.out).mono ?_); rintro e w14 ⟨rfl, hb⟩; refine ⟨_, rfl, ?_⟩; replace HO179 := rb_ HO179 hb; replace HO184 := rb_ HO184 hb; replace BK176 := tb_ BK176 hb; replace HK := kb_ HK hb; replace HB := IsS53.ts_ HI0 HB hb; replace HI0 := IsS53.tb_ HI0 hb; (try clear hb); (try clear hb2); (try clear hk); (try clear hi)) | ((with_reducible refine gate_dst (N := 3) rfl ?_); refine bx_ (N := 3) (cs := #[.int .i64 0, .int .i64 0]) (t := 41) ?_; intro gb190 hg w15 hbox hb; have BK190 := Aside0.mk (hbox); have GW190 := ks_ HK hg; have GE190 := kw_ HW0 HK hg; have NB176_190 := nl_ BK176 hg; have NB190_176 := nr_ BK176 hg; have NB0_190 := IsS53.nl_ HI0 hg; have NB190_0 := IsS53.nr_ HI0 hg; replace HO179 := rb_ HO179 hb; replace HO184 := rb_ HO184 hb; replace BK176 := tb_ BK176 hb; replace HK := kb_ HK hb; replace HB := IsS53.ts_ HI0 HB hb; replace HI0 := IsS53.tb_ HI0 hb; clear hb hbox hg; have hnb16 := NB190_176.out; have hnc16 := NB176_190.out; have hnb17 := NB190_0.out; have hnc17 := NB0_190.out; have hcz18_0 : w15.cell? ⟨gb190, 0, none⟩ = some (.int .i64 0) := (blk_cell BK190.out 0).trans rfl; have hcz18_1 : w15.cell? ⟨gb190, 1, none⟩ = some (.int .i64 0) := (blk_cell BK190.out 1).trans rfl; have hfz18_0 := blk_frozen BK190.out 0; have hfz18_1 := blk_frozen BK190.out 1; have hnb19 := NB176_0.out; have hnc19 := NB0_176.out; have hcz20_0 : w15.cell? ⟨gb176, 0, none⟩ = some (.int .i64 0) := (blk_cell BK176.out 0).trans rfl; have hcz20_1 : w15.cell? ⟨gb176, 1, none⟩ = some (.int .i64 0) := (blk_cell BK176.out 1).trans rfl; have hfz20_0 := blk_frozen BK176.out 0; have hfz20_1 := blk_frozen BK176.out 1))
 refine bodyPost_ret (results_cell_row rfl _ _ gb176 41 #[.int .i64 t187, .int .i64 t188] (0, 0) _ rfl (by (with_reducible repeat (first | refine blk_drewN ?_ _ | refine blk_drew ?_ | refine blk_alloc ?_ _)); refine blk_put (cs := #[.int .i64 t187, .int .i64 0]) ?_ 1 _ rfl; (with_reducible repeat (first | refine blk_drewN ?_ _ | refine blk_drew ?_ | refine blk_alloc ?_ _)); refine blk_put (cs := #[.int .i64 0, .int .i64 0]) ?_ 0 _ rfl; (with_reducible repeat (first | refine blk_drewN ?_ _ | refine blk_drew ?_ | refine blk_alloc ?_ _)); refine blk_far ?_ NB176_190.out _; (with_reducible repeat (first | refine blk_drewN ?_ _ | refine blk_drew ?_ | refine blk_alloc ?_ _)); refine blk_far ?_ NB176_190.out _; (with_reducible repeat (first | refine blk_drewN ?_ _ | refine blk_drew ?_ | refine blk_alloc ?_ _)); exact BK176.out) Try.underlying41 rfl (by kernel_rfl)) rfl ?_
 exact ⟨by first | rfl | (simp [errW_none, errW_some] <;> rfl) | (simp [*, errW_none, errW_some] <;> rfl), IsS53.aq_ HI0, IsS53.bs_ HI0 HB, ke_ HK⟩

/-! ### ratio_both: function 43 -/
def ratio_both.f (k : Nat) (a0_0 : Int) (a0_1 : Int) (a1_0 : Int) (a1_1 : Int) : Option (Int) := (ratio_Valid.f k a0_0 a0_1).bind fun t193 => (if t193 = true then ((ratio_Valid.f k a1_0 a1_1).bind fun t194 => (if t194 = true then (some 0) else (some 1))) else (some 1))
theorem ratio_both.mono : ∀ a0 a1 a2 a3 k, LeO (ratio_both.f k a0 a1 a2 a3) (ratio_both.f (k + 1) a0 a1 a2 a3) := by
 intro a0 a1 a2 a3 k
 unfold ratio_both.f
 repeat' first
  | (with_reducible exact ratio_Valid.mono _ _ _)
  | (with_reducible exact LeO.refl _)
  | (with_reducible exact LeO.none _)
  | (with_reducible refine LeO.ite ?_ ?_)
  | (with_reducible refine LeO.bind ?_ (fun _ => ?_))
  | exact ratio_Valid.mono _ _ _
  | exact LeO.none _
  | refine LeO.ite ?_ ?_
  | refine LeO.bind ?_ (fun _ => ?_)
set_option maxHeartbeats 8000000 in
set_option maxRecDepth 100000 in
theorem ratio_both.calls (k : Nat) (a0_0 : Int) (a0_1 : Int) (a1_0 : Int) (a1_1 : Int) (r : Int) (w : World) (h : ratio_both.f k a0_0 a0_1 a1_0 a1_1 = some r) :
 Calls Try.prog 43 #[.agg #[.int .i64 a0_0, .int .i64 a0_1], .agg #[.int .i64 a1_0, .int .i64 a1_1]] w fun e w' => e = .returned (.int .i64 r) ∧ Below w.heap.size w w' := by
 have hu41 := Try.underlying41
 have HB := Aside0.mk (Below.refl w.heap.size w)
 have H : ((ratio_Valid.f k a0_0 a0_1).bind fun t193 => (if t193 = true then ((ratio_Valid.f k a1_0 a1_1).bind fun t194 => (if t194 = true then (some 0) else (some 1))) else (some 1))) = some r := h
 clear h
 replace H := Option.bind_eq_some_iff.mp H
 obtain ⟨t193, A30, H⟩ := H
 replace H : (if t193 = true then ((ratio_Valid.f k a1_0 a1_1).bind fun t194 => (if t194 = true then (some 0) else (some 1))) else (some 1)) = some r := H
 have A3 := Aside0.mk A30
 clear A30
 by_cases c4 : t193 = true
 ·
  subst c4
  have H1 : ((ratio_Valid.f k a1_0 a1_1).bind fun t194 => (if t194 = true then (some 0) else (some 1))) = some r := by rw [if_pos rfl] at H; exact H
  clear H
  have H := H1
  clear H1
  replace H := Option.bind_eq_some_iff.mp H
  obtain ⟨t194, A50, H⟩ := H
  replace H : (if t194 = true then (some 0) else (some 1)) = some r := H
  have A5 := Aside0.mk A50
  clear A50
  by_cases c6 : t194 = true
  ·
   subst c6
   have H1 : (some 0) = some r := by rw [if_pos rfl] at H; exact H
   clear H
   have H := H1
   clear H1
   obtain rfl := Option.some.inj H
   go_enter Try.func43, Try.ntmps43
   go_wp2_with (first | ((with_reducible refine gate_dst (N := 2) rfl ?_); refine bx_ (N := 2) (cs := #[.int .i64 a0_0, .int .i64 a0_1]) (t := 41) ?_; intro gb191 hg w7 hbox hb; have BK191 := Aside0.mk (hbox); have GW191 := sz_ HB hg; have GE191 := sz_ HB hg; replace HB := ts_ HB hb; clear hb hbox hg) | ((with_reducible refine gate_dst (N := 3) rfl ?_); refine bx_ (N := 3) (cs := #[.int .i64 a1_0, .int .i64 a1_1]) (t := 41) ?_; intro gb192 hg w8 hbox hb; have BK192 := Aside0.mk (hbox); have GW192 := sz_ HB hg; have GE192 := sz_ HB hg; have NB191_192 := nl_ BK191 hg; have NB192_191 := nr_ BK191 hg; replace BK191 := tb_ BK191 hb; replace HB := ts_ HB hb; clear hb hbox hg; have hnb9 := NB191_192.out; have hnc9 := NB192_191.out; have hcz10_0 : w8.cell? ⟨gb191, 0, none⟩ = some (.int .i64 a0_0) := (blk_cell BK191.out 0).trans rfl; have hcz10_1 : w8.cell? ⟨gb191, 1, none⟩ = some (.int .i64 a0_1) := (blk_cell BK191.out 1).trans rfl; have hfz10_0 := blk_frozen BK191.out 0; have hfz10_1 := blk_frozen BK191.out 1) | ((with_reducible refine gate_callee (f := 41) rfl ?_); refine gq_ (some 6) rfl rfl Try.func41 #[.agg #[.int .i64 a0_0, .int .i64 a0_1]] rfl ?_; (with_reducible refine (ratio_Valid.calls k a0_0 a0_1 true _ A3.out).mono ?_); rintro e w11 ⟨rfl, hb⟩; refine ⟨_, rfl, ?_⟩; replace BK191 := tb_ BK191 hb; replace BK192 := tb_ BK192 hb; replace HB := ts_ HB hb; (try clear hb); (try clear hb2); (try clear hk); (try clear hi); have hcz12_0 : w11.cell? ⟨gb192, 0, none⟩ = some (.int .i64 a1_0) := (blk_cell BK192.out 0).trans rfl; have hcz12_1 : w11.cell? ⟨gb192, 1, none⟩ = some (.int .i64 a1_1) := (blk_cell BK192.out 1).trans rfl; have hfz12_0 := blk_frozen BK192.out 0; have hfz12_1 := blk_frozen BK192.out 1) | (go_at_call 41; (with_reducible refine (ratio_Valid.calls k a1_0 a1_1 true _ A5.out).mono ?_); rintro e w13 ⟨rfl, hb⟩; replace BK191 := tb_ BK191 hb; replace BK192 := tb_ BK192 hb; replace HB := ts_ HB hb; (try clear hb); (try clear hb2); (try clear hk); (try clear hi)))
   go_ret
   exact ⟨by first | rfl | (simp [errW_none, errW_some] <;> rfl) | (simp [*, errW_none, errW_some] <;> rfl), be_ HB⟩
  ·
   replace c6 := Bool.eq_false_iff.mpr c6
   subst c6
   have H1 : (some 1) = some r := by rw [if_neg (show ¬ (false = true) by decide)] at H; exact H
   clear H
   have H := H1
   clear H1
   obtain rfl := Option.some.inj H
   go_enter Try.func43, Try.ntmps43
   go_wp2_with (first | ((with_reducible refine gate_dst (N := 2) rfl ?_); refine bx_ (N := 2) (cs := #[.int .i64 a0_0, .int .i64 a0_1]) (t := 41) ?_; intro gb191 hg w14 hbox hb; have BK191 := Aside0.mk (hbox); have GW191 := sz_ HB hg; have GE191 := sz_ HB hg; replace HB := ts_ HB hb; clear hb hbox hg) | ((with_reducible refine gate_dst (N := 3) rfl ?_); refine bx_ (N := 3) (cs := #[.int .i64 a1_0, .int .i64 a1_1]) (t := 41) ?_; intro gb192 hg w15 hbox hb; have BK192 := Aside0.mk (hbox); have GW192 := sz_ HB hg; have GE192 := sz_ HB hg; have NB191_192 := nl_ BK191 hg; have NB192_191 := nr_ BK191 hg; replace BK191 := tb_ BK191 hb; replace HB := ts_ HB hb; clear hb hbox hg; have hnb16 := NB191_192.out; have hnc16 := NB192_191.out; have hcz17_0 : w15.cell? ⟨gb191, 0, none⟩ = some (.int .i64 a0_0) := (blk_cell BK191.out 0).trans rfl; have hcz17_1 : w15.cell? ⟨gb191, 1, none⟩ = some (.int .i64 a0_1) := (blk_cell BK191.out 1).trans rfl; have hfz17_0 := blk_frozen BK191.out 0; have hfz17_1 := blk_frozen BK191.out 1) | ((with_reducible refine gate_callee (f := 41) rfl ?_); refine gq_ (some 6) rfl rfl Try.func41 #[.agg #[.int .i64 a0_0, .int .i64 a0_1]] rfl ?_; (with_reducible refine (ratio_Valid.calls k a0_0 a0_1 true _ A3.out).mono ?_); rintro e w18 ⟨rfl, hb⟩; refine ⟨_, rfl, ?_⟩; replace BK191 := tb_ BK191 hb; replace BK192 := tb_ BK192 hb; replace HB := ts_ HB hb; (try clear hb); (try clear hb2); (try clear hk); (try clear hi); have hcz19_0 : w18.cell? ⟨gb192, 0, none⟩ = some (.int .i64 a1_0) := (blk_cell BK192.out 0).trans rfl; have hcz19_1 : w18.cell? ⟨gb192, 1, none⟩ = some (.int .i64 a1_1) := (blk_cell BK192.out 1).trans rfl; have hfz19_0 := blk_frozen BK192.out 0; have hfz19_1 := blk_frozen BK192.out 1) | (go_at_call 41; (with_reducible refine (ratio_Valid.calls k a1_0 a1_1 false _ A5.out).mono ?_); rintro e w20 ⟨rfl, hb⟩; replace BK191 := tb_ BK191 hb; replace BK192 := tb_ BK192 hb; replace HB := ts_ HB hb; (try clear hb); (try clear hb2); (try clear hk); (try clear hi)))
   go_ret
   exact ⟨by first | rfl | (simp [errW_none, errW_some] <;> rfl) | (simp [*, errW_none, errW_some] <;> rfl), be_ HB⟩
 ·
  replace c4 := Bool.eq_false_iff.mpr c4
  subst c4
  have H1 : (some 1) = some r := by rw [if_neg (show ¬ (false = true) by decide)] at H; exact H
  clear H
  have H := H1
  clear H1
  obtain rfl := Option.some.inj H
  go_enter Try.func43, Try.ntmps43
  go_wp2_with (first | ((with_reducible refine gate_dst (N := 2) rfl ?_); refine bx_ (N := 2) (cs := #[.int .i64 a0_0, .int .i64 a0_1]) (t := 41) ?_; intro gb191 hg w21 hbox hb; have BK191 := Aside0.mk (hbox); have GW191 := sz_ HB hg; have GE191 := sz_ HB hg; replace HB := ts_ HB hb; clear hb hbox hg) | ((with_reducible refine gate_dst (N := 3) rfl ?_); refine bx_ (N := 3) (cs := #[.int .i64 a1_0, .int .i64 a1_1]) (t := 41) ?_; intro gb192 hg w22 hbox hb; have BK192 := Aside0.mk (hbox); have GW192 := sz_ HB hg; have GE192 := sz_ HB hg; have NB191_192 := nl_ BK191 hg; have NB192_191 := nr_ BK191 hg; replace BK191 := tb_ BK191 hb; replace HB := ts_ HB hb; clear hb hbox hg; have hnb23 := NB191_192.out; have hnc23 := NB192_191.out; have hcz24_0 : w22.cell? ⟨gb191, 0, none⟩ = some (.int .i64 a0_0) := (blk_cell BK191.out 0).trans rfl; have hcz24_1 : w22.cell? ⟨gb191, 1, none⟩ = some (.int .i64 a0_1) := (blk_cell BK191.out 1).trans rfl; have hfz24_0 := blk_frozen BK191.out 0; have hfz24_1 := blk_frozen BK191.out 1) | ((with_reducible refine gate_callee (f := 41) rfl ?_); refine gq_ (some 6) rfl rfl Try.func41 #[.agg #[.int .i64 a0_0, .int .i64 a0_1]] rfl ?_; (with_reducible refine (ratio_Valid.calls k a0_0 a0_1 false _ A3.out).mono ?_); rintro e w25 ⟨rfl, hb⟩; refine ⟨_, rfl, ?_⟩; replace BK191 := tb_ BK191 hb; replace BK192 := tb_ BK192 hb; replace HB := ts_ HB hb; (try clear hb); (try clear hb2); (try clear hk); (try clear hi)))
  go_ret
  exact ⟨by first | rfl | (simp [errW_none, errW_some] <;> rfl) | (simp [*, errW_none, errW_some] <;> rfl), be_ HB⟩

/-! ### ratio_Compare: function 24 -/
def ratio_Compare.f (k : Nat) (a0_0 : Int) (a0_1 : Int) (a1_0 : Int) (a1_1 : Int) : Option (Int) := (ratio_both.f k a0_0 a0_1 a1_0 a1_1).bind fun t197 => (if t197 = 0 then (if (wrap64 (a0_0 * a1_1)) < (wrap64 (a1_0 * a0_1)) then (some (-1)) else (if (wrap64 (a0_0 * a1_1)) > (wrap64 (a1_0 * a0_1)) then (some 1) else (some 0))) else (some 0))
theorem ratio_Compare.mono : ∀ a0 a1 a2 a3 k, LeO (ratio_Compare.f k a0 a1 a2 a3) (ratio_Compare.f (k + 1) a0 a1 a2 a3) := by
 intro a0 a1 a2 a3 k
 unfold ratio_Compare.f
 repeat' first
  | (with_reducible exact ratio_both.mono _ _ _ _ _)
  | (with_reducible exact LeO.refl _)
  | (with_reducible exact LeO.none _)
  | (with_reducible refine LeO.ite ?_ ?_)
  | (with_reducible refine LeO.bind ?_ (fun _ => ?_))
  | exact ratio_both.mono _ _ _ _ _
  | exact LeO.none _
  | refine LeO.ite ?_ ?_
  | refine LeO.bind ?_ (fun _ => ?_)
set_option maxHeartbeats 8000000 in
set_option maxRecDepth 100000 in
theorem ratio_Compare.calls (k : Nat) (a0_0 : Int) (a0_1 : Int) (a1_0 : Int) (a1_1 : Int) (r : Int) (w : World) (h : ratio_Compare.f k a0_0 a0_1 a1_0 a1_1 = some r) :
 Calls Try.prog 24 #[.agg #[.int .i64 a0_0, .int .i64 a0_1], .agg #[.int .i64 a1_0, .int .i64 a1_1]] w fun e w' => e = .returned (.int .i64 r) ∧ Below w.heap.size w w' := by
 have hu41 := Try.underlying41
 have HB := Aside0.mk (Below.refl w.heap.size w)
 have H : ((ratio_both.f k a0_0 a0_1 a1_0 a1_1).bind fun t197 => (if t197 = 0 then (if (wrap64 (a0_0 * a1_1)) < (wrap64 (a1_0 * a0_1)) then (some (-1)) else (if (wrap64 (a0_0 * a1_1)) > (wrap64 (a1_0 * a0_1)) then (some 1) else (some 0))) else (some 0))) = some r := h
 clear h
 replace H := Option.bind_eq_some_iff.mp H
 obtain ⟨t197, A30, H⟩ := H
 replace H : (if t197 = 0 then (if (wrap64 (a0_0 * a1_1)) < (wrap64 (a1_0 * a0_1)) then (some (-1)) else (if (wrap64 (a0_0 * a1_1)) > (wrap64 (a1_0 * a0_1)) then (some 1) else (some 0))) else (some 0)) = some r := H
 have A3 := Aside0.mk A30
 clear A30
 by_cases c4 : t197 = 0
 ·
  rw [if_pos c4] at H
  have c4b0 : (t197 == 0) = true := beq_iff_eq.mpr c4
  have c4b1 : (t197 != 0) = false := bne_eq_false_iff_eq.mpr c4
  clear c4
  by_cases c5 : (wrap64 (a0_0 * a1_1)) < (wrap64 (a1_0 * a0_1))
  ·
   rw [if_pos c5] at H
   have c5b0 : decide ((wrap64 (a0_0 * a1_1)) < (wrap64 (a1_0 * a0_1))) = true := decide_eq_true c5
   clear c5
   obtain rfl := Option.some.inj H
   go_enter Try.func24, Try.ntmps24
   go_wp2_with (first | ((with_reducible refine gate_dst (N := 2) rfl ?_); refine bx_ (N := 2) (cs := #[.int .i64 a0_0, .int .i64 a0_1]) (t := 41) ?_; intro gb195 hg w6 hbox hb; have BK195 := Aside0.mk (hbox); have GW195 := sz_ HB hg; have GE195 := sz_ HB hg; replace HB := ts_ HB hb; clear hb hbox hg) | ((with_reducible refine gate_dst (N := 3) rfl ?_); refine bx_ (N := 3) (cs := #[.int .i64 a1_0, .int .i64 a1_1]) (t := 41) ?_; intro gb196 hg w7 hbox hb; have BK196 := Aside0.mk (hbox); have GW196 := sz_ HB hg; have GE196 := sz_ HB hg; have NB195_196 := nl_ BK195 hg; have NB196_195 := nr_ BK195 hg; replace BK195 := tb_ BK195 hb; replace HB := ts_ HB hb; clear hb hbox hg; have hnb8 := NB195_196.out; have hnc8 := NB196_195.out; have hcz9_0 : w7.cell? ⟨gb195, 0, none⟩ = some (.int .i64 a0_0) := (blk_cell BK195.out 0).trans rfl; have hcz9_1 : w7.cell? ⟨gb195, 1, none⟩ = some (.int .i64 a0_1) := (blk_cell BK195.out 1).trans rfl; have hfz9_0 := blk_frozen BK195.out 0; have hfz9_1 := blk_frozen BK195.out 1; have hcz10_0 : w7.cell? ⟨gb196, 0, none⟩ = some (.int .i64 a1_0) := (blk_cell BK196.out 0).trans rfl; have hcz10_1 : w7.cell? ⟨gb196, 1, none⟩ = some (.int .i64 a1_1) := (blk_cell BK196.out 1).trans rfl; have hfz10_0 := blk_frozen BK196.out 0; have hfz10_1 := blk_frozen BK196.out 1) | (go_at_call 43; (with_reducible refine (ratio_both.calls k a0_0 a0_1 a1_0 a1_1 t197 _ A3.out).mono ?_); rintro e w11 ⟨rfl, hb⟩; replace BK195 := tb_ BK195 hb; replace BK196 := tb_ BK196 hb; replace HB := ts_ HB hb; (try clear hb); (try clear hb2); (try clear hk); (try clear hi); have hcz12_0 : w11.cell? ⟨gb195, 0, none⟩ = some (.int .i64 a0_0) := (blk_cell BK195.out 0).trans rfl; have hcz12_1 : w11.cell? ⟨gb195, 1, none⟩ = some (.int .i64 a0_1) := (blk_cell BK195.out 1).trans rfl; have hfz12_0 := blk_frozen BK195.out 0; have hfz12_1 := blk_frozen BK195.out 1; have hcz13_0 : w11.cell? ⟨gb196, 0, none⟩ = some (.int .i64 a1_0) := (blk_cell BK196.out 0).trans rfl; have hcz13_1 : w11.cell? ⟨gb196, 1, none⟩ = some (.int .i64 a1_1) := (blk_cell BK196.out 1).trans rfl; have hfz13_0 := blk_frozen BK196.out 0; have hfz13_1 := blk_frozen BK196.out 1))
   repeat (go_quiet (first | ((with_reducible refine gate_dst (N := 2) rfl ?_); refine bx_ (N := 2) (cs := #[.int .i64 a0_0, .int .i64 a0_1]) (t := 41) ?_; intro gb195 hg w6 hbox hb; have BK195 := Aside0.mk (hbox); have GW195 := sz_ HB hg; have GE195 := sz_ HB hg; replace HB := ts_ HB hb; clear hb hbox hg) | ((with_reducible refine gate_dst (N := 3) rfl ?_); refine bx_ (N := 3) (cs := #[.int .i64 a1_0, .int .i64 a1_1]) (t := 41) ?_; intro gb196 hg w7 hbox hb; have BK196 := Aside0.mk (hbox); have GW196 := sz_ HB hg; have GE196 := sz_ HB hg; have NB195_196 := nl_ BK195 hg; have NB196_195 := nr_ BK195 hg; replace BK195 := tb_ BK195 hb; replace HB := ts_ HB hb; clear hb hbox hg; have hnb8 := NB195_196.out; have hnc8 := NB196_195.out; have hcz9_0 : w7.cell? ⟨gb195, 0, none⟩ = some (.int .i64 a0_0) := (blk_cell BK195.out 0).trans rfl; have hcz9_1 : w7.cell? ⟨gb195, 1, none⟩ = some (.int .i64 a0_1) := (blk_cell BK195.out 1).trans rfl; have hfz9_0 := blk_frozen BK195.out 0; have hfz9_1 := blk_frozen BK195.out 1; have hcz10_0 : w7.cell? ⟨gb196, 0, none⟩ = some (.int .i64 a1_0) := (blk_cell BK196.out 0).trans rfl; have hcz10_1 : w7.cell? ⟨gb196, 1, none⟩ = some (.int .i64 a1_1) := (blk_cell BK196.out 1).trans rfl; have hfz10_0 := blk_frozen BK196.out 0; have hfz10_1 := blk_frozen BK196.out 1) | (go_at_call 43; (with_reducible refine (ratio_both.calls k a0_0 a0_1 a1_0 a1_1 t197 _ A3.out).mono ?_); rintro e w11 ⟨rfl, hb⟩; replace BK195 := tb_ BK195 hb; replace BK196 := tb_ BK196 hb; replace HB := ts_ HB hb; (try clear hb); (try clear hb2); (try clear hk); (try clear hi); have hcz12_0 : w11.cell? ⟨gb195, 0, none⟩ = some (.int .i64 a0_0) := (blk_cell BK195.out 0).trans rfl; have hcz12_1 : w11.cell? ⟨gb195, 1, none⟩ = some (.int .i64 a0_1) := (blk_cell BK195.out 1).trans rfl; have hfz12_0 := blk_frozen BK195.out 0; have hfz12_1 := blk_frozen BK195.out 1; have hcz13_0 : w11.cell? ⟨gb196, 0, none⟩ = some (.int .i64 a1_0) := (blk_cell BK196.out 0).trans rfl; have hcz13_1 : w11.cell? ⟨gb196, 1, none⟩ = some (.int .i64 a1_1) := (blk_cell BK196.out 1).trans rfl; have hfz13_0 := blk_frozen BK196.out 0; have hfz13_1 := blk_frozen BK196.out 1)); try go_wp2_with (first | ((with_reducible refine gate_dst (N := 2) rfl ?_); refine bx_ (N := 2) (cs := #[.int .i64 a0_0, .int .i64 a0_1]) (t := 41) ?_; intro gb195 hg w6 hbox hb; have BK195 := Aside0.mk (hbox); have GW195 := sz_ HB hg; have GE195 := sz_ HB hg; replace HB := ts_ HB hb; clear hb hbox hg) | ((with_reducible refine gate_dst (N := 3) rfl ?_); refine bx_ (N := 3) (cs := #[.int .i64 a1_0, .int .i64 a1_1]) (t := 41) ?_; intro gb196 hg w7 hbox hb; have BK196 := Aside0.mk (hbox); have GW196 := sz_ HB hg; have GE196 := sz_ HB hg; have NB195_196 := nl_ BK195 hg; have NB196_195 := nr_ BK195 hg; replace BK195 := tb_ BK195 hb; replace HB := ts_ HB hb; clear hb hbox hg; have hnb8 := NB195_196.out; have hnc8 := NB196_195.out; have hcz9_0 : w7.cell? ⟨gb195, 0, none⟩ = some (.int .i64 a0_0) := (blk_cell BK195.out 0).trans rfl; have hcz9_1 : w7.cell? ⟨gb195, 1, none⟩ = some (.int .i64 a0_1) := (blk_cell BK195.out 1).trans rfl; have hfz9_0 := blk_frozen BK195.out 0; have hfz9_1 := blk_frozen BK195.out 1; have hcz10_0 : w7.cell? ⟨gb196, 0, none⟩ = some (.int .i64 a1_0) := (blk_cell BK196.out 0).trans rfl; have hcz10_1 : w7.cell? ⟨gb196, 1, none⟩ = some (.int .i64 a1_1) := (blk_cell BK196.out 1).trans rfl; have hfz10_0 := blk_frozen BK196.out 0; have hfz10_1 := blk_frozen BK196.out 1) | (go_at_call 43; (with_reducible refine (ratio_both.calls k a0_0 a0_1 a1_0 a1_1 t197 _ A3.out).mono ?_); rintro e w11 ⟨rfl, hb⟩; replace BK195 := tb_ BK195 hb; replace BK196 := tb_ BK196 hb; replace HB := ts_ HB hb; (try clear hb); (try clear hb2); (try clear hk); (try clear hi); have hcz12_0 : w11.cell? ⟨gb195, 0, none⟩ = some (.int .i64 a0_0) := (blk_cell BK195.out 0).trans rfl; have hcz12_1 : w11.cell? ⟨gb195, 1, none⟩ = some (.int .i64 a0_1) := (blk_cell BK195.out 1).trans rfl; have hfz12_0 := blk_frozen BK195.out 0; have hfz12_1 := blk_frozen BK195.out 1; have hcz13_0 : w11.cell? ⟨gb196, 0, none⟩ = some (.int .i64 a1_0) := (blk_cell BK196.out 0).trans rfl; have hcz13_1 : w11.cell? ⟨gb196, 1, none⟩ = some (.int .i64 a1_1) := (blk_cell BK196.out 1).trans rfl; have hfz13_0 := blk_frozen BK196.out 0; have hfz13_1 := blk_frozen BK196.out 1)))
   go_ret
   exact ⟨by first | rfl | (simp [errW_none, errW_some] <;> rfl) | (simp [*, errW_none, errW_some] <;> rfl), be_ HB⟩
  ·
   rw [if_neg c5] at H
   have c5b0 : decide ((wrap64 (a0_0 * a1_1)) < (wrap64 (a1_0 * a0_1))) = false := decide_eq_false c5
   clear c5
   by_cases c14 : (wrap64 (a0_0 * a1_1)) > (wrap64 (a1_0 * a0_1))
   ·
    rw [if_pos c14] at H
    have c14b0 : decide ((wrap64 (a1_0 * a0_1)) < (wrap64 (a0_0 * a1_1))) = true := decide_eq_true c14
    clear c14
    obtain rfl := Option.some.inj H
    go_enter Try.func24, Try.ntmps24
    go_wp2_with (first | ((with_reducible refine gate_dst (N := 2) rfl ?_); refine bx_ (N := 2) (cs := #[.int .i64 a0_0, .int .i64 a0_1]) (t := 41) ?_; intro gb195 hg w15 hbox hb; have BK195 := Aside0.mk (hbox); have GW195 := sz_ HB hg; have GE195 := sz_ HB hg; replace HB := ts_ HB hb; clear hb hbox hg) | ((with_reducible refine gate_dst (N := 3) rfl ?_); refine bx_ (N := 3) (cs := #[.int .i64 a1_0, .int .i64 a1_1]) (t := 41) ?_; intro gb196 hg w16 hbox hb; have BK196 := Aside0.mk (hbox); have GW196 := sz_ HB hg; have GE196 := sz_ HB hg; have NB195_196 := nl_ BK195 hg; have NB196_195 := nr_ BK195 hg; replace BK195 := tb_ BK195 hb; replace HB := ts_ HB hb; clear hb hbox hg; have hnb17 := NB195_196.out; have hnc17 := NB196_195.out; have hcz18_0 : w16.cell? ⟨gb195, 0, none⟩ = some (.int .i64 a0_0) := (blk_cell BK195.out 0).trans rfl; have hcz18_1 : w16.cell? ⟨gb195, 1, none⟩ = some (.int .i64 a0_1) := (blk_cell BK195.out 1).trans rfl; have hfz18_0 := blk_frozen BK195.out 0; have hfz18_1 := blk_frozen BK195.out 1; have hcz19_0 : w16.cell? ⟨gb196, 0, none⟩ = some (.int .i64 a1_0) := (blk_cell BK196.out 0).trans rfl; have hcz19_1 : w16.cell? ⟨gb196, 1, none⟩ = some (.int .i64 a1_1) := (blk_cell BK196.out 1).trans rfl; have hfz19_0 := blk_frozen BK196.out 0; have hfz19_1 := blk_frozen BK196.out 1) | (go_at_call 43; (with_reducible refine (ratio_both.calls k a0_0 a0_1 a1_0 a1_1 t197 _ A3.out).mono ?_); rintro e w20 ⟨rfl, hb⟩; replace BK195 := tb_ BK195 hb; replace BK196 := tb_ BK196 hb; replace HB := ts_ HB hb; (try clear hb); (try clear hb2); (try clear hk); (try clear hi); have hcz21_0 : w20.cell? ⟨gb195, 0, none⟩ = some (.int .i64 a0_0) := (blk_cell BK195.out 0).trans rfl; have hcz21_1 : w20.cell? ⟨gb195, 1, none⟩ = some (.int .i64 a0_1) := (blk_cell BK195.out 1).trans rfl; have hfz21_0 := blk_frozen BK195.out 0; have hfz21_1 := blk_frozen BK195.out 1; have hcz22_0 : w20.cell? ⟨gb196, 0, none⟩ = some (.int .i64 a1_0) := (blk_cell BK196.out 0).trans rfl; have hcz22_1 : w20.cell? ⟨gb196, 1, none⟩ = some (.int .i64 a1_1) := (blk_cell BK196.out 1).trans rfl; have hfz22_0 := blk_frozen BK196.out 0; have hfz22_1 := blk_frozen BK196.out 1))
    repeat (go_quiet (first | ((with_reducible refine gate_dst (N := 2) rfl ?_); refine bx_ (N := 2) (cs := #[.int .i64 a0_0, .int .i64 a0_1]) (t := 41) ?_; intro gb195 hg w15 hbox hb; have BK195 := Aside0.mk (hbox); have GW195 := sz_ HB hg; have GE195 := sz_ HB hg; replace HB := ts_ HB hb; clear hb hbox hg) | ((with_reducible refine gate_dst (N := 3) rfl ?_); refine bx_ (N := 3) (cs := #[.int .i64 a1_0, .int .i64 a1_1]) (t := 41) ?_; intro gb196 hg w16 hbox hb; have BK196 := Aside0.mk (hbox); have GW196 := sz_ HB hg; have GE196 := sz_ HB hg; have NB195_196 := nl_ BK195 hg; have NB196_195 := nr_ BK195 hg; replace BK195 := tb_ BK195 hb; replace HB := ts_ HB hb; clear hb hbox hg; have hnb17 := NB195_196.out; have hnc17 := NB196_195.out; have hcz18_0 : w16.cell? ⟨gb195, 0, none⟩ = some (.int .i64 a0_0) := (blk_cell BK195.out 0).trans rfl; have hcz18_1 : w16.cell? ⟨gb195, 1, none⟩ = some (.int .i64 a0_1) := (blk_cell BK195.out 1).trans rfl; have hfz18_0 := blk_frozen BK195.out 0; have hfz18_1 := blk_frozen BK195.out 1; have hcz19_0 : w16.cell? ⟨gb196, 0, none⟩ = some (.int .i64 a1_0) := (blk_cell BK196.out 0).trans rfl; have hcz19_1 : w16.cell? ⟨gb196, 1, none⟩ = some (.int .i64 a1_1) := (blk_cell BK196.out 1).trans rfl; have hfz19_0 := blk_frozen BK196.out 0; have hfz19_1 := blk_frozen BK196.out 1) | (go_at_call 43; (with_reducible refine (ratio_both.calls k a0_0 a0_1 a1_0 a1_1 t197 _ A3.out).mono ?_); rintro e w20 ⟨rfl, hb⟩; replace BK195 := tb_ BK195 hb; replace BK196 := tb_ BK196 hb; replace HB := ts_ HB hb; (try clear hb); (try clear hb2); (try clear hk); (try clear hi); have hcz21_0 : w20.cell? ⟨gb195, 0, none⟩ = some (.int .i64 a0_0) := (blk_cell BK195.out 0).trans rfl; have hcz21_1 : w20.cell? ⟨gb195, 1, none⟩ = some (.int .i64 a0_1) := (blk_cell BK195.out 1).trans rfl; have hfz21_0 := blk_frozen BK195.out 0; have hfz21_1 := blk_frozen BK195.out 1; have hcz22_0 : w20.cell? ⟨gb196, 0, none⟩ = some (.int .i64 a1_0) := (blk_cell BK196.out 0).trans rfl; have hcz22_1 : w20.cell? ⟨gb196, 1, none⟩ = some (.int .i64 a1_1) := (blk_cell BK196.out 1).trans rfl; have hfz22_0 := blk_frozen BK196.out 0; have hfz22_1 := blk_frozen BK196.out 1)); try go_wp2_with (first | ((with_reducible refine gate_dst (N := 2) rfl ?_); refine bx_ (N := 2) (cs := #[.int .i64 a0_0, .int .i64 a0_1]) (t := 41) ?_; intro gb195 hg w15 hbox hb; have BK195 := Aside0.mk (hbox); have GW195 := sz_ HB hg; have GE195 := sz_ HB hg; replace HB := ts_ HB hb; clear hb hbox hg) | ((with_reducible refine gate_dst (N := 3) rfl ?_); refine bx_ (N := 3) (cs := #[.int .i64 a1_0, .int .i64 a1_1]) (t := 41) ?_; intro gb196 hg w16 hbox hb; have BK196 := Aside0.mk (hbox); have GW196 := sz_ HB hg; have GE196 := sz_ HB hg; have NB195_196 := nl_ BK195 hg; have NB196_195 := nr_ BK195 hg; replace BK195 := tb_ BK195 hb; replace HB := ts_ HB hb; clear hb hbox hg; have hnb17 := NB195_196.out; have hnc17 := NB196_195.out; have hcz18_0 : w16.cell? ⟨gb195, 0, none⟩ = some (.int .i64 a0_0) := (blk_cell BK195.out 0).trans rfl; have hcz18_1 : w16.cell? ⟨gb195, 1, none⟩ = some (.int .i64 a0_1) := (blk_cell BK195.out 1).trans rfl; have hfz18_0 := blk_frozen BK195.out 0; have hfz18_1 := blk_frozen BK195.out 1; have hcz19_0 : w16.cell? ⟨gb196, 0, none⟩ = some (.int .i64 a1_0) := (blk_cell BK196.out 0).trans rfl; have hcz19_1 : w16.cell? ⟨gb196, 1, none⟩ = some (.int .i64 a1_1) := (blk_cell BK196.out 1).trans rfl; have hfz19_0 := blk_frozen BK196.out 0; have hfz19_1 := blk_frozen BK196.out 1) | (go_at_call 43; (with_reducible refine (ratio_both.calls k a0_0 a0_1 a1_0 a1_1 t197 _ A3.out).mono ?_); rintro e w20 ⟨rfl, hb⟩; replace BK195 := tb_ BK195 hb; replace BK196 := tb_ BK196 hb; replace HB := ts_ HB hb; (try clear hb); (try clear hb2); (try clear hk); (try clear hi); have hcz21_0 : w20.cell? ⟨gb195, 0, none⟩ = some (.int .i64 a0_0) := (blk_cell BK195.out 0).trans rfl; have hcz21_1 : w20.cell? ⟨gb195, 1, none⟩ = some (.int .i64 a0_1) := (blk_cell BK195.out 1).trans rfl; have hfz21_0 := blk_frozen BK195.out 0; have hfz21_1 := blk_frozen BK195.out 1; have hcz22_0 : w20.cell? ⟨gb196, 0, none⟩ = some (.int .i64 a1_0) := (blk_cell BK196.out 0).trans rfl; have hcz22_1 : w20.cell? ⟨gb196, 1, none⟩ = some (.int .i64 a1_1) := (blk_cell BK196.out 1).trans rfl; have hfz22_0 := blk_frozen BK196.out 0; have hfz22_1 := blk_frozen BK196.out 1)))
    go_ret
    exact ⟨by first | rfl | (simp [errW_none, errW_some] <;> rfl) | (simp [*, errW_none, errW_some] <;> rfl), be_ HB⟩
   ·
    rw [if_neg c14] at H
    have c14b0 : decide ((wrap64 (a1_0 * a0_1)) < (wrap64 (a0_0 * a1_1))) = false := decide_eq_false c14
    clear c14
    obtain rfl := Option.some.inj H
    go_enter Try.func24, Try.ntmps24
    go_wp2_with (first | ((with_reducible refine gate_dst (N := 2) rfl ?_); refine bx_ (N := 2) (cs := #[.int .i64 a0_0, .int .i64 a0_1]) (t := 41) ?_; intro gb195 hg w23 hbox hb; have BK195 := Aside0.mk (hbox); have GW195 := sz_ HB hg; have GE195 := sz_ HB hg; replace HB := ts_ HB hb; clear hb hbox hg) | ((with_reducible refine gate_dst (N := 3) rfl ?_); refine bx_ (N := 3) (cs := #[.int .i64 a1_0, .int .i64 a1_1]) (t := 41) ?_; intro gb196 hg w24 hbox hb; have BK196 := Aside0.mk (hbox); have GW196 := sz_ HB hg; have GE196 := sz_ HB hg; have NB195_196 := nl_ BK195 hg; have NB196_195 := nr_ BK195 hg; replace BK195 := tb_ BK195 hb; replace HB := ts_ HB hb; clear hb hbox hg; have hnb25 := NB195_196.out; have hnc25 := NB196_195.out; have hcz26_0 : w24.cell? ⟨gb195, 0, none⟩ = some (.int .i64 a0_0) := (blk_cell BK195.out 0).trans rfl; have hcz26_1 : w24.cell? ⟨gb195, 1, none⟩ = some (.int .i64 a0_1) := (blk_cell BK195.out 1).trans rfl; have hfz26_0 := blk_frozen BK195.out 0; have hfz26_1 := blk_frozen BK195.out 1; have hcz27_0 : w24.cell? ⟨gb196, 0, none⟩ = some (.int .i64 a1_0) := (blk_cell BK196.out 0).trans rfl; have hcz27_1 : w24.cell? ⟨gb196, 1, none⟩ = some (.int .i64 a1_1) := (blk_cell BK196.out 1).trans rfl; have hfz27_0 := blk_frozen BK196.out 0; have hfz27_1 := blk_frozen BK196.out 1) | (go_at_call 43; (with_reducible refine (ratio_both.calls k a0_0 a0_1 a1_0 a1_1 t197 _ A3.out).mono ?_); rintro e w28 ⟨rfl, hb⟩; replace BK195 := tb_ BK195 hb; replace BK196 := tb_ BK196 hb; replace HB := ts_ HB hb; (try clear hb); (try clear hb2); (try clear hk); (try clear hi); have hcz29_0 : w28.cell? ⟨gb195, 0, none⟩ = some (.int .i64 a0_0) := (blk_cell BK195.out 0).trans rfl; have hcz29_1 : w28.cell? ⟨gb195, 1, none⟩ = some (.int .i64 a0_1) := (blk_cell BK195.out 1).trans rfl; have hfz29_0 := blk_frozen BK195.out 0; have hfz29_1 := blk_frozen BK195.out 1; have hcz30_0 : w28.cell? ⟨gb196, 0, none⟩ = some (.int .i64 a1_0) := (blk_cell BK196.out 0).trans rfl; have hcz30_1 : w28.cell? ⟨gb196, 1, none⟩ = some (.int .i64 a1_1) := (blk_cell BK196.out 1).trans rfl; have hfz30_0 := blk_frozen BK196.out 0; have hfz30_1 := blk_frozen BK196.out 1))
    repeat (go_quiet (first | ((with_reducible refine gate_dst (N := 2) rfl ?_); refine bx_ (N := 2) (cs := #[.int .i64 a0_0, .int .i64 a0_1]) (t := 41) ?_; intro gb195 hg w23 hbox hb; have BK195 := Aside0.mk (hbox); have GW195 := sz_ HB hg; have GE195 := sz_ HB hg; replace HB := ts_ HB hb; clear hb hbox hg) | ((with_reducible refine gate_dst (N := 3) rfl ?_); refine bx_ (N := 3) (cs := #[.int .i64 a1_0, .int .i64 a1_1]) (t := 41) ?_; intro gb196 hg w24 hbox hb; have BK196 := Aside0.mk (hbox); have GW196 := sz_ HB hg; have GE196 := sz_ HB hg; have NB195_196 := nl_ BK195 hg; have NB196_195 := nr_ BK195 hg; replace BK195 := tb_ BK195 hb; replace HB := ts_ HB hb; clear hb hbox hg; have hnb25 := NB195_196.out; have hnc25 := NB196_195.out; have hcz26_0 : w24.cell? ⟨gb195, 0, none⟩ = some (.int .i64 a0_0) := (blk_cell BK195.out 0).trans rfl; have hcz26_1 : w24.cell? ⟨gb195, 1, none⟩ = some (.int .i64 a0_1) := (blk_cell BK195.out 1).trans rfl; have hfz26_0 := blk_frozen BK195.out 0; have hfz26_1 := blk_frozen BK195.out 1; have hcz27_0 : w24.cell? ⟨gb196, 0, none⟩ = some (.int .i64 a1_0) := (blk_cell BK196.out 0).trans rfl; have hcz27_1 : w24.cell? ⟨gb196, 1, none⟩ = some (.int .i64 a1_1) := (blk_cell BK196.out 1).trans rfl; have hfz27_0 := blk_frozen BK196.out 0; have hfz27_1 := blk_frozen BK196.out 1) | (go_at_call 43; (with_reducible refine (ratio_both.calls k a0_0 a0_1 a1_0 a1_1 t197 _ A3.out).mono ?_); rintro e w28 ⟨rfl, hb⟩; replace BK195 := tb_ BK195 hb; replace BK196 := tb_ BK196 hb; replace HB := ts_ HB hb; (try clear hb); (try clear hb2); (try clear hk); (try clear hi); have hcz29_0 : w28.cell? ⟨gb195, 0, none⟩ = some (.int .i64 a0_0) := (blk_cell BK195.out 0).trans rfl; have hcz29_1 : w28.cell? ⟨gb195, 1, none⟩ = some (.int .i64 a0_1) := (blk_cell BK195.out 1).trans rfl; have hfz29_0 := blk_frozen BK195.out 0; have hfz29_1 := blk_frozen BK195.out 1; have hcz30_0 : w28.cell? ⟨gb196, 0, none⟩ = some (.int .i64 a1_0) := (blk_cell BK196.out 0).trans rfl; have hcz30_1 : w28.cell? ⟨gb196, 1, none⟩ = some (.int .i64 a1_1) := (blk_cell BK196.out 1).trans rfl; have hfz30_0 := blk_frozen BK196.out 0; have hfz30_1 := blk_frozen BK196.out 1)); try go_wp2_with (first | ((with_reducible refine gate_dst (N := 2) rfl ?_); refine bx_ (N := 2) (cs := #[.int .i64 a0_0, .int .i64 a0_1]) (t := 41) ?_; intro gb195 hg w23 hbox hb; have BK195 := Aside0.mk (hbox); have GW195 := sz_ HB hg; have GE195 := sz_ HB hg; replace HB := ts_ HB hb; clear hb hbox hg) | ((with_reducible refine gate_dst (N := 3) rfl ?_); refine bx_ (N := 3) (cs := #[.int .i64 a1_0, .int .i64 a1_1]) (t := 41) ?_; intro gb196 hg w24 hbox hb; have BK196 := Aside0.mk (hbox); have GW196 := sz_ HB hg; have GE196 := sz_ HB hg; have NB195_196 := nl_ BK195 hg; have NB196_195 := nr_ BK195 hg; replace BK195 := tb_ BK195 hb; replace HB := ts_ HB hb; clear hb hbox hg; have hnb25 := NB195_196.out; have hnc25 := NB196_195.out; have hcz26_0 : w24.cell? ⟨gb195, 0, none⟩ = some (.int .i64 a0_0) := (blk_cell BK195.out 0).trans rfl; have hcz26_1 : w24.cell? ⟨gb195, 1, none⟩ = some (.int .i64 a0_1) := (blk_cell BK195.out 1).trans rfl; have hfz26_0 := blk_frozen BK195.out 0; have hfz26_1 := blk_frozen BK195.out 1; have hcz27_0 : w24.cell? ⟨gb196, 0, none⟩ = some (.int .i64 a1_0) := (blk_cell BK196.out 0).trans rfl; have hcz27_1 : w24.cell? ⟨gb196, 1, none⟩ = some (.int .i64 a1_1) := (blk_cell BK196.out 1).trans rfl; have hfz27_0 := blk_frozen BK196.out 0; have hfz27_1 := blk_frozen BK196.out 1) | (go_at_call 43; (with_reducible refine (ratio_both.calls k a0_0 a0_1 a1_0 a1_1 t197 _ A3.out).mono ?_); rintro e w28 ⟨rfl, hb⟩; replace BK195 := tb_ BK195 hb; replace BK196 := tb_ BK196 hb; replace HB := ts_ HB hb; (try clear hb); (try clear hb2); (try clear hk); (try clear hi); have hcz29_0 : w28.cell? ⟨gb195, 0, none⟩ = some (.int .i64 a0_0) := (blk_cell BK195.out 0).trans rfl; have hcz29_1 : w28.cell? ⟨gb195, 1, none⟩ = some (.int .i64 a0_1) := (blk_cell BK195.out 1).trans rfl; have hfz29_0 := blk_frozen BK195.out 0; have hfz29_1 := blk_frozen BK195.out 1; have hcz30_0 : w28.cell? ⟨gb196, 0, none⟩ = some (.int .i64 a1_0) := (blk_cell BK196.out 0).trans rfl; have hcz30_1 : w28.cell? ⟨gb196, 1, none⟩ = some (.int .i64 a1_1) := (blk_cell BK196.out 1).trans rfl; have hfz30_0 := blk_frozen BK196.out 0; have hfz30_1 := blk_frozen BK196.out 1)))
    go_ret
    exact ⟨by first | rfl | (simp [errW_none, errW_some] <;> rfl) | (simp [*, errW_none, errW_some] <;> rfl), be_ HB⟩
 ·
  rw [if_neg c4] at H
  have c4b0 : (t197 == 0) = false := beq_eq_false_iff_ne.mpr c4
  have c4b1 : (t197 != 0) = true := bne_iff_ne.mpr c4
  obtain rfl := Option.some.inj H
  go_enter Try.func24, Try.ntmps24
  go_wp2_with (first | ((with_reducible refine gate_dst (N := 2) rfl ?_); refine bx_ (N := 2) (cs := #[.int .i64 a0_0, .int .i64 a0_1]) (t := 41) ?_; intro gb195 hg w31 hbox hb; have BK195 := Aside0.mk (hbox); have GW195 := sz_ HB hg; have GE195 := sz_ HB hg; replace HB := ts_ HB hb; clear hb hbox hg) | ((with_reducible refine gate_dst (N := 3) rfl ?_); refine bx_ (N := 3) (cs := #[.int .i64 a1_0, .int .i64 a1_1]) (t := 41) ?_; intro gb196 hg w32 hbox hb; have BK196 := Aside0.mk (hbox); have GW196 := sz_ HB hg; have GE196 := sz_ HB hg; have NB195_196 := nl_ BK195 hg; have NB196_195 := nr_ BK195 hg; replace BK195 := tb_ BK195 hb; replace HB := ts_ HB hb; clear hb hbox hg; have hnb33 := NB195_196.out; have hnc33 := NB196_195.out; have hcz34_0 : w32.cell? ⟨gb195, 0, none⟩ = some (.int .i64 a0_0) := (blk_cell BK195.out 0).trans rfl; have hcz34_1 : w32.cell? ⟨gb195, 1, none⟩ = some (.int .i64 a0_1) := (blk_cell BK195.out 1).trans rfl; have hfz34_0 := blk_frozen BK195.out 0; have hfz34_1 := blk_frozen BK195.out 1; have hcz35_0 : w32.cell? ⟨gb196, 0, none⟩ = some (.int .i64 a1_0) := (blk_cell BK196.out 0).trans rfl; have hcz35_1 : w32.cell? ⟨gb196, 1, none⟩ = some (.int .i64 a1_1) := (blk_cell BK196.out 1).trans rfl; have hfz35_0 := blk_frozen BK196.out 0; have hfz35_1 := blk_frozen BK196.out 1) | (go_at_call 43; (with_reducible refine (ratio_both.calls k a0_0 a0_1 a1_0 a1_1 t197 _ A3.out).mono ?_); rintro e w36 ⟨rfl, hb⟩; replace BK195 := tb_ BK195 hb; replace BK196 := tb_ BK196 hb; replace HB := ts_ HB hb; (try clear hb); (try clear hb2); (try clear hk); (try clear hi)))
  repeat (go_quiet (first | ((with_reducible refine gate_dst (N := 2) rfl ?_); refine bx_ (N := 2) (cs := #[.int .i64 a0_0, .int .i64 a0_1]) (t := 41) ?_; intro gb195 hg w31 hbox hb; have BK195 := Aside0.mk (hbox); have GW195 := sz_ HB hg; have GE195 := sz_ HB hg; replace HB := ts_ HB hb; clear hb hbox hg) | ((with_reducible refine gate_dst (N := 3) rfl ?_); refine bx_ (N := 3) (cs := #[.int .i64 a1_0, .int .i64 a1_1]) (t := 41) ?_; intro gb196 hg w32 hbox hb; have BK196 := Aside0.mk (hbox); have GW196 := sz_ HB hg; have GE196 := sz_ HB hg; have NB195_196 := nl_ BK195 hg; have NB196_195 := nr_ BK195 hg; replace BK195 := tb_ BK195 hb; replace HB := ts_ HB hb; clear hb hbox hg; have hnb33 := NB195_196.out; have hnc33 := NB196_195.out; have hcz34_0 : w32.cell? ⟨gb195, 0, none⟩ = some (.int .i64 a0_0) := (blk_cell BK195.out 0).trans rfl; have hcz34_1 : w32.cell? ⟨gb195, 1, none⟩ = some (.int .i64 a0_1) := (blk_cell BK195.out 1).trans rfl; have hfz34_0 := blk_frozen BK195.out 0; have hfz34_1 := blk_frozen BK195.out 1; have hcz35_0 : w32.cell? ⟨gb196, 0, none⟩ = some (.int .i64 a1_0) := (blk_cell BK196.out 0).trans rfl; have hcz35_1 : w32.cell? ⟨gb196, 1, none⟩ = some (.int .i64 a1_1) := (blk_cell BK196.out 1).trans rfl; have hfz35_0 := blk_frozen BK196.out 0; have hfz35_1 := blk_frozen BK196.out 1) | (go_at_call 43; (with_reducible refine (ratio_both.calls k a0_0 a0_1 a1_0 a1_1 t197 _ A3.out).mono ?_); rintro e w36 ⟨rfl, hb⟩; replace BK195 := tb_ BK195 hb; replace BK196 := tb_ BK196 hb; replace HB := ts_ HB hb; (try clear hb); (try clear hb2); (try clear hk); (try clear hi))); try go_wp2_with (first | ((with_reducible refine gate_dst (N := 2) rfl ?_); refine bx_ (N := 2) (cs := #[.int .i64 a0_0, .int .i64 a0_1]) (t := 41) ?_; intro gb195 hg w31 hbox hb; have BK195 := Aside0.mk (hbox); have GW195 := sz_ HB hg; have GE195 := sz_ HB hg; replace HB := ts_ HB hb; clear hb hbox hg) | ((with_reducible refine gate_dst (N := 3) rfl ?_); refine bx_ (N := 3) (cs := #[.int .i64 a1_0, .int .i64 a1_1]) (t := 41) ?_; intro gb196 hg w32 hbox hb; have BK196 := Aside0.mk (hbox); have GW196 := sz_ HB hg; have GE196 := sz_ HB hg; have NB195_196 := nl_ BK195 hg; have NB196_195 := nr_ BK195 hg; replace BK195 := tb_ BK195 hb; replace HB := ts_ HB hb; clear hb hbox hg; have hnb33 := NB195_196.out; have hnc33 := NB196_195.out; have hcz34_0 : w32.cell? ⟨gb195, 0, none⟩ = some (.int .i64 a0_0) := (blk_cell BK195.out 0).trans rfl; have hcz34_1 : w32.cell? ⟨gb195, 1, none⟩ = some (.int .i64 a0_1) := (blk_cell BK195.out 1).trans rfl; have hfz34_0 := blk_frozen BK195.out 0; have hfz34_1 := blk_frozen BK195.out 1; have hcz35_0 : w32.cell? ⟨gb196, 0, none⟩ = some (.int .i64 a1_0) := (blk_cell BK196.out 0).trans rfl; have hcz35_1 : w32.cell? ⟨gb196, 1, none⟩ = some (.int .i64 a1_1) := (blk_cell BK196.out 1).trans rfl; have hfz35_0 := blk_frozen BK196.out 0; have hfz35_1 := blk_frozen BK196.out 1) | (go_at_call 43; (with_reducible refine (ratio_both.calls k a0_0 a0_1 a1_0 a1_1 t197 _ A3.out).mono ?_); rintro e w36 ⟨rfl, hb⟩; replace BK195 := tb_ BK195 hb; replace BK196 := tb_ BK196 hb; replace HB := ts_ HB hb; (try clear hb); (try clear hb2); (try clear hk); (try clear hi))))
  go_ret
  exact ⟨by first | rfl | (simp [errW_none, errW_some] <;> rfl) | (simp [*, errW_none, errW_some] <;> rfl), be_ HB⟩

/-! ### ratio_Sub: function 29 -/
def ratio_Sub.f (k : Nat) (a0_0 : Int) (a0_1 : Int) (a1_0 : Int) (a1_1 : Int) : Option (Int × Int × Int) := (ratio_both.f k a0_0 a0_1 a1_0 a1_1).bind fun t201 => (if t201 = 0 then ((ratio_New.f k (wrap64 ((wrap64 (a0_0 * a1_1)) - (wrap64 (a1_0 * a0_1)))) (wrap64 (a0_1 * a1_1))).bind fun bt202 => (some (bt202.1, bt202.2.1, bt202.2.2))) else (some (0, 0, t201)))
theorem ratio_Sub.mono : ∀ a0 a1 a2 a3 k, LeO (ratio_Sub.f k a0 a1 a2 a3) (ratio_Sub.f (k + 1) a0 a1 a2 a3) := by
 intro a0 a1 a2 a3 k
 unfold ratio_Sub.f
 repeat' first
  | (with_reducible exact ratio_New.mono _ _ _)
  | (with_reducible exact ratio_both.mono _ _ _ _ _)
  | (with_reducible exact LeO.refl _)
  | (with_reducible exact LeO.none _)
  | (with_reducible refine LeO.ite ?_ ?_)
  | (with_reducible refine LeO.bind ?_ (fun _ => ?_))
  | exact ratio_New.mono _ _ _
  | exact ratio_both.mono _ _ _ _ _
  | exact LeO.none _
  | refine LeO.ite ?_ ?_
  | refine LeO.bind ?_ (fun _ => ?_)
set_option maxHeartbeats 8000000 in
set_option maxRecDepth 100000 in
theorem ratio_Sub.calls (k : Nat) (a0_0 : Int) (a0_1 : Int) (a1_0 : Int) (a1_1 : Int) (r1 : Int) (r2 : Int) (r3 : Int) (w : World) (h : ratio_Sub.f k a0_0 a0_1 a1_0 a1_1 = some (r1, r2, r3)) :
 Calls Try.prog 29 #[.agg #[.int .i64 a0_0, .int .i64 a0_1], .agg #[.int .i64 a1_0, .int .i64 a1_1]] w fun e w' => e = .returned (.tuple #[.agg #[.int .i64 r1, .int .i64 r2], .int .i64 r3]) ∧ Below w.heap.size w w' := by
 have hu41 := Try.underlying41
 have HB := Aside0.mk (Below.refl w.heap.size w)
 have H : ((ratio_both.f k a0_0 a0_1 a1_0 a1_1).bind fun t201 => (if t201 = 0 then ((ratio_New.f k (wrap64 ((wrap64 (a0_0 * a1_1)) - (wrap64 (a1_0 * a0_1)))) (wrap64 (a0_1 * a1_1))).bind fun bt202 => (some (bt202.1, bt202.2.1, bt202.2.2))) else (some (0, 0, t201)))) = some (r1, r2, r3) := h
 clear h
 replace H := Option.bind_eq_some_iff.mp H
 obtain ⟨t201, A30, H⟩ := H
 replace H : (if t201 = 0 then ((ratio_New.f k (wrap64 ((wrap64 (a0_0 * a1_1)) - (wrap64 (a1_0 * a0_1)))) (wrap64 (a0_1 * a1_1))).bind fun bt202 => (some (bt202.1, bt202.2.1, bt202.2.2))) else (some (0, 0, t201))) = some (r1, r2, r3) := H
 have A3 := Aside0.mk A30
 clear A30
 by_cases c4 : t201 = 0
 ·
  rw [if_pos c4] at H
  have c4b0 : (t201 == 0) = true := beq_iff_eq.mpr c4
  have c4b1 : (t201 != 0) = false := bne_eq_false_iff_eq.mpr c4
  clear c4
  replace H := Option.bind_eq_some_iff.mp H
  obtain ⟨⟨t202, t203, t204⟩, A50, H⟩ := H
  replace H : (some (t202, t203, t204)) = some (r1, r2, r3) := H
  have A5 := Aside0.mk A50
  clear A50
  simp only [Option.some.injEq, Prod.mk.injEq] at H
  obtain ⟨rfl, rfl, rfl⟩ := H
  go_enter Try.func29, Try.ntmps29
  go_wp2_with (first | ((with_reducible refine gate_dst (N := 2) rfl ?_); refine bx_ (N := 2) (cs := #[.int .i64 a0_0, .int .i64 a0_1]) (t := 41) ?_; intro gb198 hg w6 hbox hb; have BK198 := Aside0.mk (hbox); have GW198 := sz_ HB hg; have GE198 := sz_ HB hg; replace HB := ts_ HB hb; clear hb hbox hg) | ((with_reducible refine gate_dst (N := 3) rfl ?_); refine bx_ (N := 3) (cs := #[.int .i64 a1_0, .int .i64 a1_1]) (t := 41) ?_; intro gb199 hg w7 hbox hb; have BK199 := Aside0.mk (hbox); have GW199 := sz_ HB hg; have GE199 := sz_ HB hg; have NB198_199 := nl_ BK198 hg; have NB199_198 := nr_ BK198 hg; replace BK198 := tb_ BK198 hb; replace HB := ts_ HB hb; clear hb hbox hg) | ((with_reducible refine gate_dst (N := 4) rfl ?_); refine bx_ (N := 4) (cs := #[.int .i64 0, .int .i64 0]) (t := 41) ?_; intro gb200 hg w8 hbox hb; have BK200 := Aside0.mk (hbox); have GW200 := sz_ HB hg; have GE200 := sz_ HB hg; have NB198_200 := nl_ BK198 hg; have NB200_198 := nr_ BK198 hg; have NB199_200 := nl_ BK199 hg; have NB200_199 := nr_ BK199 hg; replace BK198 := tb_ BK198 hb; replace BK199 := tb_ BK199 hb; replace HB := ts_ HB hb; clear hb hbox hg; have hnb9 := NB198_199.out; have hnc9 := NB199_198.out; have hnb10 := NB198_200.out; have hnc10 := NB200_198.out; have hcz11_0 : w8.cell? ⟨gb198, 0, none⟩ = some (.int .i64 a0_0) := (blk_cell BK198.out 0).trans rfl; have hcz11_1 : w8.cell? ⟨gb198, 1, none⟩ = some (.int .i64 a0_1) := (blk_cell BK198.out 1).trans rfl; have hfz11_0 := blk_frozen BK198.out 0; have hfz11_1 := blk_frozen BK198.out 1; have hnb12 := NB199_200.out; have hnc12 := NB200_199.out; have hcz13_0 : w8.cell? ⟨gb199, 0, none⟩ = some (.int .i64 a1_0) := (blk_cell BK199.out 0).trans rfl; have hcz13_1 : w8.cell? ⟨gb199, 1, none⟩ = some (.int .i64 a1_1) := (blk_cell BK199.out 1).trans rfl; have hfz13_0 := blk_frozen BK199.out 0; have hfz13_1 := blk_frozen BK199.out 1) | ((with_reducible refine gate_callee (f := 43) rfl ?_); refine gq_ (some 9) rfl rfl Try.func43 #[.agg #[.int .i64 a0_0, .int .i64 a0_1], .agg #[.int .i64 a1_0, .int .i64 a1_1]] rfl ?_; (with_reducible refine (ratio_both.calls k a0_0 a0_1 a1_0 a1_1 t201 _ A3.out).mono ?_); rintro e w14 ⟨rfl, hb⟩; refine ⟨_, rfl, ?_⟩; replace BK198 := tb_ BK198 hb; replace BK199 := tb_ BK199 hb; replace BK200 := tb_ BK200 hb; replace HB := ts_ HB hb; (try clear hb); (try clear hb2); (try clear hk); (try clear hi); have hcz15_0 : w14.cell? ⟨gb198, 0, none⟩ = some (.int .i64 a0_0) := (blk_cell BK198.out 0).trans rfl; have hcz15_1 : w14.cell? ⟨gb198, 1, none⟩ = some (.int .i64 a0_1) := (blk_cell BK198.out 1).trans rfl; have hfz15_0 := blk_frozen BK198.out 0; have hfz15_1 := blk_frozen BK198.out 1; have hcz16_0 : w14.cell? ⟨gb199, 0, none⟩ = some (.int .i64 a1_0) := (blk_cell BK199.out 0).trans rfl; have hcz16_1 : w14.cell? ⟨gb199, 1, none⟩ = some (.int .i64 a1_1) := (blk_cell BK199.out 1).trans rfl; have hfz16_0 := blk_frozen BK199.out 0; have hfz16_1 := blk_frozen BK199.out 1) | ((with_reducible refine gate_callee (f := 42) rfl ?_); refine gq_ (some 30) rfl rfl Try.func42 #[.int .i64 (wrap64 ((wrap64 (a0_0 * a1_1)) - (wrap64 (a1_0 * a0_1)))), .int .i64 (wrap64 (a0_1 * a1_1))] rfl ?_; (with_reducible refine (ratio_New.calls k (wrap64 ((wrap64 (a0_0 * a1_1)) - (wrap64 (a1_0 * a0_1)))) (wrap64 (a0_1 * a1_1)) t202 t203 t204 _ A5.out).mono ?_); rintro e w17 ⟨rfl, hb⟩; refine ⟨_, rfl, ?_⟩; replace BK198 := tb_ BK198 hb; replace BK199 := tb_ BK199 hb; replace BK200 := tb_ BK200 hb; replace HB := ts_ HB hb; (try clear hb); (try clear hb2); (try clear hk); (try clear hi); have hcz18_0 : w17.cell? ⟨gb200, 0, none⟩ = some (.int .i64 0) := (blk_cell BK200.out 0).trans rfl; have hcz18_1 : w17.cell? ⟨gb200, 1, none⟩ = some (.int .i64 0) := (blk_cell BK200.out 1).trans rfl; have hfz18_0 := blk_frozen BK200.out 0; have hfz18_1 := blk_frozen BK200.out 1))
  refine bodyPost_ret (results_ct rfl _ _ gb200 41 #[.int .i64 t202, .int .i64 t203] (0, 0) _ rfl (by (with_reducible repeat (first | refine blk_drewN ?_ _ | refine blk_drew ?_ | refine blk_alloc ?_ _)); refine blk_put (cs := #[.int .i64 t202, .int .i64 0]) ?_ 1 _ rfl; (with_reducible repeat (first | refine blk_drewN ?_ _ | refine blk_drew ?_ | refine blk_alloc ?_ _)); refine blk_put (cs := #[.int .i64 0, .int .i64 0]) ?_ 0 _ rfl; (with_reducible repeat (first | refine blk_drewN ?_ _ | refine blk_drew ?_ | refine blk_alloc ?_ _)); exact BK200.out) Try.underlying41 rfl (by kernel_rfl)) rfl ?_
  exact ⟨by first | rfl | (simp [errW_none, errW_some] <;> rfl) | (simp [*, errW_none, errW_some] <;> rfl), be_ HB⟩
 ·
  rw [if_neg c4] at H
  have c4b0 : (t201 == 0) = false := beq_eq_false_iff_ne.mpr c4
  have c4b1 : (t201 != 0) = true := bne_iff_ne.mpr c4
  simp only [Option.some.injEq, Prod.mk.injEq] at H
  obtain ⟨rfl, rfl, rfl⟩ := H
  go_enter Try.func29, Try.ntmps29
  go_wp2_with (first | ((with_reducible refine gate_dst (N := 2) rfl ?_); refine bx_ (N := 2) (cs := #[.int .i64 a0_0, .int .i64 a0_1]) (t := 41) ?_; intro gb198 hg w19 hbox hb; have BK198 := Aside0.mk (hbox); have GW198 := sz_ HB hg; have GE198 := sz_ HB hg; replace HB := ts_ HB hb; clear hb hbox hg) | ((with_reducible refine gate_dst (N := 3) rfl ?_); refine bx_ (N := 3) (cs := #[.int .i64 a1_0, .int .i64 a1_1]) (t := 41) ?_; intro gb199 hg w20 hbox hb; have BK199 := Aside0.mk (hbox); have GW199 := sz_ HB hg; have GE199 := sz_ HB hg; have NB198_199 := nl_ BK198 hg; have NB199_198 := nr_ BK198 hg; replace BK198 := tb_ BK198 hb; replace HB := ts_ HB hb; clear hb hbox hg) | ((with_reducible refine gate_dst (N := 4) rfl ?_); refine bx_ (N := 4) (cs := #[.int .i64 0, .int .i64 0]) (t := 41) ?_; intro gb200 hg w21 hbox hb; have BK200 := Aside0.mk (hbox); have GW200 := sz_ HB hg; have GE200 := sz_ HB hg; have NB198_200 := nl_ BK198 hg; have NB200_198 := nr_ BK198 hg; have NB199_200 := nl_ BK199 hg; have NB200_199 := nr_ BK199 hg; replace BK198 := tb_ BK198 hb; replace BK199 := tb_ BK199 hb; replace HB := ts_ HB hb; clear hb hbox hg; have hnb22 := NB198_199.out; have hnc22 := NB199_198.out; have hnb23 := NB198_200.out; have hnc23 := NB200_198.out; have hcz24_0 : w21.cell? ⟨gb198, 0, none⟩ = some (.int .i64 a0_0) := (blk_cell BK198.out 0).trans rfl; have hcz24_1 : w21.cell? ⟨gb198, 1, none⟩ = some (.int .i64 a0_1) := (blk_cell BK198.out 1).trans rfl; have hfz24_0 := blk_frozen BK198.out 0; have hfz24_1 := blk_frozen BK198.out 1; have hnb25 := NB199_200.out; have hnc25 := NB200_199.out; have hcz26_0 : w21.cell? ⟨gb199, 0, none⟩ = some (.int .i64 a1_0) := (blk_cell BK199.out 0).trans rfl; have hcz26_1 : w21.cell? ⟨gb199, 1, none⟩ = some (.int .i64 a1_1) := (blk_cell BK199.out 1).trans rfl; have hfz26_0 := blk_frozen BK199.out 0; have hfz26_1 := blk_frozen BK199.out 1) | ((with_reducible refine gate_callee (f := 43) rfl ?_); refine gq_ (some 9) rfl rfl Try.func43 #[.agg #[.int .i64 a0_0, .int .i64 a0_1], .agg #[.int .i64 a1_0, .int .i64 a1_1]] rfl ?_; (with_reducible refine (ratio_both.calls k a0_0 a0_1 a1_0 a1_1 t201 _ A3.out).mono ?_); rintro e w27 ⟨rfl, hb⟩; refine ⟨_, rfl, ?_⟩; replace BK198 := tb_ BK198 hb; replace BK199 := tb_ BK199 hb; replace BK200 := tb_ BK200 hb; replace HB := ts_ HB hb; (try clear hb); (try clear hb2); (try clear hk); (try clear hi); have hcz28_0 : w27.cell? ⟨gb200, 0, none⟩ = some (.int .i64 0) := (blk_cell BK200.out 0).trans rfl; have hcz28_1 : w27.cell? ⟨gb200, 1, none⟩ = some (.int .i64 0) := (blk_cell BK200.out 1).trans rfl; have hfz28_0 := blk_frozen BK200.out 0; have hfz28_1 := blk_frozen BK200.out 1))
  refine bodyPost_ret (results_ct rfl _ _ gb200 41 #[.int .i64 0, .int .i64 0] (0, 0) _ rfl (by (with_reducible repeat (first | refine blk_drewN ?_ _ | refine blk_drew ?_ | refine blk_alloc ?_ _)); refine blk_put (cs := #[.int .i64 0, .int .i64 0]) ?_ 1 _ rfl; (with_reducible repeat (first | refine blk_drewN ?_ _ | refine blk_drew ?_ | refine blk_alloc ?_ _)); refine blk_put (cs := #[.int .i64 0, .int .i64 0]) ?_ 0 _ rfl; (with_reducible repeat (first | refine blk_drewN ?_ _ | refine blk_drew ?_ | refine blk_alloc ?_ _)); exact BK200.out) Try.underlying41 rfl (by kernel_rfl)) rfl ?_
  exact ⟨by first | rfl | (simp [errW_none, errW_some] <;> rfl) | (simp [*, errW_none, errW_some] <;> rfl), be_ HB⟩

/-! ### ratio_Add: function 30 -/
def ratio_Add.f (k : Nat) (a0_0 : Int) (a0_1 : Int) (a1_0 : Int) (a1_1 : Int) : Option (Int × Int × Int) := (ratio_both.f k a0_0 a0_1 a1_0 a1_1).bind fun t208 => (if t208 = 0 then ((ratio_New.f k (wrap64 ((wrap64 (a0_0 * a1_1)) + (wrap64 (a1_0 * a0_1)))) (wrap64 (a0_1 * a1_1))).bind fun bt209 => (some (bt209.1, bt209.2.1, bt209.2.2))) else (some (0, 0, t208)))
theorem ratio_Add.mono : ∀ a0 a1 a2 a3 k, LeO (ratio_Add.f k a0 a1 a2 a3) (ratio_Add.f (k + 1) a0 a1 a2 a3) := by
 intro a0 a1 a2 a3 k
 unfold ratio_Add.f
 repeat' first
  | (with_reducible exact ratio_New.mono _ _ _)
  | (with_reducible exact ratio_both.mono _ _ _ _ _)
  | (with_reducible exact LeO.refl _)
  | (with_reducible exact LeO.none _)
  | (with_reducible refine LeO.ite ?_ ?_)
  | (with_reducible refine LeO.bind ?_ (fun _ => ?_))
  | exact ratio_New.mono _ _ _
  | exact ratio_both.mono _ _ _ _ _
  | exact LeO.none _
  | refine LeO.ite ?_ ?_
  | refine LeO.bind ?_ (fun _ => ?_)
set_option maxHeartbeats 8000000 in
set_option maxRecDepth 100000 in
theorem ratio_Add.calls (k : Nat) (a0_0 : Int) (a0_1 : Int) (a1_0 : Int) (a1_1 : Int) (r1 : Int) (r2 : Int) (r3 : Int) (w : World) (h : ratio_Add.f k a0_0 a0_1 a1_0 a1_1 = some (r1, r2, r3)) :
 Calls Try.prog 30 #[.agg #[.int .i64 a0_0, .int .i64 a0_1], .agg #[.int .i64 a1_0, .int .i64 a1_1]] w fun e w' => e = .returned (.tuple #[.agg #[.int .i64 r1, .int .i64 r2], .int .i64 r3]) ∧ Below w.heap.size w w' := by
 have hu41 := Try.underlying41
 have HB := Aside0.mk (Below.refl w.heap.size w)
 have H : ((ratio_both.f k a0_0 a0_1 a1_0 a1_1).bind fun t208 => (if t208 = 0 then ((ratio_New.f k (wrap64 ((wrap64 (a0_0 * a1_1)) + (wrap64 (a1_0 * a0_1)))) (wrap64 (a0_1 * a1_1))).bind fun bt209 => (some (bt209.1, bt209.2.1, bt209.2.2))) else (some (0, 0, t208)))) = some (r1, r2, r3) := h
 clear h
 replace H := Option.bind_eq_some_iff.mp H
 obtain ⟨t208, A30, H⟩ := H
 replace H : (if t208 = 0 then ((ratio_New.f k (wrap64 ((wrap64 (a0_0 * a1_1)) + (wrap64 (a1_0 * a0_1)))) (wrap64 (a0_1 * a1_1))).bind fun bt209 => (some (bt209.1, bt209.2.1, bt209.2.2))) else (some (0, 0, t208))) = some (r1, r2, r3) := H
 have A3 := Aside0.mk A30
 clear A30
 by_cases c4 : t208 = 0
 ·
  rw [if_pos c4] at H
  have c4b0 : (t208 == 0) = true := beq_iff_eq.mpr c4
  have c4b1 : (t208 != 0) = false := bne_eq_false_iff_eq.mpr c4
  clear c4
  replace H := Option.bind_eq_some_iff.mp H
  obtain ⟨⟨t209, t210, t211⟩, A50, H⟩ := H
  replace H : (some (t209, t210, t211)) = some (r1, r2, r3) := H
  have A5 := Aside0.mk A50
  clear A50
  simp only [Option.some.injEq, Prod.mk.injEq] at H
  obtain ⟨rfl, rfl, rfl⟩ := H
  go_enter Try.func30, Try.ntmps30
  go_wp2_with (first | ((with_reducible refine gate_dst (N := 2) rfl ?_); refine bx_ (N := 2) (cs := #[.int .i64 a0_0, .int .i64 a0_1]) (t := 41) ?_; intro gb205 hg w6 hbox hb; have BK205 := Aside0.mk (hbox); have GW205 := sz_ HB hg; have GE205 := sz_ HB hg; replace HB := ts_ HB hb; clear hb hbox hg) | ((with_reducible refine gate_dst (N := 3) rfl ?_); refine bx_ (N := 3) (cs := #[.int .i64 a1_0, .int .i64 a1_1]) (t := 41) ?_; intro gb206 hg w7 hbox hb; have BK206 := Aside0.mk (hbox); have GW206 := sz_ HB hg; have GE206 := sz_ HB hg; have NB205_206 := nl_ BK205 hg; have NB206_205 := nr_ BK205 hg; replace BK205 := tb_ BK205 hb; replace HB := ts_ HB hb; clear hb hbox hg) | ((with_reducible refine gate_dst (N := 4) rfl ?_); refine bx_ (N := 4) (cs := #[.int .i64 0, .int .i64 0]) (t := 41) ?_; intro gb207 hg w8 hbox hb; have BK207 := Aside0.mk (hbox); have GW207 := sz_ HB hg; have GE207 := sz_ HB hg; have NB205_207 := nl_ BK205 hg; have NB207_205 := nr_ BK205 hg; have NB206_207 := nl_ BK206 hg; have NB207_206 := nr_ BK206 hg; replace BK205 := tb_ BK205 hb; replace BK206 := tb_ BK206 hb; replace HB := ts_ HB hb; clear hb hbox hg; have hnb9 := NB205_206.out; have hnc9 := NB206_205.out; have hnb10 := NB205_207.out; have hnc10 := NB207_205.out; have hcz11_0 : w8.cell? ⟨gb205, 0, none⟩ = some (.int .i64 a0_0) := (blk_cell BK205.out 0).trans rfl; have hcz11_1 : w8.cell? ⟨gb205, 1, none⟩ = some (.int .i64 a0_1) := (blk_cell BK205.out 1).trans rfl; have hfz11_0 := blk_frozen BK205.out 0; have hfz11_1 := blk_frozen BK205.out 1; have hnb12 := NB206_207.out; have hnc12 := NB207_206.out; have hcz13_0 : w8.cell? ⟨gb206, 0, none⟩ = some (.int .i64 a1_0) := (blk_cell BK206.out 0).trans rfl; have hcz13_1 : w8.cell? ⟨gb206, 1, none⟩ = some (.int .i64 a1_1) := (blk_cell BK206.out 1).trans rfl; have hfz13_0 := blk_frozen BK206.out 0; have hfz13_1 := blk_frozen BK206.out 1) | ((with_reducible refine gate_callee (f := 43) rfl ?_); refine gq_ (some 9) rfl rfl Try.func43 #[.agg #[.int .i64 a0_0, .int .i64 a0_1], .agg #[.int .i64 a1_0, .int .i64 a1_1]] rfl ?_; (with_reducible refine (ratio_both.calls k a0_0 a0_1 a1_0 a1_1 t208 _ A3.out).mono ?_); rintro e w14 ⟨rfl, hb⟩; refine ⟨_, rfl, ?_⟩; replace BK205 := tb_ BK205 hb; replace BK206 := tb_ BK206 hb; replace BK207 := tb_ BK207 hb; replace HB := ts_ HB hb; (try clear hb); (try clear hb2); (try clear hk); (try clear hi); have hcz15_0 : w14.cell? ⟨gb205, 0, none⟩ = some (.int .i64 a0_0) := (blk_cell BK205.out 0).trans rfl; have hcz15_1 : w14.cell? ⟨gb205, 1, none⟩ = some (.int .i64 a0_1) := (blk_cell BK205.out 1).trans rfl; have hfz15_0 := blk_frozen BK205.out 0; have hfz15_1 := blk_frozen BK205.out 1; have hcz16_0 : w14.cell? ⟨gb206, 0, none⟩ = some (.int .i64 a1_0) := (blk_cell BK206.out 0).trans rfl; have hcz16_1 : w14.cell? ⟨gb206, 1, none⟩ = some (.int .i64 a1_1) := (blk_cell BK206.out 1).trans rfl; have hfz16_0 := blk_frozen BK206.out 0; have hfz16_1 := blk_frozen BK206.out 1) | ((with_reducible refine gate_callee (f := 42) rfl ?_); refine gq_ (some 30) rfl rfl Try.func42 #[.int .i64 (wrap64 ((wrap64 (a0_0 * a1_1)) + (wrap64 (a1_0 * a0_1)))), .int .i64 (wrap64 (a0_1 * a1_1))] rfl ?_; (with_reducible refine (ratio_New.calls k (wrap64 ((wrap64 (a0_0 * a1_1)) + (wrap64 (a1_0 * a0_1)))) (wrap64 (a0_1 * a1_1)) t209 t210 t211 _ A5.out).mono ?_); rintro e w17 ⟨rfl, hb⟩; refine ⟨_, rfl, ?_⟩; replace BK205 := tb_ BK205 hb; replace BK206 := tb_ BK206 hb; replace BK207 := tb_ BK207 hb; replace HB := ts_ HB hb; (try clear hb); (try clear hb2); (try clear hk); (try clear hi); have hcz18_0 : w17.cell? ⟨gb207, 0, none⟩ = some (.int .i64 0) := (blk_cell BK207.out 0).trans rfl; have hcz18_1 : w17.cell? ⟨gb207, 1, none⟩ = some (.int .i64 0) := (blk_cell BK207.out 1).trans rfl; have hfz18_0 := blk_frozen BK207.out 0; have hfz18_1 := blk_frozen BK207.out 1))
  refine bodyPost_ret (results_ct rfl _ _ gb207 41 #[.int .i64 t209, .int .i64 t210] (0, 0) _ rfl (by (with_reducible repeat (first | refine blk_drewN ?_ _ | refine blk_drew ?_ | refine blk_alloc ?_ _)); refine blk_put (cs := #[.int .i64 t209, .int .i64 0]) ?_ 1 _ rfl; (with_reducible repeat (first | refine blk_drewN ?_ _ | refine blk_drew ?_ | refine blk_alloc ?_ _)); refine blk_put (cs := #[.int .i64 0, .int .i64 0]) ?_ 0 _ rfl; (with_reducible repeat (first | refine blk_drewN ?_ _ | refine blk_drew ?_ | refine blk_alloc ?_ _)); exact BK207.out) Try.underlying41 rfl (by kernel_rfl)) rfl ?_
  exact ⟨by first | rfl | (simp [errW_none, errW_some] <;> rfl) | (simp [*, errW_none, errW_some] <;> rfl), be_ HB⟩
 ·
  rw [if_neg c4] at H
  have c4b0 : (t208 == 0) = false := beq_eq_false_iff_ne.mpr c4
  have c4b1 : (t208 != 0) = true := bne_iff_ne.mpr c4
  simp only [Option.some.injEq, Prod.mk.injEq] at H
  obtain ⟨rfl, rfl, rfl⟩ := H
  go_enter Try.func30, Try.ntmps30
  go_wp2_with (first | ((with_reducible refine gate_dst (N := 2) rfl ?_); refine bx_ (N := 2) (cs := #[.int .i64 a0_0, .int .i64 a0_1]) (t := 41) ?_; intro gb205 hg w19 hbox hb; have BK205 := Aside0.mk (hbox); have GW205 := sz_ HB hg; have GE205 := sz_ HB hg; replace HB := ts_ HB hb; clear hb hbox hg) | ((with_reducible refine gate_dst (N := 3) rfl ?_); refine bx_ (N := 3) (cs := #[.int .i64 a1_0, .int .i64 a1_1]) (t := 41) ?_; intro gb206 hg w20 hbox hb; have BK206 := Aside0.mk (hbox); have GW206 := sz_ HB hg; have GE206 := sz_ HB hg; have NB205_206 := nl_ BK205 hg; have NB206_205 := nr_ BK205 hg; replace BK205 := tb_ BK205 hb; replace HB := ts_ HB hb; clear hb hbox hg) | ((with_reducible refine gate_dst (N := 4) rfl ?_); refine bx_ (N := 4) (cs := #[.int .i64 0, .int .i64 0]) (t := 41) ?_; intro gb207 hg w21 hbox hb; have BK207 := Aside0.mk (hbox); have GW207 := sz_ HB hg; have GE207 := sz_ HB hg; have NB205_207 := nl_ BK205 hg; have NB207_205 := nr_ BK205 hg; have NB206_207 := nl_ BK206 hg; have NB207_206 := nr_ BK206 hg; replace BK205 := tb_ BK205 hb; replace BK206 := tb_ BK206 hb; replace HB := ts_ HB hb; clear hb hbox hg; have hnb22 := NB205_206.out; have hnc22 := NB206_205.out; have hnb23 := NB205_207.out; have hnc23 := NB207_205.out; have hcz24_0 : w21.cell? ⟨gb205, 0, none⟩ = some (.int .i64 a0_0) := (blk_cell BK205.out 0).trans rfl; have hcz24_1 : w21.cell? ⟨gb205, 1, none⟩ = some (.int .i64 a0_1) := (blk_cell BK205.out 1).trans rfl; have hfz24_0 := blk_frozen BK205.out 0; have hfz24_1 := blk_frozen BK205.out 1; have hnb25 := NB206_207.out; have hnc25 := NB207_206.out; have hcz26_0 : w21.cell? ⟨gb206, 0, none⟩ = some (.int .i64 a1_0) := (blk_cell BK206.out 0).trans rfl; have hcz26_1 : w21.cell? ⟨gb206, 1, none⟩ = some (.int .i64 a1_1) := (blk_cell BK206.out 1).trans rfl; have hfz26_0 := blk_frozen BK206.out 0; have hfz26_1 := blk_frozen BK206.out 1) | ((with_reducible refine gate_callee (f := 43) rfl ?_); refine gq_ (some 9) rfl rfl Try.func43 #[.agg #[.int .i64 a0_0, .int .i64 a0_1], .agg #[.int .i64 a1_0, .int .i64 a1_1]] rfl ?_; (with_reducible refine (ratio_both.calls k a0_0 a0_1 a1_0 a1_1 t208 _ A3.out).mono ?_); rintro e w27 ⟨rfl, hb⟩; refine ⟨_, rfl, ?_⟩; replace BK205 := tb_ BK205 hb; replace BK206 := tb_ BK206 hb; replace BK207 := tb_ BK207 hb; replace HB := ts_ HB hb; (try clear hb); (try clear hb2); (try clear hk); (try clear hi); have hcz28_0 : w27.cell? ⟨gb207, 0, none⟩ = some (.int .i64 0) := (blk_cell BK207.out 0).trans rfl; have hcz28_1 : w27.cell? ⟨gb207, 1, none⟩ = some (.int .i64 0) := (blk_cell BK207.out 1).trans rfl; have hfz28_0 := blk_frozen BK207.out 0; have hfz28_1 := blk_frozen BK207.out 1))
  refine bodyPost_ret (results_ct rfl _ _ gb207 41 #[.int .i64 0, .int .i64 0] (0, 0) _ rfl (by (with_reducible repeat (first | refine blk_drewN ?_ _ | refine blk_drew ?_ | refine blk_alloc ?_ _)); refine blk_put (cs := #[.int .i64 0, .int .i64 0]) ?_ 1 _ rfl; (with_reducible repeat (first | refine blk_drewN ?_ _ | refine blk_drew ?_ | refine blk_alloc ?_ _)); refine blk_put (cs := #[.int .i64 0, .int .i64 0]) ?_ 0 _ rfl; (with_reducible repeat (first | refine blk_drewN ?_ _ | refine blk_drew ?_ | refine blk_alloc ?_ _)); exact BK207.out) Try.underlying41 rfl (by kernel_rfl)) rfl ?_
  exact ⟨by first | rfl | (simp [errW_none, errW_some] <;> rfl) | (simp [*, errW_none, errW_some] <;> rfl), be_ HB⟩

end Go.Proofs.Ytcipegkeoheikaa.PK
