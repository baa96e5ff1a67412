-- Written by a program of this session: the machine side of the proofs, out of Lean's own print of the program. Lean checks it.
import Derived.Test.YtcipegkeoheikaaPMx0
import Derived.Test.YtcipegkeoheikaaPMx1
import Derived.Test.YtcipegkeoheikaaPMx2
import Derived.Test.YtcipegkeoheikaaPMx4
import Derived.Test.YtcipegkeoheikaaPMx5
import Derived.Test.YtcipegkeoheikaaPMx6
namespace Go.Proofs.Ytcipegkeoheikaa.PM
open Go.RowKit Go.Proofs.YtcipegkeoheikaaW.PrintWords Go.Proofs.YtcipegkeoheikaaW.PrintLast Go.Proofs.YtcipegkeoheikaaW.PrintMore
attribute [local go_sem] max2_int min2_int max_two min_two max_three min_three max_four min_four   -- for this text's walks alone
set_option linter.unusedVariables false
set_option linter.unusedSimpArgs false

attribute [local go_sem high] eqA41
/-! ### payrollgen_Tape_Step: function 22 -/
def payrollgen_Tape_Step.f (k : Nat) (s0_0 : List Int) (s0_1 : Int) : Option (Int × Int × Int) := (payrollgen_Tape_Pick.f s0_0 s0_1 (([1, 5, 1, 50, 1, 3, 100, 7] : List Int))).bind fun bt222 => ((payrollgen_Tape_Pick.f s0_0 bt222.2 (([100, 1, 20, 100, 2, 1000, 1] : List Int))).bind fun bt227 => ((payrollref1_New.f k bt222.1 bt227.1).bind fun bt229 => (some (bt229.1, bt229.2.1, bt227.2))))
theorem payrollgen_Tape_Step.mono : ∀ a0 a1 k, LeO (payrollgen_Tape_Step.f k a0 a1) (payrollgen_Tape_Step.f (k + 1) a0 a1) := by
 intro a0 a1 k
 unfold payrollgen_Tape_Step.f
 repeat' first
  | (with_reducible exact payrollref1_New.mono _ _ _)
  | (with_reducible exact LeO.refl _)
  | (with_reducible exact LeO.none _)
  | (with_reducible refine LeO.ite ?_ ?_)
  | (with_reducible refine LeO.bind ?_ (fun _ => ?_))
  | exact payrollref1_New.mono _ _ _
  | exact LeO.none _
  | refine LeO.ite ?_ ?_
  | refine LeO.bind ?_ (fun _ => ?_)
set_option maxHeartbeats 8000000 in
set_option maxRecDepth 100000 in
theorem payrollgen_Tape_Step.calls (k : Nat) (g : Nat) (s0_0 : List Int) (s0_1 : Int) (r1 : Int) (r2 : Int) (r3 : Int) (w0 w : World) (hI : IsS53 w0 w g s0_0 s0_1) (hB : Below w0.heap.size w0 w) (h : payrollgen_Tape_Step.f k s0_0 s0_1 = some (r1, r2, r3)) :
 Calls Try.prog 22 #[.pointer (some ⟨g, 0, none⟩)] w fun e w' => e = .returned (.agg #[.int .i64 r1, .int .i64 r2]) ∧ IsS53 w0 w' g s0_0 r3 ∧ Below w0.heap.size w0 w' ∧ KeepBut w w' g none := by
 have hu41 := Try.underlying41
 have HI0 := Aside0.mk hI
 have HK := Aside0.mk (KeepBut.refl w g none)
 have HL := Aside0.mk hB.size
 clear hI
 have HW0 := Aside0.mk hB.size
 have HB := Aside0.mk hB
 clear hB
 have H : ((payrollgen_Tape_Pick.f s0_0 s0_1 (([1, 5, 1, 50, 1, 3, 100, 7] : List Int))).bind fun bt222 => ((payrollgen_Tape_Pick.f s0_0 bt222.2 (([100, 1, 20, 100, 2, 1000, 1] : List Int))).bind fun bt227 => ((payrollref1_New.f k bt222.1 bt227.1).bind fun bt229 => (some (bt229.1, bt229.2.1, bt227.2))))) = some (r1, r2, r3) := h
 clear h
 obtain ⟨y219, hy219⟩ : ∃ y_ : List Int, y_ = (([1, 5, 1, 50, 1, 3, 100, 7] : List Int)) := ⟨_, rfl⟩
 replace H : ((payrollgen_Tape_Pick.f s0_0 s0_1 y219).bind fun bt222 => ((payrollgen_Tape_Pick.f s0_0 bt222.2 (([100, 1, 20, 100, 2, 1000, 1] : List Int))).bind fun bt227 => ((payrollref1_New.f k bt222.1 bt227.1).bind fun bt229 => (some (bt229.1, bt229.2.1, bt227.2))))) = some (r1, r2, r3) := by first | (rw [hy219]; with_reducible exact H) | (have H2_ := (Option.bind_some _ _).symm.trans H; rw [hy219]; with_reducible exact H2_) | (have H2_ := (Option.bind_some _ _).symm.trans H; with_reducible exact H2_) | with_reducible exact H | (rw [hy219]; exact H) | exact H
 have Ny219 := Aside0.mk hy219
 clear hy219
 replace H := Option.bind_eq_some_iff.mp H
 obtain ⟨⟨t222, t223⟩, A20, H⟩ := H
 replace H : ((payrollgen_Tape_Pick.f s0_0 t223 (([100, 1, 20, 100, 2, 1000, 1] : List Int))).bind fun bt227 => ((payrollref1_New.f k t222 bt227.1).bind fun bt229 => (some (bt229.1, bt229.2.1, bt227.2)))) = some (r1, r2, r3) := H
 have A2 := Aside0.mk A20
 clear A20
 obtain ⟨y224, hy224⟩ : ∃ y_ : List Int, y_ = (([100, 1, 20, 100, 2, 1000, 1] : List Int)) := ⟨_, rfl⟩
 replace H : ((payrollgen_Tape_Pick.f s0_0 t223 y224).bind fun bt227 => ((payrollref1_New.f k t222 bt227.1).bind fun bt229 => (some (bt229.1, bt229.2.1, bt227.2)))) = some (r1, r2, r3) := by first | (rw [hy224]; with_reducible exact H) | (have H2_ := (Option.bind_some _ _).symm.trans H; rw [hy224]; with_reducible exact H2_) | (have H2_ := (Option.bind_some _ _).symm.trans H; with_reducible exact H2_) | with_reducible exact H | (rw [hy224]; exact H) | exact H
 have Ny224 := Aside0.mk hy224
 clear hy224
 replace H := Option.bind_eq_some_iff.mp H
 obtain ⟨⟨t227, t228⟩, A30, H⟩ := H
 replace H : ((payrollref1_New.f k t222 t227).bind fun bt229 => (some (bt229.1, bt229.2.1, t228))) = some (r1, r2, r3) := H
 have A3 := Aside0.mk A30
 clear A30
 replace H := Option.bind_eq_some_iff.mp H
 obtain ⟨⟨t229, t230, t231⟩, A40, H⟩ := H
 replace H : (some (t229, t230, t228)) = some (r1, r2, r3) := H
 have A4 := Aside0.mk A40
 clear A40
 simp only [Option.some.injEq, Prod.mk.injEq] at H
 obtain ⟨rfl, rfl, rfl⟩ := H
 go_enter Try.func22, Try.ntmps22
 go_wp2_with (first | ((with_reducible refine gate_dst (N := 2) rfl ?_); refine bx_ (N := 2) (cs := #[.int .i64 0, .int .i64 0]) (t := 41) ?_; intro gb218 hg w5 hbox hb; have BK218 := Aside0.mk (hbox); have GW218 := ks_ HK hg; have GE218 := kw_ HW0 HK hg; have NB0_218 := IsS53.nl_ HI0 hg; have NB218_0 := IsS53.nr_ HI0 hg; replace HK := kb_ HK hb; replace HB := IsS53.ts_ HI0 HB hb; replace HI0 := IsS53.tb_ HI0 hb; clear hb hbox hg) | ((with_reducible refine gate_dst (N := 7) rfl ?_); refine Kd.R_lit (Kd.int .i64) _ 3 ?hg (N := 7) ?hd (xs := ([1, 5, 1, 50, 1, 3, 100, 7] : List Int)) (inner := [.int .i64 1, .int .i64 5, .int .i64 1, .int .i64 50, .int .i64 1, .int .i64 3, .int .i64 100, .int .i64 7]) (ok := fun _ => True) (okp := fun _ => True) ?hr ?hp (fun _ hk => hk) trivial (Below.refl _ _) (Nat.le_refl _) (by simp) ?_; (case hd => rfl); (case hg => rfl); (case hr => first | (go_simp; done) | (go_simp; rfl)); (case hp => exact (Reps.one (show Kd.M (Kd.int .i64) _ _ _ 1 [.int .i64 1] from rfl) (Reps.one (show Kd.M (Kd.int .i64) _ _ _ 5 [.int .i64 5] from rfl) (Reps.one (show Kd.M (Kd.int .i64) _ _ _ 1 [.int .i64 1] from rfl) (Reps.one (show Kd.M (Kd.int .i64) _ _ _ 50 [.int .i64 50] from rfl) (Reps.one (show Kd.M (Kd.int .i64) _ _ _ 1 [.int .i64 1] from rfl) (Reps.one (show Kd.M (Kd.int .i64) _ _ _ 3 [.int .i64 3] from rfl) (Reps.one (show Kd.M (Kd.int .i64) _ _ _ 100 [.int .i64 100] from rfl) (Reps.one (show Kd.M (Kd.int .i64) _ _ _ 7 [.int .i64 7] from rfl) (Reps.none _ _)))))))))); intro v220 w6 ho7 hb hg_ hnew_; clear hg_ hnew_; (first | rw [← Ny219.out] at ho7 | (simp only [Int.reduceToNat] at ho7; rw [← Ny219.out] at ho7)); have HO221 := Aside0.mk (Kd.R_lower ho7 (keep_size (w := w) (g := g) (row := none) (ke_ HK))); replace BK218 := tb_ BK218 hb; replace HK := kb_ HK hb; replace HB := IsS53.ts_ HI0 HB hb; replace HI0 := IsS53.tb_ HI0 hb; clear hb ho7; obtain ⟨Ao8, co8, eo8⟩ := Kd.R_slice HO221.out; subst eo8) | ((with_reducible refine gate_callee (f := 13) rfl ?_); refine gq_ (some 8) rfl rfl Try.func13 #[.pointer (some ⟨g, 0, none⟩), .slice Ao8 y219.length co8] rfl ?_; (with_reducible refine (payrollgen_Tape_Pick.calls g s0_0 s0_1 _ _ y219 t222 t223 w0 _ ?side1 ?side2 ?side3 ?side4 ?side5 A2.out).mono ?_); (case side1 => exact IsS53.aq_ HI0); (case side2 => exact IsS53.bs_ HI0 HB); (case side3 => repeat (first | exact (Kd.R_reads' HO221.out).2.2 | (with_reducible refine Kd.C_alloc ?_ _) | (with_reducible refine Kd.C_drewN ?_ _) | (with_reducible refine Kd.C_drew ?_))); (case side4 => exact (Kd.R_reads' HO221.out).2.1); (case side5 => exact far_slice (IsS53.own_ne HI0.out HO221.out (by decide))); rintro e w9 ⟨rfl, hi, hb, hk⟩; refine ⟨_, rfl, ?_⟩; replace BK218 := tk_ BK218 hk NB218_0; replace HO221 := Aside0.mk (Kd.R_mono (Kd.R_keep (IsS53.apart (show IsS53 w0 _ g s0_0 s0_1 from by repeat (first | (with_reducible first | exact HI0.out | apply IsS53.alloc | apply IsS53.drewN | apply IsS53.drew | apply IsS53.set_1 | refine IsS53.far ?_ NB0_218.out _) | exact HI0.out)) (re_ HO221) (by decide)) hk (fun _ h => h.2)) (fun _ h => h.1)); replace HK := kt_ HK hk; replace HB := Aside0.mk (hb); replace HI0 := Aside0.mk (hi); (try clear hb); (try clear hb2); (try clear hk); (try clear hi)) | ((with_reducible refine gate_dst (N := 10) rfl ?_); refine Kd.R_lit (Kd.int .i64) _ 3 ?hg (N := 10) ?hd (xs := ([100, 1, 20, 100, 2, 1000, 1] : List Int)) (inner := [.int .i64 100, .int .i64 1, .int .i64 20, .int .i64 100, .int .i64 2, .int .i64 1000, .int .i64 1]) (ok := fun _ => True) (okp := fun _ => True) ?hr ?hp (fun _ hk => hk) trivial (Below.refl _ _) (Nat.le_refl _) (by simp) ?_; (case hd => rfl); (case hg => rfl); (case hr => first | (go_simp; done) | (go_simp; rfl)); (case hp => exact (Reps.one (show Kd.M (Kd.int .i64) _ _ _ 100 [.int .i64 100] from rfl) (Reps.one (show Kd.M (Kd.int .i64) _ _ _ 1 [.int .i64 1] from rfl) (Reps.one (show Kd.M (Kd.int .i64) _ _ _ 20 [.int .i64 20] from rfl) (Reps.one (show Kd.M (Kd.int .i64) _ _ _ 100 [.int .i64 100] from rfl) (Reps.one (show Kd.M (Kd.int .i64) _ _ _ 2 [.int .i64 2] from rfl) (Reps.one (show Kd.M (Kd.int .i64) _ _ _ 1000 [.int .i64 1000] from rfl) (Reps.one (show Kd.M (Kd.int .i64) _ _ _ 1 [.int .i64 1] from rfl) (Reps.none _ _))))))))); intro v225 w10 ho11 hb hg_ hnew_; clear hg_ hnew_; (first | rw [← Ny224.out] at ho11 | (simp only [Int.reduceToNat] at ho11; rw [← Ny224.out] at ho11)); have HO226 := Aside0.mk (Kd.R_lower (Kd.R_new' ho11 (Kd.R_lt (re_ HO221))) (keep_size (w := w) (g := g) (row := none) (ke_ HK))); replace HO221 := Aside0.mk (Kd.R_elder' (re_ HO221) (Kd.R_base ho11) hb); replace BK218 := tb_ BK218 hb; replace HK := kb_ HK hb; replace HB := IsS53.ts_ HI0 HB hb; replace HI0 := IsS53.tb_ HI0 hb; clear hb ho11; obtain ⟨Ao12, co12, eo12⟩ := Kd.R_slice HO226.out; subst eo12) | ((with_reducible refine gate_callee (f := 13) rfl ?_); refine gq_ (some 11) rfl rfl Try.func13 #[.pointer (some ⟨g, 0, none⟩), .slice Ao12 y224.length co12] rfl ?_; (with_reducible refine (payrollgen_Tape_Pick.calls g s0_0 t223 _ _ y224 t227 t228 w0 _ ?side1 ?side2 ?side3 ?side4 ?side5 A3.out).mono ?_); (case side1 => exact IsS53.aq_ HI0); (case side2 => exact IsS53.bs_ HI0 HB); (case side3 => repeat (first | exact (Kd.R_reads' HO226.out).2.2 | (with_reducible refine Kd.C_alloc ?_ _) | (with_reducible refine Kd.C_drewN ?_ _) | (with_reducible refine Kd.C_drew ?_))); (case side4 => exact (Kd.R_reads' HO226.out).2.1); (case side5 => exact far_slice (IsS53.own_ne HI0.out HO226.out (by decide))); rintro e w13 ⟨rfl, hi, hb, hk⟩; refine ⟨_, rfl, ?_⟩; replace BK218 := tk_ BK218 hk NB218_0; replace HO221 := Aside0.mk (Kd.R_mono (Kd.R_keep (IsS53.apart (show IsS53 w0 _ g s0_0 t223 from by repeat (first | (with_reducible first | exact HI0.out | apply IsS53.alloc | apply IsS53.drewN | apply IsS53.drew | apply IsS53.set_1 | refine IsS53.far ?_ NB0_218.out _) | exact HI0.out)) (re_ HO221) (by decide)) hk (fun _ h => h.2)) (fun _ h => h.1)); replace HO226 := Aside0.mk (Kd.R_mono (Kd.R_keep (IsS53.apart (show IsS53 w0 _ g s0_0 t223 from by repeat (first | (with_reducible first | exact HI0.out | apply IsS53.alloc | apply IsS53.drewN | apply IsS53.drew | apply IsS53.set_1 | refine IsS53.far ?_ NB0_218.out _) | exact HI0.out)) (re_ HO226) (by decide)) hk (fun _ h => h.2)) (fun _ h => h.1)); replace HK := kt_ HK hk; replace HB := Aside0.mk (hb); replace HI0 := Aside0.mk (hi); (try clear hb); (try clear hb2); (try clear hk); (try clear hi)) | ((with_reducible refine gate_callee (f := 31) rfl ?_); refine gq_ (some 12) rfl rfl Try.func31 #[.int .i64 t222, .int .i64 t227] rfl ?_; (with_reducible refine (payrollref1_New.calls k t222 t227 t229 t230 t231 _ A4.out).mono ?_); rintro e w14 ⟨rfl, hb⟩; refine ⟨_, rfl, ?_⟩; replace HO221 := rb_ HO221 hb; replace HO226 := rb_ HO226 hb; replace BK218 := tb_ BK218 hb; replace HK := kb_ HK hb; replace HB := IsS53.ts_ HI0 HB hb; replace HI0 := IsS53.tb_ HI0 hb; (try clear hb); (try clear hb2); (try clear hk); (try clear hi)) | ((with_reducible refine gate_dst (N := 3) rfl ?_); refine bx_ (N := 3) (cs := #[.int .i64 0, .int .i64 0]) (t := 41) ?_; intro gb232 hg w15 hbox hb; have BK232 := Aside0.mk (hbox); have GW232 := ks_ HK hg; have GE232 := kw_ HW0 HK hg; have NB218_232 := nl_ BK218 hg; have NB232_218 := nr_ BK218 hg; have NB0_232 := IsS53.nl_ HI0 hg; have NB232_0 := IsS53.nr_ HI0 hg; replace HO221 := rb_ HO221 hb; replace HO226 := rb_ HO226 hb; replace BK218 := tb_ BK218 hb; replace HK := kb_ HK hb; replace HB := IsS53.ts_ HI0 HB hb; replace HI0 := IsS53.tb_ HI0 hb; clear hb hbox hg; have hnb16 := NB232_218.out; have hnc16 := NB218_232.out; have hnb17 := NB232_0.out; have hnc17 := NB0_232.out; have hcz18_0 : w15.cell? ⟨gb232, 0, none⟩ = some (.int .i64 0) := (blk_cell BK232.out 0).trans rfl; have hcz18_1 : w15.cell? ⟨gb232, 1, none⟩ = some (.int .i64 0) := (blk_cell BK232.out 1).trans rfl; have hfz18_0 := blk_frozen BK232.out 0; have hfz18_1 := blk_frozen BK232.out 1; have hnb19 := NB218_0.out; have hnc19 := NB0_218.out; have hcz20_0 : w15.cell? ⟨gb218, 0, none⟩ = some (.int .i64 0) := (blk_cell BK218.out 0).trans rfl; have hcz20_1 : w15.cell? ⟨gb218, 1, none⟩ = some (.int .i64 0) := (blk_cell BK218.out 1).trans rfl; have hfz20_0 := blk_frozen BK218.out 0; have hfz20_1 := blk_frozen BK218.out 1))
 refine bodyPost_ret (results_cell_row rfl _ _ gb218 41 #[.int .i64 t229, .int .i64 t230] (0, 0) _ rfl (by (with_reducible repeat (first | refine blk_drewN ?_ _ | refine blk_drew ?_ | refine blk_alloc ?_ _)); refine blk_put (cs := #[.int .i64 t229, .int .i64 0]) ?_ 1 _ rfl; (with_reducible repeat (first | refine blk_drewN ?_ _ | refine blk_drew ?_ | refine blk_alloc ?_ _)); refine blk_put (cs := #[.int .i64 0, .int .i64 0]) ?_ 0 _ rfl; (with_reducible repeat (first | refine blk_drewN ?_ _ | refine blk_drew ?_ | refine blk_alloc ?_ _)); refine blk_far ?_ NB218_232.out _; (with_reducible repeat (first | refine blk_drewN ?_ _ | refine blk_drew ?_ | refine blk_alloc ?_ _)); refine blk_far ?_ NB218_232.out _; (with_reducible repeat (first | refine blk_drewN ?_ _ | refine blk_drew ?_ | refine blk_alloc ?_ _)); exact BK218.out) Try.underlying41 rfl (by kernel_rfl)) rfl ?_
 exact ⟨by first | rfl | (simp [errW_none, errW_some] <;> rfl) | (simp [*, errW_none, errW_some] <;> rfl), IsS53.aq_ HI0, IsS53.bs_ HI0 HB, ke_ HK⟩

/-! ### ratio_both: function 43 -/
def ratio_both.f (k : Nat) (a0_0 : Int) (a0_1 : Int) (a1_0 : Int) (a1_1 : Int) : Option (Int) := (ratio_Valid.f k a0_0 a0_1).bind fun t235 => (if t235 = true then ((ratio_Valid.f k a1_0 a1_1).bind fun t236 => (if t236 = true then (some 0) else (some 1))) else (some 1))
theorem ratio_both.mono : ∀ a0 a1 a2 a3 k, LeO (ratio_both.f k a0 a1 a2 a3) (ratio_both.f (k + 1) a0 a1 a2 a3) := by
 intro a0 a1 a2 a3 k
 unfold ratio_both.f
 repeat' first
  | (with_reducible exact ratio_Valid.mono _ _ _)
  | (with_reducible exact LeO.refl _)
  | (with_reducible exact LeO.none _)
  | (with_reducible refine LeO.ite ?_ ?_)
  | (with_reducible refine LeO.bind ?_ (fun _ => ?_))
  | exact ratio_Valid.mono _ _ _
  | exact LeO.none _
  | refine LeO.ite ?_ ?_
  | refine LeO.bind ?_ (fun _ => ?_)
set_option maxHeartbeats 8000000 in
set_option maxRecDepth 100000 in
theorem ratio_both.calls (k : Nat) (a0_0 : Int) (a0_1 : Int) (a1_0 : Int) (a1_1 : Int) (r : Int) (w : World) (h : ratio_both.f k a0_0 a0_1 a1_0 a1_1 = some r) :
 Calls Try.prog 43 #[.agg #[.int .i64 a0_0, .int .i64 a0_1], .agg #[.int .i64 a1_0, .int .i64 a1_1]] w fun e w' => e = .returned (.int .i64 r) ∧ Below w.heap.size w w' := by
 have hu41 := Try.underlying41
 have HB := Aside0.mk (Below.refl w.heap.size w)
 have H : ((ratio_Valid.f k a0_0 a0_1).bind fun t235 => (if t235 = true then ((ratio_Valid.f k a1_0 a1_1).bind fun t236 => (if t236 = true then (some 0) else (some 1))) else (some 1))) = some r := h
 clear h
 replace H := Option.bind_eq_some_iff.mp H
 obtain ⟨t235, A30, H⟩ := H
 replace H : (if t235 = true then ((ratio_Valid.f k a1_0 a1_1).bind fun t236 => (if t236 = true then (some 0) else (some 1))) else (some 1)) = some r := H
 have A3 := Aside0.mk A30
 clear A30
 by_cases c4 : t235 = true
 ·
  subst c4
  have H1 : ((ratio_Valid.f k a1_0 a1_1).bind fun t236 => (if t236 = true then (some 0) else (some 1))) = some r := by rw [if_pos rfl] at H; exact H
  clear H
  have H := H1
  clear H1
  replace H := Option.bind_eq_some_iff.mp H
  obtain ⟨t236, A50, H⟩ := H
  replace H : (if t236 = true then (some 0) else (some 1)) = some r := H
  have A5 := Aside0.mk A50
  clear A50
  by_cases c6 : t236 = true
  ·
   subst c6
   have H1 : (some 0) = some r := by rw [if_pos rfl] at H; exact H
   clear H
   have H := H1
   clear H1
   obtain rfl := Option.some.inj H
   go_enter Try.func43, Try.ntmps43
   go_wp2_with (first | ((with_reducible refine gate_dst (N := 2) rfl ?_); refine bx_ (N := 2) (cs := #[.int .i64 a0_0, .int .i64 a0_1]) (t := 41) ?_; intro gb233 hg w7 hbox hb; have BK233 := Aside0.mk (hbox); have GW233 := sz_ HB hg; have GE233 := sz_ HB hg; replace HB := ts_ HB hb; clear hb hbox hg) | ((with_reducible refine gate_dst (N := 3) rfl ?_); refine bx_ (N := 3) (cs := #[.int .i64 a1_0, .int .i64 a1_1]) (t := 41) ?_; intro gb234 hg w8 hbox hb; have BK234 := Aside0.mk (hbox); have GW234 := sz_ HB hg; have GE234 := sz_ HB hg; have NB233_234 := nl_ BK233 hg; have NB234_233 := nr_ BK233 hg; replace BK233 := tb_ BK233 hb; replace HB := ts_ HB hb; clear hb hbox hg; have hnb9 := NB233_234.out; have hnc9 := NB234_233.out; have hcz10_0 : w8.cell? ⟨gb233, 0, none⟩ = some (.int .i64 a0_0) := (blk_cell BK233.out 0).trans rfl; have hcz10_1 : w8.cell? ⟨gb233, 1, none⟩ = some (.int .i64 a0_1) := (blk_cell BK233.out 1).trans rfl; have hfz10_0 := blk_frozen BK233.out 0; have hfz10_1 := blk_frozen BK233.out 1) | ((with_reducible refine gate_callee (f := 41) rfl ?_); refine gq_ (some 6) rfl rfl Try.func41 #[.agg #[.int .i64 a0_0, .int .i64 a0_1]] rfl ?_; (with_reducible refine (ratio_Valid.calls k a0_0 a0_1 true _ A3.out).mono ?_); rintro e w11 ⟨rfl, hb⟩; refine ⟨_, rfl, ?_⟩; replace BK233 := tb_ BK233 hb; replace BK234 := tb_ BK234 hb; replace HB := ts_ HB hb; (try clear hb); (try clear hb2); (try clear hk); (try clear hi); have hcz12_0 : w11.cell? ⟨gb234, 0, none⟩ = some (.int .i64 a1_0) := (blk_cell BK234.out 0).trans rfl; have hcz12_1 : w11.cell? ⟨gb234, 1, none⟩ = some (.int .i64 a1_1) := (blk_cell BK234.out 1).trans rfl; have hfz12_0 := blk_frozen BK234.out 0; have hfz12_1 := blk_frozen BK234.out 1) | (go_at_call 41; (with_reducible refine (ratio_Valid.calls k a1_0 a1_1 true _ A5.out).mono ?_); rintro e w13 ⟨rfl, hb⟩; replace BK233 := tb_ BK233 hb; replace BK234 := tb_ BK234 hb; replace HB := ts_ HB hb; (try clear hb); (try clear hb2); (try clear hk); (try clear hi)))
   go_ret
   exact ⟨by first | rfl | (simp [errW_none, errW_some] <;> rfl) | (simp [*, errW_none, errW_some] <;> rfl), be_ HB⟩
  ·
   replace c6 := Bool.eq_false_iff.mpr c6
   subst c6
   have H1 : (some 1) = some r := by rw [if_neg (show ¬ (false = true) by decide)] at H; exact H
   clear H
   have H := H1
   clear H1
   obtain rfl := Option.some.inj H
   go_enter Try.func43, Try.ntmps43
   go_wp2_with (first | ((with_reducible refine gate_dst (N := 2) rfl ?_); refine bx_ (N := 2) (cs := #[.int .i64 a0_0, .int .i64 a0_1]) (t := 41) ?_; intro gb233 hg w14 hbox hb; have BK233 := Aside0.mk (hbox); have GW233 := sz_ HB hg; have GE233 := sz_ HB hg; replace HB := ts_ HB hb; clear hb hbox hg) | ((with_reducible refine gate_dst (N := 3) rfl ?_); refine bx_ (N := 3) (cs := #[.int .i64 a1_0, .int .i64 a1_1]) (t := 41) ?_; intro gb234 hg w15 hbox hb; have BK234 := Aside0.mk (hbox); have GW234 := sz_ HB hg; have GE234 := sz_ HB hg; have NB233_234 := nl_ BK233 hg; have NB234_233 := nr_ BK233 hg; replace BK233 := tb_ BK233 hb; replace HB := ts_ HB hb; clear hb hbox hg; have hnb16 := NB233_234.out; have hnc16 := NB234_233.out; have hcz17_0 : w15.cell? ⟨gb233, 0, none⟩ = some (.int .i64 a0_0) := (blk_cell BK233.out 0).trans rfl; have hcz17_1 : w15.cell? ⟨gb233, 1, none⟩ = some (.int .i64 a0_1) := (blk_cell BK233.out 1).trans rfl; have hfz17_0 := blk_frozen BK233.out 0; have hfz17_1 := blk_frozen BK233.out 1) | ((with_reducible refine gate_callee (f := 41) rfl ?_); refine gq_ (some 6) rfl rfl Try.func41 #[.agg #[.int .i64 a0_0, .int .i64 a0_1]] rfl ?_; (with_reducible refine (ratio_Valid.calls k a0_0 a0_1 true _ A3.out).mono ?_); rintro e w18 ⟨rfl, hb⟩; refine ⟨_, rfl, ?_⟩; replace BK233 := tb_ BK233 hb; replace BK234 := tb_ BK234 hb; replace HB := ts_ HB hb; (try clear hb); (try clear hb2); (try clear hk); (try clear hi); have hcz19_0 : w18.cell? ⟨gb234, 0, none⟩ = some (.int .i64 a1_0) := (blk_cell BK234.out 0).trans rfl; have hcz19_1 : w18.cell? ⟨gb234, 1, none⟩ = some (.int .i64 a1_1) := (blk_cell BK234.out 1).trans rfl; have hfz19_0 := blk_frozen BK234.out 0; have hfz19_1 := blk_frozen BK234.out 1) | (go_at_call 41; (with_reducible refine (ratio_Valid.calls k a1_0 a1_1 false _ A5.out).mono ?_); rintro e w20 ⟨rfl, hb⟩; replace BK233 := tb_ BK233 hb; replace BK234 := tb_ BK234 hb; replace HB := ts_ HB hb; (try clear hb); (try clear hb2); (try clear hk); (try clear hi)))
   go_ret
   exact ⟨by first | rfl | (simp [errW_none, errW_some] <;> rfl) | (simp [*, errW_none, errW_some] <;> rfl), be_ HB⟩
 ·
  replace c4 := Bool.eq_false_iff.mpr c4
  subst c4
  have H1 : (some 1) = some r := by rw [if_neg (show ¬ (false = true) by decide)] at H; exact H
  clear H
  have H := H1
  clear H1
  obtain rfl := Option.some.inj H
  go_enter Try.func43, Try.ntmps43
  go_wp2_with (first | ((with_reducible refine gate_dst (N := 2) rfl ?_); refine bx_ (N := 2) (cs := #[.int .i64 a0_0, .int .i64 a0_1]) (t := 41) ?_; intro gb233 hg w21 hbox hb; have BK233 := Aside0.mk (hbox); have GW233 := sz_ HB hg; have GE233 := sz_ HB hg; replace HB := ts_ HB hb; clear hb hbox hg) | ((with_reducible refine gate_dst (N := 3) rfl ?_); refine bx_ (N := 3) (cs := #[.int .i64 a1_0, .int .i64 a1_1]) (t := 41) ?_; intro gb234 hg w22 hbox hb; have BK234 := Aside0.mk (hbox); have GW234 := sz_ HB hg; have GE234 := sz_ HB hg; have NB233_234 := nl_ BK233 hg; have NB234_233 := nr_ BK233 hg; replace BK233 := tb_ BK233 hb; replace HB := ts_ HB hb; clear hb hbox hg; have hnb23 := NB233_234.out; have hnc23 := NB234_233.out; have hcz24_0 : w22.cell? ⟨gb233, 0, none⟩ = some (.int .i64 a0_0) := (blk_cell BK233.out 0).trans rfl; have hcz24_1 : w22.cell? ⟨gb233, 1, none⟩ = some (.int .i64 a0_1) := (blk_cell BK233.out 1).trans rfl; have hfz24_0 := blk_frozen BK233.out 0; have hfz24_1 := blk_frozen BK233.out 1) | ((with_reducible refine gate_callee (f := 41) rfl ?_); refine gq_ (some 6) rfl rfl Try.func41 #[.agg #[.int .i64 a0_0, .int .i64 a0_1]] rfl ?_; (with_reducible refine (ratio_Valid.calls k a0_0 a0_1 false _ A3.out).mono ?_); rintro e w25 ⟨rfl, hb⟩; refine ⟨_, rfl, ?_⟩; replace BK233 := tb_ BK233 hb; replace BK234 := tb_ BK234 hb; replace HB := ts_ HB hb; (try clear hb); (try clear hb2); (try clear hk); (try clear hi)))
  go_ret
  exact ⟨by first | rfl | (simp [errW_none, errW_some] <;> rfl) | (simp [*, errW_none, errW_some] <;> rfl), be_ HB⟩

/-! ### ratio_Compare: function 24 -/
def ratio_Compare.f (k : Nat) (a0_0 : Int) (a0_1 : Int) (a1_0 : Int) (a1_1 : Int) : Option (Int) := (ratio_both.f k a0_0 a0_1 a1_0 a1_1).bind fun t239 => (if t239 = 0 then (if (wrap64 (a0_0 * a1_1)) < (wrap64 (a1_0 * a0_1)) then (some (-1)) else (if (wrap64 (a0_0 * a1_1)) > (wrap64 (a1_0 * a0_1)) then (some 1) else (some 0))) else (some 0))
theorem ratio_Compare.mono : ∀ a0 a1 a2 a3 k, LeO (ratio_Compare.f k a0 a1 a2 a3) (ratio_Compare.f (k + 1) a0 a1 a2 a3) := by
 intro a0 a1 a2 a3 k
 unfold ratio_Compare.f
 repeat' first
  | (with_reducible exact ratio_both.mono _ _ _ _ _)
  | (with_reducible exact LeO.refl _)
  | (with_reducible exact LeO.none _)
  | (with_reducible refine LeO.ite ?_ ?_)
  | (with_reducible refine LeO.bind ?_ (fun _ => ?_))
  | exact ratio_both.mono _ _ _ _ _
  | exact LeO.none _
  | refine LeO.ite ?_ ?_
  | refine LeO.bind ?_ (fun _ => ?_)
set_option maxHeartbeats 8000000 in
set_option maxRecDepth 100000 in
theorem ratio_Compare.calls (k : Nat) (a0_0 : Int) (a0_1 : Int) (a1_0 : Int) (a1_1 : Int) (r : Int) (w : World) (h : ratio_Compare.f k a0_0 a0_1 a1_0 a1_1 = some r) :
 Calls Try.prog 24 #[.agg #[.int .i64 a0_0, .int .i64 a0_1], .agg #[.int .i64 a1_0, .int .i64 a1_1]] w fun e w' => e = .returned (.int .i64 r) ∧ Below w.heap.size w w' := by
 have hu41 := Try.underlying41
 have HB := Aside0.mk (Below.refl w.heap.size w)
 have H : ((ratio_both.f k a0_0 a0_1 a1_0 a1_1).bind fun t239 => (if t239 = 0 then (if (wrap64 (a0_0 * a1_1)) < (wrap64 (a1_0 * a0_1)) then (some (-1)) else (if (wrap64 (a0_0 * a1_1)) > (wrap64 (a1_0 * a0_1)) then (some 1) else (some 0))) else (some 0))) = some r := h
 clear h
 replace H := Option.bind_eq_some_iff.mp H
 obtain ⟨t239, A30, H⟩ := H
 replace H : (if t239 = 0 then (if (wrap64 (a0_0 * a1_1)) < (wrap64 (a1_0 * a0_1)) then (some (-1)) else (if (wrap64 (a0_0 * a1_1)) > (wrap64 (a1_0 * a0_1)) then (some 1) else (some 0))) else (some 0)) = some r := H
 have A3 := Aside0.mk A30
 clear A30
 by_cases c4 : t239 = 0
 ·
  rw [if_pos c4] at H
  have c4b0 : (t239 == 0) = true := beq_iff_eq.mpr c4
  have c4b1 : (t239 != 0) = false := bne_eq_false_iff_eq.mpr c4
  clear c4
  by_cases c5 : (wrap64 (a0_0 * a1_1)) < (wrap64 (a1_0 * a0_1))
  ·
   rw [if_pos c5] at H
   have c5b0 : decide ((wrap64 (a0_0 * a1_1)) < (wrap64 (a1_0 * a0_1))) = true := decide_eq_true c5
   clear c5
   obtain rfl := Option.some.inj H
   go_enter Try.func24, Try.ntmps24
   go_wp2_with (first | ((with_reducible refine gate_dst (N := 2) rfl ?_); refine bx_ (N := 2) (cs := #[.int .i64 a0_0, .int .i64 a0_1]) (t := 41) ?_; intro gb237 hg w6 hbox hb; have BK237 := Aside0.mk (hbox); have GW237 := sz_ HB hg; have GE237 := sz_ HB hg; replace HB := ts_ HB hb; clear hb hbox hg) | ((with_reducible refine gate_dst (N := 3) rfl ?_); refine bx_ (N := 3) (cs := #[.int .i64 a1_0, .int .i64 a1_1]) (t := 41) ?_; intro gb238 hg w7 hbox hb; have BK238 := Aside0.mk (hbox); have GW238 := sz_ HB hg; have GE238 := sz_ HB hg; have NB237_238 := nl_ BK237 hg; have NB238_237 := nr_ BK237 hg; replace BK237 := tb_ BK237 hb; replace HB := ts_ HB hb; clear hb hbox hg; have hnb8 := NB237_238.out; have hnc8 := NB238_237.out; have hcz9_0 : w7.cell? ⟨gb237, 0, none⟩ = some (.int .i64 a0_0) := (blk_cell BK237.out 0).trans rfl; have hcz9_1 : w7.cell? ⟨gb237, 1, none⟩ = some (.int .i64 a0_1) := (blk_cell BK237.out 1).trans rfl; have hfz9_0 := blk_frozen BK237.out 0; have hfz9_1 := blk_frozen BK237.out 1; have hcz10_0 : w7.cell? ⟨gb238, 0, none⟩ = some (.int .i64 a1_0) := (blk_cell BK238.out 0).trans rfl; have hcz10_1 : w7.cell? ⟨gb238, 1, none⟩ = some (.int .i64 a1_1) := (blk_cell BK238.out 1).trans rfl; have hfz10_0 := blk_frozen BK238.out 0; have hfz10_1 := blk_frozen BK238.out 1) | (go_at_call 43; (with_reducible refine (ratio_both.calls k a0_0 a0_1 a1_0 a1_1 t239 _ A3.out).mono ?_); rintro e w11 ⟨rfl, hb⟩; replace BK237 := tb_ BK237 hb; replace BK238 := tb_ BK238 hb; replace HB := ts_ HB hb; (try clear hb); (try clear hb2); (try clear hk); (try clear hi); have hcz12_0 : w11.cell? ⟨gb237, 0, none⟩ = some (.int .i64 a0_0) := (blk_cell BK237.out 0).trans rfl; have hcz12_1 : w11.cell? ⟨gb237, 1, none⟩ = some (.int .i64 a0_1) := (blk_cell BK237.out 1).trans rfl; have hfz12_0 := blk_frozen BK237.out 0; have hfz12_1 := blk_frozen BK237.out 1; have hcz13_0 : w11.cell? ⟨gb238, 0, none⟩ = some (.int .i64 a1_0) := (blk_cell BK238.out 0).trans rfl; have hcz13_1 : w11.cell? ⟨gb238, 1, none⟩ = some (.int .i64 a1_1) := (blk_cell BK238.out 1).trans rfl; have hfz13_0 := blk_frozen BK238.out 0; have hfz13_1 := blk_frozen BK238.out 1))
   repeat (go_quiet (first | ((with_reducible refine gate_dst (N := 2) rfl ?_); refine bx_ (N := 2) (cs := #[.int .i64 a0_0, .int .i64 a0_1]) (t := 41) ?_; intro gb237 hg w6 hbox hb; have BK237 := Aside0.mk (hbox); have GW237 := sz_ HB hg; have GE237 := sz_ HB hg; replace HB := ts_ HB hb; clear hb hbox hg) | ((with_reducible refine gate_dst (N := 3) rfl ?_); refine bx_ (N := 3) (cs := #[.int .i64 a1_0, .int .i64 a1_1]) (t := 41) ?_; intro gb238 hg w7 hbox hb; have BK238 := Aside0.mk (hbox); have GW238 := sz_ HB hg; have GE238 := sz_ HB hg; have NB237_238 := nl_ BK237 hg; have NB238_237 := nr_ BK237 hg; replace BK237 := tb_ BK237 hb; replace HB := ts_ HB hb; clear hb hbox hg; have hnb8 := NB237_238.out; have hnc8 := NB238_237.out; have hcz9_0 : w7.cell? ⟨gb237, 0, none⟩ = some (.int .i64 a0_0) := (blk_cell BK237.out 0).trans rfl; have hcz9_1 : w7.cell? ⟨gb237, 1, none⟩ = some (.int .i64 a0_1) := (blk_cell BK237.out 1).trans rfl; have hfz9_0 := blk_frozen BK237.out 0; have hfz9_1 := blk_frozen BK237.out 1; have hcz10_0 : w7.cell? ⟨gb238, 0, none⟩ = some (.int .i64 a1_0) := (blk_cell BK238.out 0).trans rfl; have hcz10_1 : w7.cell? ⟨gb238, 1, none⟩ = some (.int .i64 a1_1) := (blk_cell BK238.out 1).trans rfl; have hfz10_0 := blk_frozen BK238.out 0; have hfz10_1 := blk_frozen BK238.out 1) | (go_at_call 43; (with_reducible refine (ratio_both.calls k a0_0 a0_1 a1_0 a1_1 t239 _ A3.out).mono ?_); rintro e w11 ⟨rfl, hb⟩; replace BK237 := tb_ BK237 hb; replace BK238 := tb_ BK238 hb; replace HB := ts_ HB hb; (try clear hb); (try clear hb2); (try clear hk); (try clear hi); have hcz12_0 : w11.cell? ⟨gb237, 0, none⟩ = some (.int .i64 a0_0) := (blk_cell BK237.out 0).trans rfl; have hcz12_1 : w11.cell? ⟨gb237, 1, none⟩ = some (.int .i64 a0_1) := (blk_cell BK237.out 1).trans rfl; have hfz12_0 := blk_frozen BK237.out 0; have hfz12_1 := blk_frozen BK237.out 1; have hcz13_0 : w11.cell? ⟨gb238, 0, none⟩ = some (.int .i64 a1_0) := (blk_cell BK238.out 0).trans rfl; have hcz13_1 : w11.cell? ⟨gb238, 1, none⟩ = some (.int .i64 a1_1) := (blk_cell BK238.out 1).trans rfl; have hfz13_0 := blk_frozen BK238.out 0; have hfz13_1 := blk_frozen BK238.out 1)); try go_wp2_with (first | ((with_reducible refine gate_dst (N := 2) rfl ?_); refine bx_ (N := 2) (cs := #[.int .i64 a0_0, .int .i64 a0_1]) (t := 41) ?_; intro gb237 hg w6 hbox hb; have BK237 := Aside0.mk (hbox); have GW237 := sz_ HB hg; have GE237 := sz_ HB hg; replace HB := ts_ HB hb; clear hb hbox hg) | ((with_reducible refine gate_dst (N := 3) rfl ?_); refine bx_ (N := 3) (cs := #[.int .i64 a1_0, .int .i64 a1_1]) (t := 41) ?_; intro gb238 hg w7 hbox hb; have BK238 := Aside0.mk (hbox); have GW238 := sz_ HB hg; have GE238 := sz_ HB hg; have NB237_238 := nl_ BK237 hg; have NB238_237 := nr_ BK237 hg; replace BK237 := tb_ BK237 hb; replace HB := ts_ HB hb; clear hb hbox hg; have hnb8 := NB237_238.out; have hnc8 := NB238_237.out; have hcz9_0 : w7.cell? ⟨gb237, 0, none⟩ = some (.int .i64 a0_0) := (blk_cell BK237.out 0).trans rfl; have hcz9_1 : w7.cell? ⟨gb237, 1, none⟩ = some (.int .i64 a0_1) := (blk_cell BK237.out 1).trans rfl; have hfz9_0 := blk_frozen BK237.out 0; have hfz9_1 := blk_frozen BK237.out 1; have hcz10_0 : w7.cell? ⟨gb238, 0, none⟩ = some (.int .i64 a1_0) := (blk_cell BK238.out 0).trans rfl; have hcz10_1 : w7.cell? ⟨gb238, 1, none⟩ = some (.int .i64 a1_1) := (blk_cell BK238.out 1).trans rfl; have hfz10_0 := blk_frozen BK238.out 0; have hfz10_1 := blk_frozen BK238.out 1) | (go_at_call 43; (with_reducible refine (ratio_both.calls k a0_0 a0_1 a1_0 a1_1 t239 _ A3.out).mono ?_); rintro e w11 ⟨rfl, hb⟩; replace BK237 := tb_ BK237 hb; replace BK238 := tb_ BK238 hb; replace HB := ts_ HB hb; (try clear hb); (try clear hb2); (try clear hk); (try clear hi); have hcz12_0 : w11.cell? ⟨gb237, 0, none⟩ = some (.int .i64 a0_0) := (blk_cell BK237.out 0).trans rfl; have hcz12_1 : w11.cell? ⟨gb237, 1, none⟩ = some (.int .i64 a0_1) := (blk_cell BK237.out 1).trans rfl; have hfz12_0 := blk_frozen BK237.out 0; have hfz12_1 := blk_frozen BK237.out 1; have hcz13_0 : w11.cell? ⟨gb238, 0, none⟩ = some (.int .i64 a1_0) := (blk_cell BK238.out 0).trans rfl; have hcz13_1 : w11.cell? ⟨gb238, 1, none⟩ = some (.int .i64 a1_1) := (blk_cell BK238.out 1).trans rfl; have hfz13_0 := blk_frozen BK238.out 0; have hfz13_1 := blk_frozen BK238.out 1)))
   go_ret
   exact ⟨by first | rfl | (simp [errW_none, errW_some] <;> rfl) | (simp [*, errW_none, errW_some] <;> rfl), be_ HB⟩
  ·
   rw [if_neg c5] at H
   have c5b0 : decide ((wrap64 (a0_0 * a1_1)) < (wrap64 (a1_0 * a0_1))) = false := decide_eq_false c5
   clear c5
   by_cases c14 : (wrap64 (a0_0 * a1_1)) > (wrap64 (a1_0 * a0_1))
   ·
    rw [if_pos c14] at H
    have c14b0 : decide ((wrap64 (a1_0 * a0_1)) < (wrap64 (a0_0 * a1_1))) = true := decide_eq_true c14
    clear c14
    obtain rfl := Option.some.inj H
    go_enter Try.func24, Try.ntmps24
    go_wp2_with (first | ((with_reducible refine gate_dst (N := 2) rfl ?_); refine bx_ (N := 2) (cs := #[.int .i64 a0_0, .int .i64 a0_1]) (t := 41) ?_; intro gb237 hg w15 hbox hb; have BK237 := Aside0.mk (hbox); have GW237 := sz_ HB hg; have GE237 := sz_ HB hg; replace HB := ts_ HB hb; clear hb hbox hg) | ((with_reducible refine gate_dst (N := 3) rfl ?_); refine bx_ (N := 3) (cs := #[.int .i64 a1_0, .int .i64 a1_1]) (t := 41) ?_; intro gb238 hg w16 hbox hb; have BK238 := Aside0.mk (hbox); have GW238 := sz_ HB hg; have GE238 := sz_ HB hg; have NB237_238 := nl_ BK237 hg; have NB238_237 := nr_ BK237 hg; replace BK237 := tb_ BK237 hb; replace HB := ts_ HB hb; clear hb hbox hg; have hnb17 := NB237_238.out; have hnc17 := NB238_237.out; have hcz18_0 : w16.cell? ⟨gb237, 0, none⟩ = some (.int .i64 a0_0) := (blk_cell BK237.out 0).trans rfl; have hcz18_1 : w16.cell? ⟨gb237, 1, none⟩ = some (.int .i64 a0_1) := (blk_cell BK237.out 1).trans rfl; have hfz18_0 := blk_frozen BK237.out 0; have hfz18_1 := blk_frozen BK237.out 1; have hcz19_0 : w16.cell? ⟨gb238, 0, none⟩ = some (.int .i64 a1_0) := (blk_cell BK238.out 0).trans rfl; have hcz19_1 : w16.cell? ⟨gb238, 1, none⟩ = some (.int .i64 a1_1) := (blk_cell BK238.out 1).trans rfl; have hfz19_0 := blk_frozen BK238.out 0; have hfz19_1 := blk_frozen BK238.out 1) | (go_at_call 43; (with_reducible refine (ratio_both.calls k a0_0 a0_1 a1_0 a1_1 t239 _ A3.out).mono ?_); rintro e w20 ⟨rfl, hb⟩; replace BK237 := tb_ BK237 hb; replace BK238 := tb_ BK238 hb; replace HB := ts_ HB hb; (try clear hb); (try clear hb2); (try clear hk); (try clear hi); have hcz21_0 : w20.cell? ⟨gb237, 0, none⟩ = some (.int .i64 a0_0) := (blk_cell BK237.out 0).trans rfl; have hcz21_1 : w20.cell? ⟨gb237, 1, none⟩ = some (.int .i64 a0_1) := (blk_cell BK237.out 1).trans rfl; have hfz21_0 := blk_frozen BK237.out 0; have hfz21_1 := blk_frozen BK237.out 1; have hcz22_0 : w20.cell? ⟨gb238, 0, none⟩ = some (.int .i64 a1_0) := (blk_cell BK238.out 0).trans rfl; have hcz22_1 : w20.cell? ⟨gb238, 1, none⟩ = some (.int .i64 a1_1) := (blk_cell BK238.out 1).trans rfl; have hfz22_0 := blk_frozen BK238.out 0; have hfz22_1 := blk_frozen BK238.out 1))
    repeat (go_quiet (first | ((with_reducible refine gate_dst (N := 2) rfl ?_); refine bx_ (N := 2) (cs := #[.int .i64 a0_0, .int .i64 a0_1]) (t := 41) ?_; intro gb237 hg w15 hbox hb; have BK237 := Aside0.mk (hbox); have GW237 := sz_ HB hg; have GE237 := sz_ HB hg; replace HB := ts_ HB hb; clear hb hbox hg) | ((with_reducible refine gate_dst (N := 3) rfl ?_); refine bx_ (N := 3) (cs := #[.int .i64 a1_0, .int .i64 a1_1]) (t := 41) ?_; intro gb238 hg w16 hbox hb; have BK238 := Aside0.mk (hbox); have GW238 := sz_ HB hg; have GE238 := sz_ HB hg; have NB237_238 := nl_ BK237 hg; have NB238_237 := nr_ BK237 hg; replace BK237 := tb_ BK237 hb; replace HB := ts_ HB hb; clear hb hbox hg; have hnb17 := NB237_238.out; have hnc17 := NB238_237.out; have hcz18_0 : w16.cell? ⟨gb237, 0, none⟩ = some (.int .i64 a0_0) := (blk_cell BK237.out 0).trans rfl; have hcz18_1 : w16.cell? ⟨gb237, 1, none⟩ = some (.int .i64 a0_1) := (blk_cell BK237.out 1).trans rfl; have hfz18_0 := blk_frozen BK237.out 0; have hfz18_1 := blk_frozen BK237.out 1; have hcz19_0 : w16.cell? ⟨gb238, 0, none⟩ = some (.int .i64 a1_0) := (blk_cell BK238.out 0).trans rfl; have hcz19_1 : w16.cell? ⟨gb238, 1, none⟩ = some (.int .i64 a1_1) := (blk_cell BK238.out 1).trans rfl; have hfz19_0 := blk_frozen BK238.out 0; have hfz19_1 := blk_frozen BK238.out 1) | (go_at_call 43; (with_reducible refine (ratio_both.calls k a0_0 a0_1 a1_0 a1_1 t239 _ A3.out).mono ?_); rintro e w20 ⟨rfl, hb⟩; replace BK237 := tb_ BK237 hb; replace BK238 := tb_ BK238 hb; replace HB := ts_ HB hb; (try clear hb); (try clear hb2); (try clear hk); (try clear hi); have hcz21_0 : w20.cell? ⟨gb237, 0, none⟩ = some (.int .i64 a0_0) := (blk_cell BK237.out 0).trans rfl; have hcz21_1 : w20.cell? ⟨gb237, 1, none⟩ = some (.int .i64 a0_1) := (blk_cell BK237.out 1).trans rfl; have hfz21_0 := blk_frozen BK237.out 0; have hfz21_1 := blk_frozen BK237.out 1; have hcz22_0 : w20.cell? ⟨gb238, 0, none⟩ = some (.int .i64 a1_0) := (blk_cell BK238.out 0).trans rfl; have hcz22_1 : w20.cell? ⟨gb238, 1, none⟩ = some (.int .i64 a1_1) := (blk_cell BK238.out 1).trans rfl; have hfz22_0 := blk_frozen BK238.out 0; have hfz22_1 := blk_frozen BK238.out 1)); try go_wp2_with (first | ((with_reducible refine gate_dst (N := 2) rfl ?_); refine bx_ (N := 2) (cs := #[.int .i64 a0_0, .int .i64 a0_1]) (t := 41) ?_; intro gb237 hg w15 hbox hb; have BK237 := Aside0.mk (hbox); have GW237 := sz_ HB hg; have GE237 := sz_ HB hg; replace HB := ts_ HB hb; clear hb hbox hg) | ((with_reducible refine gate_dst (N := 3) rfl ?_); refine bx_ (N := 3) (cs := #[.int .i64 a1_0, .int .i64 a1_1]) (t := 41) ?_; intro gb238 hg w16 hbox hb; have BK238 := Aside0.mk (hbox); have GW238 := sz_ HB hg; have GE238 := sz_ HB hg; have NB237_238 := nl_ BK237 hg; have NB238_237 := nr_ BK237 hg; replace BK237 := tb_ BK237 hb; replace HB := ts_ HB hb; clear hb hbox hg; have hnb17 := NB237_238.out; have hnc17 := NB238_237.out; have hcz18_0 : w16.cell? ⟨gb237, 0, none⟩ = some (.int .i64 a0_0) := (blk_cell BK237.out 0).trans rfl; have hcz18_1 : w16.cell? ⟨gb237, 1, none⟩ = some (.int .i64 a0_1) := (blk_cell BK237.out 1).trans rfl; have hfz18_0 := blk_frozen BK237.out 0; have hfz18_1 := blk_frozen BK237.out 1; have hcz19_0 : w16.cell? ⟨gb238, 0, none⟩ = some (.int .i64 a1_0) := (blk_cell BK238.out 0).trans rfl; have hcz19_1 : w16.cell? ⟨gb238, 1, none⟩ = some (.int .i64 a1_1) := (blk_cell BK238.out 1).trans rfl; have hfz19_0 := blk_frozen BK238.out 0; have hfz19_1 := blk_frozen BK238.out 1) | (go_at_call 43; (with_reducible refine (ratio_both.calls k a0_0 a0_1 a1_0 a1_1 t239 _ A3.out).mono ?_); rintro e w20 ⟨rfl, hb⟩; replace BK237 := tb_ BK237 hb; replace BK238 := tb_ BK238 hb; replace HB := ts_ HB hb; (try clear hb); (try clear hb2); (try clear hk); (try clear hi); have hcz21_0 : w20.cell? ⟨gb237, 0, none⟩ = some (.int .i64 a0_0) := (blk_cell BK237.out 0).trans rfl; have hcz21_1 : w20.cell? ⟨gb237, 1, none⟩ = some (.int .i64 a0_1) := (blk_cell BK237.out 1).trans rfl; have hfz21_0 := blk_frozen BK237.out 0; have hfz21_1 := blk_frozen BK237.out 1; have hcz22_0 : w20.cell? ⟨gb238, 0, none⟩ = some (.int .i64 a1_0) := (blk_cell BK238.out 0).trans rfl; have hcz22_1 : w20.cell? ⟨gb238, 1, none⟩ = some (.int .i64 a1_1) := (blk_cell BK238.out 1).trans rfl; have hfz22_0 := blk_frozen BK238.out 0; have hfz22_1 := blk_frozen BK238.out 1)))
    go_ret
    exact ⟨by first | rfl | (simp [errW_none, errW_some] <;> rfl) | (simp [*, errW_none, errW_some] <;> rfl), be_ HB⟩
   ·
    rw [if_neg c14] at H
    have c14b0 : decide ((wrap64 (a1_0 * a0_1)) < (wrap64 (a0_0 * a1_1))) = false := decide_eq_false c14
    clear c14
    obtain rfl := Option.some.inj H
    go_enter Try.func24, Try.ntmps24
    go_wp2_with (first | ((with_reducible refine gate_dst (N := 2) rfl ?_); refine bx_ (N := 2) (cs := #[.int .i64 a0_0, .int .i64 a0_1]) (t := 41) ?_; intro gb237 hg w23 hbox hb; have BK237 := Aside0.mk (hbox); have GW237 := sz_ HB hg; have GE237 := sz_ HB hg; replace HB := ts_ HB hb; clear hb hbox hg) | ((with_reducible refine gate_dst (N := 3) rfl ?_); refine bx_ (N := 3) (cs := #[.int .i64 a1_0, .int .i64 a1_1]) (t := 41) ?_; intro gb238 hg w24 hbox hb; have BK238 := Aside0.mk (hbox); have GW238 := sz_ HB hg; have GE238 := sz_ HB hg; have NB237_238 := nl_ BK237 hg; have NB238_237 := nr_ BK237 hg; replace BK237 := tb_ BK237 hb; replace HB := ts_ HB hb; clear hb hbox hg; have hnb25 := NB237_238.out; have hnc25 := NB238_237.out; have hcz26_0 : w24.cell? ⟨gb237, 0, none⟩ = some (.int .i64 a0_0) := (blk_cell BK237.out 0).trans rfl; have hcz26_1 : w24.cell? ⟨gb237, 1, none⟩ = some (.int .i64 a0_1) := (blk_cell BK237.out 1).trans rfl; have hfz26_0 := blk_frozen BK237.out 0; have hfz26_1 := blk_frozen BK237.out 1; have hcz27_0 : w24.cell? ⟨gb238, 0, none⟩ = some (.int .i64 a1_0) := (blk_cell BK238.out 0).trans rfl; have hcz27_1 : w24.cell? ⟨gb238, 1, none⟩ = some (.int .i64 a1_1) := (blk_cell BK238.out 1).trans rfl; have hfz27_0 := blk_frozen BK238.out 0; have hfz27_1 := blk_frozen BK238.out 1) | (go_at_call 43; (with_reducible refine (ratio_both.calls k a0_0 a0_1 a1_0 a1_1 t239 _ A3.out).mono ?_); rintro e w28 ⟨rfl, hb⟩; replace BK237 := tb_ BK237 hb; replace BK238 := tb_ BK238 hb; replace HB := ts_ HB hb; (try clear hb); (try clear hb2); (try clear hk); (try clear hi); have hcz29_0 : w28.cell? ⟨gb237, 0, none⟩ = some (.int .i64 a0_0) := (blk_cell BK237.out 0).trans rfl; have hcz29_1 : w28.cell? ⟨gb237, 1, none⟩ = some (.int .i64 a0_1) := (blk_cell BK237.out 1).trans rfl; have hfz29_0 := blk_frozen BK237.out 0; have hfz29_1 := blk_frozen BK237.out 1; have hcz30_0 : w28.cell? ⟨gb238, 0, none⟩ = some (.int .i64 a1_0) := (blk_cell BK238.out 0).trans rfl; have hcz30_1 : w28.cell? ⟨gb238, 1, none⟩ = some (.int .i64 a1_1) := (blk_cell BK238.out 1).trans rfl; have hfz30_0 := blk_frozen BK238.out 0; have hfz30_1 := blk_frozen BK238.out 1))
    repeat (go_quiet (first | ((with_reducible refine gate_dst (N := 2) rfl ?_); refine bx_ (N := 2) (cs := #[.int .i64 a0_0, .int .i64 a0_1]) (t := 41) ?_; intro gb237 hg w23 hbox hb; have BK237 := Aside0.mk (hbox); have GW237 := sz_ HB hg; have GE237 := sz_ HB hg; replace HB := ts_ HB hb; clear hb hbox hg) | ((with_reducible refine gate_dst (N := 3) rfl ?_); refine bx_ (N := 3) (cs := #[.int .i64 a1_0, .int .i64 a1_1]) (t := 41) ?_; intro gb238 hg w24 hbox hb; have BK238 := Aside0.mk (hbox); have GW238 := sz_ HB hg; have GE238 := sz_ HB hg; have NB237_238 := nl_ BK237 hg; have NB238_237 := nr_ BK237 hg; replace BK237 := tb_ BK237 hb; replace HB := ts_ HB hb; clear hb hbox hg; have hnb25 := NB237_238.out; have hnc25 := NB238_237.out; have hcz26_0 : w24.cell? ⟨gb237, 0, none⟩ = some (.int .i64 a0_0) := (blk_cell BK237.out 0).trans rfl; have hcz26_1 : w24.cell? ⟨gb237, 1, none⟩ = some (.int .i64 a0_1) := (blk_cell BK237.out 1).trans rfl; have hfz26_0 := blk_frozen BK237.out 0; have hfz26_1 := blk_frozen BK237.out 1; have hcz27_0 : w24.cell? ⟨gb238, 0, none⟩ = some (.int .i64 a1_0) := (blk_cell BK238.out 0).trans rfl; have hcz27_1 : w24.cell? ⟨gb238, 1, none⟩ = some (.int .i64 a1_1) := (blk_cell BK238.out 1).trans rfl; have hfz27_0 := blk_frozen BK238.out 0; have hfz27_1 := blk_frozen BK238.out 1) | (go_at_call 43; (with_reducible refine (ratio_both.calls k a0_0 a0_1 a1_0 a1_1 t239 _ A3.out).mono ?_); rintro e w28 ⟨rfl, hb⟩; replace BK237 := tb_ BK237 hb; replace BK238 := tb_ BK238 hb; replace HB := ts_ HB hb; (try clear hb); (try clear hb2); (try clear hk); (try clear hi); have hcz29_0 : w28.cell? ⟨gb237, 0, none⟩ = some (.int .i64 a0_0) := (blk_cell BK237.out 0).trans rfl; have hcz29_1 : w28.cell? ⟨gb237, 1, none⟩ = some (.int .i64 a0_1) := (blk_cell BK237.out 1).trans rfl; have hfz29_0 := blk_frozen BK237.out 0; have hfz29_1 := blk_frozen BK237.out 1; have hcz30_0 : w28.cell? ⟨gb238, 0, none⟩ = some (.int .i64 a1_0) := (blk_cell BK238.out 0).trans rfl; have hcz30_1 : w28.cell? ⟨gb238, 1, none⟩ = some (.int .i64 a1_1) := (blk_cell BK238.out 1).trans rfl; have hfz30_0 := blk_frozen BK238.out 0; have hfz30_1 := blk_frozen BK238.out 1)); try go_wp2_with (first | ((with_reducible refine gate_dst (N := 2) rfl ?_); refine bx_ (N := 2) (cs := #[.int .i64 a0_0, .int .i64 a0_1]) (t := 41) ?_; intro gb237 hg w23 hbox hb; have BK237 := Aside0.mk (hbox); have GW237 := sz_ HB hg; have GE237 := sz_ HB hg; replace HB := ts_ HB hb; clear hb hbox hg) | ((with_reducible refine gate_dst (N := 3) rfl ?_); refine bx_ (N := 3) (cs := #[.int .i64 a1_0, .int .i64 a1_1]) (t := 41) ?_; intro gb238 hg w24 hbox hb; have BK238 := Aside0.mk (hbox); have GW238 := sz_ HB hg; have GE238 := sz_ HB hg; have NB237_238 := nl_ BK237 hg; have NB238_237 := nr_ BK237 hg; replace BK237 := tb_ BK237 hb; replace HB := ts_ HB hb; clear hb hbox hg; have hnb25 := NB237_238.out; have hnc25 := NB238_237.out; have hcz26_0 : w24.cell? ⟨gb237, 0, none⟩ = some (.int .i64 a0_0) := (blk_cell BK237.out 0).trans rfl; have hcz26_1 : w24.cell? ⟨gb237, 1, none⟩ = some (.int .i64 a0_1) := (blk_cell BK237.out 1).trans rfl; have hfz26_0 := blk_frozen BK237.out 0; have hfz26_1 := blk_frozen BK237.out 1; have hcz27_0 : w24.cell? ⟨gb238, 0, none⟩ = some (.int .i64 a1_0) := (blk_cell BK238.out 0).trans rfl; have hcz27_1 : w24.cell? ⟨gb238, 1, none⟩ = some (.int .i64 a1_1) := (blk_cell BK238.out 1).trans rfl; have hfz27_0 := blk_frozen BK238.out 0; have hfz27_1 := blk_frozen BK238.out 1) | (go_at_call 43; (with_reducible refine (ratio_both.calls k a0_0 a0_1 a1_0 a1_1 t239 _ A3.out).mono ?_); rintro e w28 ⟨rfl, hb⟩; replace BK237 := tb_ BK237 hb; replace BK238 := tb_ BK238 hb; replace HB := ts_ HB hb; (try clear hb); (try clear hb2); (try clear hk); (try clear hi); have hcz29_0 : w28.cell? ⟨gb237, 0, none⟩ = some (.int .i64 a0_0) := (blk_cell BK237.out 0).trans rfl; have hcz29_1 : w28.cell? ⟨gb237, 1, none⟩ = some (.int .i64 a0_1) := (blk_cell BK237.out 1).trans rfl; have hfz29_0 := blk_frozen BK237.out 0; have hfz29_1 := blk_frozen BK237.out 1; have hcz30_0 : w28.cell? ⟨gb238, 0, none⟩ = some (.int .i64 a1_0) := (blk_cell BK238.out 0).trans rfl; have hcz30_1 : w28.cell? ⟨gb238, 1, none⟩ = some (.int .i64 a1_1) := (blk_cell BK238.out 1).trans rfl; have hfz30_0 := blk_frozen BK238.out 0; have hfz30_1 := blk_frozen BK238.out 1)))
    go_ret
    exact ⟨by first | rfl | (simp [errW_none, errW_some] <;> rfl) | (simp [*, errW_none, errW_some] <;> rfl), be_ HB⟩
 ·
  rw [if_neg c4] at H
  have c4b0 : (t239 == 0) = false := beq_eq_false_iff_ne.mpr c4
  have c4b1 : (t239 != 0) = true := bne_iff_ne.mpr c4
  obtain rfl := Option.some.inj H
  go_enter Try.func24, Try.ntmps24
  go_wp2_with (first | ((with_reducible refine gate_dst (N := 2) rfl ?_); refine bx_ (N := 2) (cs := #[.int .i64 a0_0, .int .i64 a0_1]) (t := 41) ?_; intro gb237 hg w31 hbox hb; have BK237 := Aside0.mk (hbox); have GW237 := sz_ HB hg; have GE237 := sz_ HB hg; replace HB := ts_ HB hb; clear hb hbox hg) | ((with_reducible refine gate_dst (N := 3) rfl ?_); refine bx_ (N := 3) (cs := #[.int .i64 a1_0, .int .i64 a1_1]) (t := 41) ?_; intro gb238 hg w32 hbox hb; have BK238 := Aside0.mk (hbox); have GW238 := sz_ HB hg; have GE238 := sz_ HB hg; have NB237_238 := nl_ BK237 hg; have NB238_237 := nr_ BK237 hg; replace BK237 := tb_ BK237 hb; replace HB := ts_ HB hb; clear hb hbox hg; have hnb33 := NB237_238.out; have hnc33 := NB238_237.out; have hcz34_0 : w32.cell? ⟨gb237, 0, none⟩ = some (.int .i64 a0_0) := (blk_cell BK237.out 0).trans rfl; have hcz34_1 : w32.cell? ⟨gb237, 1, none⟩ = some (.int .i64 a0_1) := (blk_cell BK237.out 1).trans rfl; have hfz34_0 := blk_frozen BK237.out 0; have hfz34_1 := blk_frozen BK237.out 1; have hcz35_0 : w32.cell? ⟨gb238, 0, none⟩ = some (.int .i64 a1_0) := (blk_cell BK238.out 0).trans rfl; have hcz35_1 : w32.cell? ⟨gb238, 1, none⟩ = some (.int .i64 a1_1) := (blk_cell BK238.out 1).trans rfl; have hfz35_0 := blk_frozen BK238.out 0; have hfz35_1 := blk_frozen BK238.out 1) | (go_at_call 43; (with_reducible refine (ratio_both.calls k a0_0 a0_1 a1_0 a1_1 t239 _ A3.out).mono ?_); rintro e w36 ⟨rfl, hb⟩; replace BK237 := tb_ BK237 hb; replace BK238 := tb_ BK238 hb; replace HB := ts_ HB hb; (try clear hb); (try clear hb2); (try clear hk); (try clear hi)))
  repeat (go_quiet (first | ((with_reducible refine gate_dst (N := 2) rfl ?_); refine bx_ (N := 2) (cs := #[.int .i64 a0_0, .int .i64 a0_1]) (t := 41) ?_; intro gb237 hg w31 hbox hb; have BK237 := Aside0.mk (hbox); have GW237 := sz_ HB hg; have GE237 := sz_ HB hg; replace HB := ts_ HB hb; clear hb hbox hg) | ((with_reducible refine gate_dst (N := 3) rfl ?_); refine bx_ (N := 3) (cs := #[.int .i64 a1_0, .int .i64 a1_1]) (t := 41) ?_; intro gb238 hg w32 hbox hb; have BK238 := Aside0.mk (hbox); have GW238 := sz_ HB hg; have GE238 := sz_ HB hg; have NB237_238 := nl_ BK237 hg; have NB238_237 := nr_ BK237 hg; replace BK237 := tb_ BK237 hb; replace HB := ts_ HB hb; clear hb hbox hg; have hnb33 := NB237_238.out; have hnc33 := NB238_237.out; have hcz34_0 : w32.cell? ⟨gb237, 0, none⟩ = some (.int .i64 a0_0) := (blk_cell BK237.out 0).trans rfl; have hcz34_1 : w32.cell? ⟨gb237, 1, none⟩ = some (.int .i64 a0_1) := (blk_cell BK237.out 1).trans rfl; have hfz34_0 := blk_frozen BK237.out 0; have hfz34_1 := blk_frozen BK237.out 1; have hcz35_0 : w32.cell? ⟨gb238, 0, none⟩ = some (.int .i64 a1_0) := (blk_cell BK238.out 0).trans rfl; have hcz35_1 : w32.cell? ⟨gb238, 1, none⟩ = some (.int .i64 a1_1) := (blk_cell BK238.out 1).trans rfl; have hfz35_0 := blk_frozen BK238.out 0; have hfz35_1 := blk_frozen BK238.out 1) | (go_at_call 43; (with_reducible refine (ratio_both.calls k a0_0 a0_1 a1_0 a1_1 t239 _ A3.out).mono ?_); rintro e w36 ⟨rfl, hb⟩; replace BK237 := tb_ BK237 hb; replace BK238 := tb_ BK238 hb; replace HB := ts_ HB hb; (try clear hb); (try clear hb2); (try clear hk); (try clear hi))); try go_wp2_with (first | ((with_reducible refine gate_dst (N := 2) rfl ?_); refine bx_ (N := 2) (cs := #[.int .i64 a0_0, .int .i64 a0_1]) (t := 41) ?_; intro gb237 hg w31 hbox hb; have BK237 := Aside0.mk (hbox); have GW237 := sz_ HB hg; have GE237 := sz_ HB hg; replace HB := ts_ HB hb; clear hb hbox hg) | ((with_reducible refine gate_dst (N := 3) rfl ?_); refine bx_ (N := 3) (cs := #[.int .i64 a1_0, .int .i64 a1_1]) (t := 41) ?_; intro gb238 hg w32 hbox hb; have BK238 := Aside0.mk (hbox); have GW238 := sz_ HB hg; have GE238 := sz_ HB hg; have NB237_238 := nl_ BK237 hg; have NB238_237 := nr_ BK237 hg; replace BK237 := tb_ BK237 hb; replace HB := ts_ HB hb; clear hb hbox hg; have hnb33 := NB237_238.out; have hnc33 := NB238_237.out; have hcz34_0 : w32.cell? ⟨gb237, 0, none⟩ = some (.int .i64 a0_0) := (blk_cell BK237.out 0).trans rfl; have hcz34_1 : w32.cell? ⟨gb237, 1, none⟩ = some (.int .i64 a0_1) := (blk_cell BK237.out 1).trans rfl; have hfz34_0 := blk_frozen BK237.out 0; have hfz34_1 := blk_frozen BK237.out 1; have hcz35_0 : w32.cell? ⟨gb238, 0, none⟩ = some (.int .i64 a1_0) := (blk_cell BK238.out 0).trans rfl; have hcz35_1 : w32.cell? ⟨gb238, 1, none⟩ = some (.int .i64 a1_1) := (blk_cell BK238.out 1).trans rfl; have hfz35_0 := blk_frozen BK238.out 0; have hfz35_1 := blk_frozen BK238.out 1) | (go_at_call 43; (with_reducible refine (ratio_both.calls k a0_0 a0_1 a1_0 a1_1 t239 _ A3.out).mono ?_); rintro e w36 ⟨rfl, hb⟩; replace BK237 := tb_ BK237 hb; replace BK238 := tb_ BK238 hb; replace HB := ts_ HB hb; (try clear hb); (try clear hb2); (try clear hk); (try clear hi))))
  go_ret
  exact ⟨by first | rfl | (simp [errW_none, errW_some] <;> rfl) | (simp [*, errW_none, errW_some] <;> rfl), be_ HB⟩

/-! ### payrolllaw2_RoundingMonotone: function 7 -/
def payrolllaw2_RoundingMonotone.j0 : Nat → Int → Int → Int → Bool → Int → Int → Int → Int → Int → Int → Int → Int → Int → Int → Option (Bool)
 | 0, _, _, _, _, _, _, _, _, _, _, _, _, _, _ => none
 | k + 1, x9, x11, x13, x45, x253000, x253001, x254000, x254001, x255000, x255001, x260000, x260001, x264000, x264001 => if x45 = true then (if x11 = 4 then ((payrolllaw2_sane.f k).bind fun t264 => (some t264)) else (if x13 = 4 then ((payrolllaw2_sane.f k).bind fun t265 => (some t265)) else (some false))) else ((rounding_Round.f k x260000 x260001 x255000 x255001 x9).bind fun bt266 => ((ratio_Compare.f k x253000 x253001 x254000 x254001).bind fun t270 => (if t270 > 0 then (if bt266.2.2 = 0 then (if (bt266.1 == x260000 && (bt266.2.1 == x260001)) = true then ((payrolllaw2_sane.f k).bind fun t271 => (some t271)) else (some false)) else (some false)) else ((ratio_Compare.f k x260000 x260001 x264000 x264001).bind fun t272 => (if t272 ≤ 0 then (if bt266.2.2 = 0 then (if (bt266.1 == x260000 && (bt266.2.1 == x260001)) = true then ((payrolllaw2_sane.f k).bind fun t273 => (some t273)) else (some false)) else (some false)) else (some false))))))
def payrolllaw2_RoundingMonotone.f (k : Nat) (l0 : List Int) (a1 : Int) : Option (Bool) := (payrollgen_New.f l0).bind fun bt240 => ((payrollgen_Tape_Ratio.f k bt240.1 bt240.2).bind fun bt243 => ((payrollgen_Tape_Ratio.f k bt240.1 bt243.2.2).bind fun bt246 => ((payrollgen_Tape_Step.f k bt240.1 bt246.2.2).bind fun bt249 => ((payrollgen_Mod.f a1 7).bind fun t255 => ((rounding_Round.f k bt243.1 bt243.2.1 bt249.1 bt249.2.1 t255).bind fun bt256 => ((rounding_Round.f k bt246.1 bt246.2.1 bt249.1 bt249.2.1 t255).bind fun bt260 => (if bt256.2.2 = 0 then (payrolllaw2_RoundingMonotone.j0 k t255 bt256.2.2 bt260.2.2 (bt260.2.2 != 0) bt243.1 bt243.2.1 bt246.1 bt246.2.1 bt249.1 bt249.2.1 bt256.1 bt256.2.1 bt260.1 bt260.2.1) else (payrolllaw2_RoundingMonotone.j0 k t255 bt256.2.2 bt260.2.2 true bt243.1 bt243.2.1 bt246.1 bt246.2.1 bt249.1 bt249.2.1 bt256.1 bt256.2.1 bt260.1 bt260.2.1))))))))
theorem payrolllaw2_RoundingMonotone.mono_l : ∀ k, (∀ y0 y1 y2 y3 y4 y5 y6 y7 y8 y9 y10 y11 y12 y13, LeO (payrolllaw2_RoundingMonotone.j0 k y0 y1 y2 y3 y4 y5 y6 y7 y8 y9 y10 y11 y12 y13) (payrolllaw2_RoundingMonotone.j0 (k + 1) y0 y1 y2 y3 y4 y5 y6 y7 y8 y9 y10 y11 y12 y13))
 | 0 => fun _ _ _ _ _ _ _ _ _ _ _ _ _ _ r h => by simp [payrolllaw2_RoundingMonotone.j0] at h
 | k + 1 => by
  have ih0 := payrolllaw2_RoundingMonotone.mono_l k
  ·
   intro y0 y1 y2 y3 y4 y5 y6 y7 y8 y9 y10 y11 y12 y13
   unfold payrolllaw2_RoundingMonotone.j0
   repeat' first
   | (with_reducible exact ih0 _ _ _ _ _ _ _ _ _ _ _ _ _ _)
   | (with_reducible exact payrollgen_Tape_Ratio.mono _ _ _)
   | (with_reducible exact payrollgen_Tape_Step.mono _ _ _)
   | (with_reducible exact payrolllaw2_sane.mono _)
   | (with_reducible exact ratio_Compare.mono _ _ _ _ _)
   | (with_reducible exact rounding_Round.mono _ _ _ _ _ _)
   | (with_reducible exact LeO.refl _)
   | (with_reducible exact LeO.none _)
   | (with_reducible refine LeO.ite ?_ ?_)
   | (with_reducible refine LeO.bind ?_ (fun _ => ?_))
   | exact ih0 _ _ _ _ _ _ _ _ _ _ _ _ _ _
   | exact payrollgen_Tape_Ratio.mono _ _ _
   | exact payrollgen_Tape_Step.mono _ _ _
   | exact payrolllaw2_sane.mono _
   | exact ratio_Compare.mono _ _ _ _ _
   | exact rounding_Round.mono _ _ _ _ _ _
   | exact LeO.none _
   | refine LeO.ite ?_ ?_
   | refine LeO.bind ?_ (fun _ => ?_)
theorem payrolllaw2_RoundingMonotone.mono : ∀ a0 a1 k, LeO (payrolllaw2_RoundingMonotone.f k a0 a1) (payrolllaw2_RoundingMonotone.f (k + 1) a0 a1) := by
 intro a0 a1 k
 have ih0 := payrolllaw2_RoundingMonotone.mono_l k
 unfold payrolllaw2_RoundingMonotone.f
 repeat' first
  | (with_reducible exact ih0 _ _ _ _ _ _ _ _ _ _ _ _ _ _)
  | (with_reducible exact payrollgen_Tape_Ratio.mono _ _ _)
  | (with_reducible exact payrollgen_Tape_Step.mono _ _ _)
  | (with_reducible exact payrolllaw2_sane.mono _)
  | (with_reducible exact ratio_Compare.mono _ _ _ _ _)
  | (with_reducible exact rounding_Round.mono _ _ _ _ _ _)
  | (with_reducible exact LeO.refl _)
  | (with_reducible exact LeO.none _)
  | (with_reducible refine LeO.ite ?_ ?_)
  | (with_reducible refine LeO.bind ?_ (fun _ => ?_))
  | exact ih0 _ _ _ _ _ _ _ _ _ _ _ _ _ _
  | exact payrollgen_Tape_Ratio.mono _ _ _
  | exact payrollgen_Tape_Step.mono _ _ _
  | exact payrolllaw2_sane.mono _
  | exact ratio_Compare.mono _ _ _ _ _
  | exact rounding_Round.mono _ _ _ _ _ _
  | exact LeO.none _
  | refine LeO.ite ?_ ?_
  | refine LeO.bind ?_ (fun _ => ?_)
set_option maxHeartbeats 8000000 in
set_option maxRecDepth 100000 in
theorem payrolllaw2_RoundingMonotone.calls (k : Nat) (A0 : Option Addr) (c0 : Nat) (l0 : List Int) (a1 : Int) (r : Bool) (w : World) (hr0 : Kd.C (Kd.int .i64) w A0 l0.length l0) (hc0 : l0.length ≤ c0) (h : payrolllaw2_RoundingMonotone.f k l0 a1 = some r) :
 Calls Try.prog 7 #[.slice A0 l0.length c0, .int .i64 a1] w fun e w' => e = .returned (.bool r) ∧ Below w.heap.size w w' := by
 have hu41 := Try.underlying41
 have HR0 := Aside0.mk hr0
 have HC0 := Aside0.mk hc0
 clear hr0 hc0
 have HB := Aside0.mk (Below.refl w.heap.size w)
 have H : ((payrollgen_New.f l0).bind fun bt240 => ((payrollgen_Tape_Ratio.f k bt240.1 bt240.2).bind fun bt243 => ((payrollgen_Tape_Ratio.f k bt240.1 bt243.2.2).bind fun bt246 => ((payrollgen_Tape_Step.f k bt240.1 bt246.2.2).bind fun bt249 => ((payrollgen_Mod.f a1 7).bind fun t255 => ((rounding_Round.f k bt243.1 bt243.2.1 bt249.1 bt249.2.1 t255).bind fun bt256 => ((rounding_Round.f k bt246.1 bt246.2.1 bt249.1 bt249.2.1 t255).bind fun bt260 => (if bt256.2.2 = 0 then (payrolllaw2_RoundingMonotone.j0 k t255 bt256.2.2 bt260.2.2 (bt260.2.2 != 0) bt243.1 bt243.2.1 bt246.1 bt246.2.1 bt249.1 bt249.2.1 bt256.1 bt256.2.1 bt260.1 bt260.2.1) else (payrolllaw2_RoundingMonotone.j0 k t255 bt256.2.2 bt260.2.2 true bt243.1 bt243.2.1 bt246.1 bt246.2.1 bt249.1 bt249.2.1 bt256.1 bt256.2.1 bt260.1 bt260.2.1))))))))) = some r := h
 clear h
 replace H := Option.bind_eq_some_iff.mp H
 obtain ⟨⟨t240, t241⟩, A30, H⟩ := H
 replace H : ((payrollgen_Tape_Ratio.f k t240 t241).bind fun bt243 => ((payrollgen_Tape_Ratio.f k t240 bt243.2.2).bind fun bt246 => ((payrollgen_Tape_Step.f k t240 bt246.2.2).bind fun bt249 => ((payrollgen_Mod.f a1 7).bind fun t255 => ((rounding_Round.f k bt243.1 bt243.2.1 bt249.1 bt249.2.1 t255).bind fun bt256 => ((rounding_Round.f k bt246.1 bt246.2.1 bt249.1 bt249.2.1 t255).bind fun bt260 => (if bt256.2.2 = 0 then (payrolllaw2_RoundingMonotone.j0 k t255 bt256.2.2 bt260.2.2 (bt260.2.2 != 0) bt243.1 bt243.2.1 bt246.1 bt246.2.1 bt249.1 bt249.2.1 bt256.1 bt256.2.1 bt260.1 bt260.2.1) else (payrolllaw2_RoundingMonotone.j0 k t255 bt256.2.2 bt260.2.2 true bt243.1 bt243.2.1 bt246.1 bt246.2.1 bt249.1 bt249.2.1 bt256.1 bt256.2.1 bt260.1 bt260.2.1)))))))) = some r := H
 have A3 := Aside0.mk A30
 clear A30
 replace H := Option.bind_eq_some_iff.mp H
 obtain ⟨⟨t243, t244, t245⟩, A40, H⟩ := H
 replace H : ((payrollgen_Tape_Ratio.f k t240 t245).bind fun bt246 => ((payrollgen_Tape_Step.f k t240 bt246.2.2).bind fun bt249 => ((payrollgen_Mod.f a1 7).bind fun t255 => ((rounding_Round.f k t243 t244 bt249.1 bt249.2.1 t255).bind fun bt256 => ((rounding_Round.f k bt246.1 bt246.2.1 bt249.1 bt249.2.1 t255).bind fun bt260 => (if bt256.2.2 = 0 then (payrolllaw2_RoundingMonotone.j0 k t255 bt256.2.2 bt260.2.2 (bt260.2.2 != 0) t243 t244 bt246.1 bt246.2.1 bt249.1 bt249.2.1 bt256.1 bt256.2.1 bt260.1 bt260.2.1) else (payrolllaw2_RoundingMonotone.j0 k t255 bt256.2.2 bt260.2.2 true t243 t244 bt246.1 bt246.2.1 bt249.1 bt249.2.1 bt256.1 bt256.2.1 bt260.1 bt260.2.1))))))) = some r := H
 have A4 := Aside0.mk A40
 clear A40
 replace H := Option.bind_eq_some_iff.mp H
 obtain ⟨⟨t246, t247, t248⟩, A50, H⟩ := H
 replace H : ((payrollgen_Tape_Step.f k t240 t248).bind fun bt249 => ((payrollgen_Mod.f a1 7).bind fun t255 => ((rounding_Round.f k t243 t244 bt249.1 bt249.2.1 t255).bind fun bt256 => ((rounding_Round.f k t246 t247 bt249.1 bt249.2.1 t255).bind fun bt260 => (if bt256.2.2 = 0 then (payrolllaw2_RoundingMonotone.j0 k t255 bt256.2.2 bt260.2.2 (bt260.2.2 != 0) t243 t244 t246 t247 bt249.1 bt249.2.1 bt256.1 bt256.2.1 bt260.1 bt260.2.1) else (payrolllaw2_RoundingMonotone.j0 k t255 bt256.2.2 bt260.2.2 true t243 t244 t246 t247 bt249.1 bt249.2.1 bt256.1 bt256.2.1 bt260.1 bt260.2.1)))))) = some r := H
 have A5 := Aside0.mk A50
 clear A50
 replace H := Option.bind_eq_some_iff.mp H
 obtain ⟨⟨t249, t250, t251⟩, A60, H⟩ := H
 replace H : ((payrollgen_Mod.f a1 7).bind fun t255 => ((rounding_Round.f k t243 t244 t249 t250 t255).bind fun bt256 => ((rounding_Round.f k t246 t247 t249 t250 t255).bind fun bt260 => (if bt256.2.2 = 0 then (payrolllaw2_RoundingMonotone.j0 k t255 bt256.2.2 bt260.2.2 (bt260.2.2 != 0) t243 t244 t246 t247 t249 t250 bt256.1 bt256.2.1 bt260.1 bt260.2.1) else (payrolllaw2_RoundingMonotone.j0 k t255 bt256.2.2 bt260.2.2 true t243 t244 t246 t247 t249 t250 bt256.1 bt256.2.1 bt260.1 bt260.2.1))))) = some r := H
 have A6 := Aside0.mk A60
 clear A60
 replace H := Option.bind_eq_some_iff.mp H
 obtain ⟨t255, A70, H⟩ := H
 replace H : ((rounding_Round.f k t243 t244 t249 t250 t255).bind fun bt256 => ((rounding_Round.f k t246 t247 t249 t250 t255).bind fun bt260 => (if bt256.2.2 = 0 then (payrolllaw2_RoundingMonotone.j0 k t255 bt256.2.2 bt260.2.2 (bt260.2.2 != 0) t243 t244 t246 t247 t249 t250 bt256.1 bt256.2.1 bt260.1 bt260.2.1) else (payrolllaw2_RoundingMonotone.j0 k t255 bt256.2.2 bt260.2.2 true t243 t244 t246 t247 t249 t250 bt256.1 bt256.2.1 bt260.1 bt260.2.1)))) = some r := H
 have A7 := Aside0.mk A70
 clear A70
 replace H := Option.bind_eq_some_iff.mp H
 obtain ⟨⟨t256, t257, t258⟩, A80, H⟩ := H
 replace H : ((rounding_Round.f k t246 t247 t249 t250 t255).bind fun bt260 => (if t258 = 0 then (payrolllaw2_RoundingMonotone.j0 k t255 t258 bt260.2.2 (bt260.2.2 != 0) t243 t244 t246 t247 t249 t250 t256 t257 bt260.1 bt260.2.1) else (payrolllaw2_RoundingMonotone.j0 k t255 t258 bt260.2.2 true t243 t244 t246 t247 t249 t250 t256 t257 bt260.1 bt260.2.1))) = some r := H
 have A8 := Aside0.mk A80
 clear A80
 replace H := Option.bind_eq_some_iff.mp H
 obtain ⟨⟨t260, t261, t262⟩, A90, H⟩ := H
 replace H : (if t258 = 0 then (payrolllaw2_RoundingMonotone.j0 k t255 t258 t262 (t262 != 0) t243 t244 t246 t247 t249 t250 t256 t257 t260 t261) else (payrolllaw2_RoundingMonotone.j0 k t255 t258 t262 true t243 t244 t246 t247 t249 t250 t256 t257 t260 t261)) = some r := H
 have A9 := Aside0.mk A90
 clear A90
 have HC10 := Aside0.mk H
 clear H
 go_enter Try.func7, Try.ntmps7
 go_upto_region 6 with (first | ((with_reducible refine gate_callee (f := 11) rfl ?_); refine gq_ (some 17) rfl rfl Try.func11 #[.slice A0 l0.length c0] rfl ?_; (with_reducible refine (payrollgen_New.calls _ _ l0 t240 t241 w _ ?side1 ?side2 ?side3 A3.out).mono ?_); (case side1 => exact be_ HB); (case side2 => exact HR0.out); (case side3 => exact HC0.out); rintro e w11 ⟨g242, rfl, hi, hb, hb2⟩; refine ⟨_, rfl, ?_⟩; have HI242 := Aside0.mk (hi); replace HB := Aside0.mk (hb); (try clear hb); (try clear hb2); (try clear hk); (try clear hi)) | ((with_reducible refine gate_callee (f := 21) rfl ?_); refine gq_ (some 19) rfl rfl Try.func21 #[.pointer (some ⟨g242, 0, none⟩)] rfl ?_; (with_reducible refine (payrollgen_Tape_Ratio.calls k g242 t240 t241 t243 t244 t245 w _ ?side1 ?side2 A4.out).mono ?_); (case side1 => exact IsS53.aq_ HI242); (case side2 => exact IsS53.bs_ HI242 HB); rintro e w12 ⟨rfl, hi, hb, hk⟩; refine ⟨_, rfl, ?_⟩; replace HB := Aside0.mk (hb); replace HI242 := Aside0.mk (hi); (try clear hb); (try clear hb2); (try clear hk); (try clear hi)) | ((with_reducible refine gate_callee (f := 21) rfl ?_); refine gq_ (some 21) rfl rfl Try.func21 #[.pointer (some ⟨g242, 0, none⟩)] rfl ?_; (with_reducible refine (payrollgen_Tape_Ratio.calls k g242 t240 t245 t246 t247 t248 w _ ?side1 ?side2 A5.out).mono ?_); (case side1 => exact IsS53.aq_ HI242); (case side2 => exact IsS53.bs_ HI242 HB); rintro e w13 ⟨rfl, hi, hb, hk⟩; refine ⟨_, rfl, ?_⟩; replace HB := Aside0.mk (hb); replace HI242 := Aside0.mk (hi); (try clear hb); (try clear hb2); (try clear hk); (try clear hi)) | ((with_reducible refine gate_callee (f := 22) rfl ?_); refine gq_ (some 23) rfl rfl Try.func22 #[.pointer (some ⟨g242, 0, none⟩)] rfl ?_; (with_reducible refine (payrollgen_Tape_Step.calls k g242 t240 t248 t249 t250 t251 w _ ?side1 ?side2 A6.out).mono ?_); (case side1 => exact IsS53.aq_ HI242); (case side2 => exact IsS53.bs_ HI242 HB); rintro e w14 ⟨rfl, hi, hb, hk⟩; refine ⟨_, rfl, ?_⟩; replace HB := Aside0.mk (hb); replace HI242 := Aside0.mk (hi); (try clear hb); (try clear hb2); (try clear hk); (try clear hi)) | ((with_reducible refine gate_dst (N := 6) rfl ?_); refine bx_ (N := 6) (cs := #[.int .i64 0, .int .i64 0]) (t := 41) ?_; intro gb252 hg w15 hbox hb; have BK252 := Aside0.mk (hbox); have GW252 := IsS53.sz_ HI242 HB hg; have GE252 := IsS53.sz_ HI242 HB hg; have NB242_252 := IsS53.nl_ HI242 hg; have NB252_242 := IsS53.nr_ HI242 hg; replace HB := IsS53.ts_ HI242 HB hb; replace HI242 := IsS53.tb_ HI242 hb; clear hb hbox hg) | ((with_reducible refine gate_dst (N := 7) rfl ?_); refine bx_ (N := 7) (cs := #[.int .i64 0, .int .i64 0]) (t := 41) ?_; intro gb253 hg w16 hbox hb; have BK253 := Aside0.mk (hbox); have GW253 := IsS53.sz_ HI242 HB hg; have GE253 := IsS53.sz_ HI242 HB hg; have NB252_253 := nl_ BK252 hg; have NB253_252 := nr_ BK252 hg; have NB242_253 := IsS53.nl_ HI242 hg; have NB253_242 := IsS53.nr_ HI242 hg; replace BK252 := tb_ BK252 hb; replace HB := IsS53.ts_ HI242 HB hb; replace HI242 := IsS53.tb_ HI242 hb; clear hb hbox hg) | ((with_reducible refine gate_dst (N := 8) rfl ?_); refine bx_ (N := 8) (cs := #[.int .i64 0, .int .i64 0]) (t := 41) ?_; intro gb254 hg w17 hbox hb; have BK254 := Aside0.mk (hbox); have GW254 := IsS53.sz_ HI242 HB hg; have GE254 := IsS53.sz_ HI242 HB hg; have NB252_254 := nl_ BK252 hg; have NB254_252 := nr_ BK252 hg; have NB253_254 := nl_ BK253 hg; have NB254_253 := nr_ BK253 hg; have NB242_254 := IsS53.nl_ HI242 hg; have NB254_242 := IsS53.nr_ HI242 hg; replace BK252 := tb_ BK252 hb; replace BK253 := tb_ BK253 hb; replace HB := IsS53.ts_ HI242 HB hb; replace HI242 := IsS53.tb_ HI242 hb; clear hb hbox hg; have hnb18 := NB252_253.out; have hnc18 := NB253_252.out; have hnb19 := NB252_254.out; have hnc19 := NB254_252.out; have hnb20 := NB252_242.out; have hnc20 := NB242_252.out; have hcz21_0 : w17.cell? ⟨gb252, 0, none⟩ = some (.int .i64 0) := (blk_cell BK252.out 0).trans rfl; have hcz21_1 : w17.cell? ⟨gb252, 1, none⟩ = some (.int .i64 0) := (blk_cell BK252.out 1).trans rfl; have hfz21_0 := blk_frozen BK252.out 0; have hfz21_1 := blk_frozen BK252.out 1; have hnb22 := NB253_254.out; have hnc22 := NB254_253.out; have hnb23 := NB253_242.out; have hnc23 := NB242_253.out; have hcz24_0 : w17.cell? ⟨gb253, 0, none⟩ = some (.int .i64 0) := (blk_cell BK253.out 0).trans rfl; have hcz24_1 : w17.cell? ⟨gb253, 1, none⟩ = some (.int .i64 0) := (blk_cell BK253.out 1).trans rfl; have hfz24_0 := blk_frozen BK253.out 0; have hfz24_1 := blk_frozen BK253.out 1; have hnb25 := NB254_242.out; have hnc25 := NB242_254.out; have hcz26_0 : w17.cell? ⟨gb254, 0, none⟩ = some (.int .i64 0) := (blk_cell BK254.out 0).trans rfl; have hcz26_1 : w17.cell? ⟨gb254, 1, none⟩ = some (.int .i64 0) := (blk_cell BK254.out 1).trans rfl; have hfz26_0 := blk_frozen BK254.out 0; have hfz26_1 := blk_frozen BK254.out 1) | ((with_reducible refine gate_callee (f := 12) rfl ?_); refine gq_ (some 25) rfl rfl Try.func12 #[.int .i64 a1, .int .i64 7] rfl ?_; (with_reducible refine (payrollgen_Mod.calls a1 7 t255 _ A7.out).mono ?_); rintro e w' ⟨rfl, ⟨nd, rfl⟩⟩; refine ⟨_, rfl, ?_⟩) | ((with_reducible refine gate_callee (f := 23) rfl ?_); refine gq_ (some 30) rfl rfl Try.func23 #[.agg #[.int .i64 t243, .int .i64 t244], .agg #[.int .i64 t249, .int .i64 t250], .int .i64 t255] rfl ?_; (with_reducible refine (rounding_Round.calls k t243 t244 t249 t250 t255 t256 t257 t258 _ A8.out).mono ?_); rintro e w27 ⟨rfl, hb⟩; refine ⟨_, rfl, ?_⟩; replace BK252 := tb_ (o' := .cells #[.int .i64 t243, .int .i64 t244] 41 (0, 0)) BK252 hb; replace BK253 := tb_ (o' := .cells #[.int .i64 t246, .int .i64 t247] 41 (0, 0)) BK253 hb; replace BK254 := tb_ (o' := .cells #[.int .i64 t249, .int .i64 t250] 41 (0, 0)) BK254 hb; replace HB := IsS53.ts_ HI242 HB hb; replace HI242 := IsS53.tb_ HI242 hb; (try clear hb); (try clear hb2); (try clear hk); (try clear hi)) | ((with_reducible refine gate_dst (N := 10) rfl ?_); refine bx_ (N := 10) (cs := #[.int .i64 0, .int .i64 0]) (t := 41) ?_; intro gb259 hg w28 hbox hb; have BK259 := Aside0.mk (hbox); have GW259 := IsS53.sz_ HI242 HB hg; have GE259 := IsS53.sz_ HI242 HB hg; have NB252_259 := nl_ BK252 hg; have NB259_252 := nr_ BK252 hg; have NB253_259 := nl_ BK253 hg; have NB259_253 := nr_ BK253 hg; have NB254_259 := nl_ BK254 hg; have NB259_254 := nr_ BK254 hg; have NB242_259 := IsS53.nl_ HI242 hg; have NB259_242 := IsS53.nr_ HI242 hg; replace BK252 := tb_ BK252 hb; replace BK253 := tb_ BK253 hb; replace BK254 := tb_ BK254 hb; replace HB := IsS53.ts_ HI242 HB hb; replace HI242 := IsS53.tb_ HI242 hb; clear hb hbox hg; have hnb29 := NB259_252.out; have hnc29 := NB252_259.out; have hnb30 := NB259_253.out; have hnc30 := NB253_259.out; have hnb31 := NB259_254.out; have hnc31 := NB254_259.out; have hnb32 := NB259_242.out; have hnc32 := NB242_259.out; have hcz33_0 : w28.cell? ⟨gb259, 0, none⟩ = some (.int .i64 0) := (blk_cell BK259.out 0).trans rfl; have hcz33_1 : w28.cell? ⟨gb259, 1, none⟩ = some (.int .i64 0) := (blk_cell BK259.out 1).trans rfl; have hfz33_0 := blk_frozen BK259.out 0; have hfz33_1 := blk_frozen BK259.out 1; have hcz34_0 : w28.cell? ⟨gb253, 0, none⟩ = some (.int .i64 t246) := (blk_cell BK253.out 0).trans rfl; have hcz34_1 : w28.cell? ⟨gb253, 1, none⟩ = some (.int .i64 t247) := (blk_cell BK253.out 1).trans rfl; have hfz34_0 := blk_frozen BK253.out 0; have hfz34_1 := blk_frozen BK253.out 1; have hcz35_0 : w28.cell? ⟨gb254, 0, none⟩ = some (.int .i64 t249) := (blk_cell BK254.out 0).trans rfl; have hcz35_1 : w28.cell? ⟨gb254, 1, none⟩ = some (.int .i64 t250) := (blk_cell BK254.out 1).trans rfl; have hfz35_0 := blk_frozen BK254.out 0; have hfz35_1 := blk_frozen BK254.out 1) | ((with_reducible refine gate_callee (f := 23) rfl ?_); refine gq_ (some 37) rfl rfl Try.func23 #[.agg #[.int .i64 t246, .int .i64 t247], .agg #[.int .i64 t249, .int .i64 t250], .int .i64 t255] rfl ?_; (with_reducible refine (rounding_Round.calls k t246 t247 t249 t250 t255 t260 t261 t262 _ A9.out).mono ?_); rintro e w36 ⟨rfl, hb⟩; refine ⟨_, rfl, ?_⟩; replace BK252 := tb_ BK252 hb; replace BK253 := tb_ BK253 hb; replace BK254 := tb_ BK254 hb; replace BK259 := tb_ (o' := .cells #[.int .i64 t256, .int .i64 t257] 41 (0, 0)) BK259 hb; replace HB := IsS53.ts_ HI242 HB hb; replace HI242 := IsS53.tb_ HI242 hb; (try clear hb); (try clear hb2); (try clear hk); (try clear hi)) | ((with_reducible refine gate_dst (N := 12) rfl ?_); refine bx_ (N := 12) (cs := #[.int .i64 0, .int .i64 0]) (t := 41) ?_; intro gb263 hg w37 hbox hb; have BK263 := Aside0.mk (hbox); have GW263 := IsS53.sz_ HI242 HB hg; have GE263 := IsS53.sz_ HI242 HB hg; have NB252_263 := nl_ BK252 hg; have NB263_252 := nr_ BK252 hg; have NB253_263 := nl_ BK253 hg; have NB263_253 := nr_ BK253 hg; have NB254_263 := nl_ BK254 hg; have NB263_254 := nr_ BK254 hg; have NB259_263 := nl_ BK259 hg; have NB263_259 := nr_ BK259 hg; have NB242_263 := IsS53.nl_ HI242 hg; have NB263_242 := IsS53.nr_ HI242 hg; replace BK252 := tb_ BK252 hb; replace BK253 := tb_ BK253 hb; replace BK254 := tb_ BK254 hb; replace BK259 := tb_ BK259 hb; replace HB := IsS53.ts_ HI242 HB hb; replace HI242 := IsS53.tb_ HI242 hb; clear hb hbox hg; have hnb38 := NB263_252.out; have hnc38 := NB252_263.out; have hnb39 := NB263_253.out; have hnc39 := NB253_263.out; have hnb40 := NB263_254.out; have hnc40 := NB254_263.out; have hnb41 := NB263_259.out; have hnc41 := NB259_263.out; have hnb42 := NB263_242.out; have hnc42 := NB242_263.out; have hcz43_0 : w37.cell? ⟨gb263, 0, none⟩ = some (.int .i64 0) := (blk_cell BK263.out 0).trans rfl; have hcz43_1 : w37.cell? ⟨gb263, 1, none⟩ = some (.int .i64 0) := (blk_cell BK263.out 1).trans rfl; have hfz43_0 := blk_frozen BK263.out 0; have hfz43_1 := blk_frozen BK263.out 1))
 (try simp only [Act.put, List.setIfInBounds_toArray, List.set_cons_zero, List.set_cons_succ])
 go_cut [45] (fun v45 wc => ∃ (kq : Nat) (x45_9 : Bool), v45 = .bool x45_9 ∧ Aside0 (payrolllaw2_RoundingMonotone.j0 kq t255 t258 t262 x45_9 t243 t244 t246 t247 t249 t250 t256 t257 t260 t261 = some r) ∧ Aside0 (kq ≤ k) ∧ Aside0 (wc.heap[gb252]? = some (.cells #[.int .i64 t243, .int .i64 t244] 41 (0, 0))) ∧ Aside0 (wc.heap[gb253]? = some (.cells #[.int .i64 t246, .int .i64 t247] 41 (0, 0))) ∧ Aside0 (wc.heap[gb254]? = some (.cells #[.int .i64 t249, .int .i64 t250] 41 (0, 0))) ∧ Aside0 (wc.heap[gb259]? = some (.cells #[.int .i64 t256, .int .i64 t257] 41 (0, 0))) ∧ Aside0 (wc.heap[gb263]? = some (.cells #[.int .i64 t260, .int .i64 t261] 41 (0, 0))) ∧ Aside0 (Below w.heap.size w wc))
 case first =>
  have H := HC10.out
  clear HC10
  by_cases c44 : t258 = 0
  ·
   rw [if_pos c44] at H
   have c44b0 : (t258 == 0) = true := beq_iff_eq.mpr c44
   have c44b1 : (t258 != 0) = false := bne_eq_false_iff_eq.mpr c44
   clear c44
   (first | rw [c44b0] | (simp only [i64_w, i32_w]; rw [c44b0]) | skip)
   have H' := Aside0.mk H
   clear H
   go_wp2
   go_meet
   case rel => exact ⟨_, ((t262 != 0)), (by first | rfl | (simp; done) | (simp [*]; done)), H', ⟨by first | omega | exact Nat.le_refl _⟩, ⟨by (with_reducible repeat (first | refine blk_drewN ?_ _ | refine blk_drew ?_ | refine blk_alloc ?_ _)); refine blk_far ?_ NB252_263.out _; (with_reducible repeat (first | refine blk_drewN ?_ _ | refine blk_drew ?_ | refine blk_alloc ?_ _)); refine blk_far ?_ NB252_263.out _; (with_reducible repeat (first | refine blk_drewN ?_ _ | refine blk_drew ?_ | refine blk_alloc ?_ _)); exact BK252.out⟩, ⟨by (with_reducible repeat (first | refine blk_drewN ?_ _ | refine blk_drew ?_ | refine blk_alloc ?_ _)); refine blk_far ?_ NB253_263.out _; (with_reducible repeat (first | refine blk_drewN ?_ _ | refine blk_drew ?_ | refine blk_alloc ?_ _)); refine blk_far ?_ NB253_263.out _; (with_reducible repeat (first | refine blk_drewN ?_ _ | refine blk_drew ?_ | refine blk_alloc ?_ _)); exact BK253.out⟩, ⟨by (with_reducible repeat (first | refine blk_drewN ?_ _ | refine blk_drew ?_ | refine blk_alloc ?_ _)); refine blk_far ?_ NB254_263.out _; (with_reducible repeat (first | refine blk_drewN ?_ _ | refine blk_drew ?_ | refine blk_alloc ?_ _)); refine blk_far ?_ NB254_263.out _; (with_reducible repeat (first | refine blk_drewN ?_ _ | refine blk_drew ?_ | refine blk_alloc ?_ _)); exact BK254.out⟩, ⟨by (with_reducible repeat (first | refine blk_drewN ?_ _ | refine blk_drew ?_ | refine blk_alloc ?_ _)); refine blk_far ?_ NB259_263.out _; (with_reducible repeat (first | refine blk_drewN ?_ _ | refine blk_drew ?_ | refine blk_alloc ?_ _)); refine blk_far ?_ NB259_263.out _; (with_reducible repeat (first | refine blk_drewN ?_ _ | refine blk_drew ?_ | refine blk_alloc ?_ _)); exact BK259.out⟩, ⟨by (with_reducible repeat (first | refine blk_drewN ?_ _ | refine blk_drew ?_ | refine blk_alloc ?_ _)); refine blk_put (cs := #[.int .i64 t260, .int .i64 0]) ?_ 1 _ rfl; (with_reducible repeat (first | refine blk_drewN ?_ _ | refine blk_drew ?_ | refine blk_alloc ?_ _)); refine blk_put (cs := #[.int .i64 0, .int .i64 0]) ?_ 0 _ rfl; (with_reducible repeat (first | refine blk_drewN ?_ _ | refine blk_drew ?_ | refine blk_alloc ?_ _)); exact BK263.out⟩, ⟨by repeat (first | (with_reducible first | exact HB.out | apply below_alloc | apply pw_below_drewN | apply below_drew1 | refine below_set ?_ (IsS53.ge HI242.out) | refine below_set ?_ GE252.out | refine below_set ?_ GE253.out | refine below_set ?_ GE254.out | refine below_set ?_ GE259.out | refine below_set ?_ GE263.out) | exact HB.out)⟩⟩
  ·
   rw [if_neg c44] at H
   have c44b0 : (t258 == 0) = false := beq_eq_false_iff_ne.mpr c44
   have c44b1 : (t258 != 0) = true := bne_iff_ne.mpr c44
   (first | rw [c44b0] | (simp only [i64_w, i32_w]; rw [c44b0]) | skip)
   have H' := Aside0.mk H
   clear H
   go_wp2
   go_meet
   case rel => exact ⟨_, (true), (by first | rfl | (simp; done) | (simp [*]; done)), H', ⟨by first | omega | exact Nat.le_refl _⟩, ⟨by (with_reducible repeat (first | refine blk_drewN ?_ _ | refine blk_drew ?_ | refine blk_alloc ?_ _)); refine blk_far ?_ NB252_263.out _; (with_reducible repeat (first | refine blk_drewN ?_ _ | refine blk_drew ?_ | refine blk_alloc ?_ _)); refine blk_far ?_ NB252_263.out _; (with_reducible repeat (first | refine blk_drewN ?_ _ | refine blk_drew ?_ | refine blk_alloc ?_ _)); exact BK252.out⟩, ⟨by (with_reducible repeat (first | refine blk_drewN ?_ _ | refine blk_drew ?_ | refine blk_alloc ?_ _)); refine blk_far ?_ NB253_263.out _; (with_reducible repeat (first | refine blk_drewN ?_ _ | refine blk_drew ?_ | refine blk_alloc ?_ _)); refine blk_far ?_ NB253_263.out _; (with_reducible repeat (first | refine blk_drewN ?_ _ | refine blk_drew ?_ | refine blk_alloc ?_ _)); exact BK253.out⟩, ⟨by (with_reducible repeat (first | refine blk_drewN ?_ _ | refine blk_drew ?_ | refine blk_alloc ?_ _)); refine blk_far ?_ NB254_263.out _; (with_reducible repeat (first | refine blk_drewN ?_ _ | refine blk_drew ?_ | refine blk_alloc ?_ _)); refine blk_far ?_ NB254_263.out _; (with_reducible repeat (first | refine blk_drewN ?_ _ | refine blk_drew ?_ | refine blk_alloc ?_ _)); exact BK254.out⟩, ⟨by (with_reducible repeat (first | refine blk_drewN ?_ _ | refine blk_drew ?_ | refine blk_alloc ?_ _)); refine blk_far ?_ NB259_263.out _; (with_reducible repeat (first | refine blk_drewN ?_ _ | refine blk_drew ?_ | refine blk_alloc ?_ _)); refine blk_far ?_ NB259_263.out _; (with_reducible repeat (first | refine blk_drewN ?_ _ | refine blk_drew ?_ | refine blk_alloc ?_ _)); exact BK259.out⟩, ⟨by (with_reducible repeat (first | refine blk_drewN ?_ _ | refine blk_drew ?_ | refine blk_alloc ?_ _)); refine blk_put (cs := #[.int .i64 t260, .int .i64 0]) ?_ 1 _ rfl; (with_reducible repeat (first | refine blk_drewN ?_ _ | refine blk_drew ?_ | refine blk_alloc ?_ _)); refine blk_put (cs := #[.int .i64 0, .int .i64 0]) ?_ 0 _ rfl; (with_reducible repeat (first | refine blk_drewN ?_ _ | refine blk_drew ?_ | refine blk_alloc ?_ _)); exact BK263.out⟩, ⟨by repeat (first | (with_reducible first | exact HB.out | apply below_alloc | apply pw_below_drewN | apply below_drew1 | refine below_set ?_ (IsS53.ge HI242.out) | refine below_set ?_ GE252.out | refine below_set ?_ GE253.out | refine below_set ?_ GE254.out | refine below_set ?_ GE259.out | refine below_set ?_ GE263.out) | exact HB.out)⟩⟩
 case rest =>
  clear HC10
  try clear c1
  try clear c2
  try clear p2
  try clear c3
  try clear c4
  try clear c7
  try clear c11
  try clear c12
  try clear c18
  try clear c19
  try clear c20
  try clear c21
  try clear c22
  try clear c23
  try clear c25
  try clear c29
  try clear c30
  try clear c31
  try clear c32
  try clear c38
  try clear c39
  try clear c40
  try clear c41
  try clear c42
  try clear c44
  try clear c44b0
  try clear c44b1
  try clear hcz21_0
  try clear hcz21_1
  try clear hcz24_0
  try clear hcz24_1
  try clear hcz26_0
  try clear hcz26_1
  try clear hcz33_0
  try clear hcz33_1
  try clear hcz34_0
  try clear hcz34_1
  try clear hcz35_0
  try clear hcz35_1
  try clear hcz43_0
  try clear hcz43_1
  try clear hfz21_0
  try clear hfz21_1
  try clear hfz24_0
  try clear hfz24_1
  try clear hfz26_0
  try clear hfz26_1
  try clear hfz33_0
  try clear hfz33_1
  try clear hfz34_0
  try clear hfz34_1
  try clear hfz35_0
  try clear hfz35_1
  try clear hfz43_0
  try clear hfz43_1
  obtain ⟨kq, x45_9, rfl, HA, HJ9, BK252, BK253, BK254, BK259, BK263, HB⟩ := hcut
  cases kq with
  | zero => exact absurd HA.out (by simp [payrolllaw2_RoundingMonotone.j0])
  | succ kj9 =>
   have H := HA.out
   clear HA
   simp only [payrolllaw2_RoundingMonotone.j0] at H
   by_cases c45 : x45_9 = true
   ·
    subst c45
    have H1 : (if t258 = 4 then ((payrolllaw2_sane.f kj9).bind fun t264 => (some t264)) else (if t262 = 4 then ((payrolllaw2_sane.f kj9).bind fun t265 => (some t265)) else (some false))) = some r := by rw [if_pos rfl] at H; exact H
    clear H
    have H := H1
    clear H1
    by_cases c46 : t258 = 4
    ·
     rw [if_pos c46] at H
     have c46b0 : (t258 == 4) = true := beq_iff_eq.mpr c46
     have c46b1 : (t258 != 4) = false := bne_eq_false_iff_eq.mpr c46
     clear c46
     replace H := Option.bind_eq_some_iff.mp H
     obtain ⟨t264, A470, H⟩ := H
     replace H : (some t264) = some r := H
     have A47 := Aside0.mk A470
     clear A470
     obtain rfl := Option.some.inj H
     go_wp2_with (first | (go_at_call 17; (with_reducible refine (payrolllaw2_sane.calls kj9  t264 _ A47.out).mono ?_); rintro e w48 ⟨rfl, hb⟩; replace BK252 := tb_ BK252 hb; replace BK253 := tb_ BK253 hb; replace BK254 := tb_ BK254 hb; replace BK259 := tb_ BK259 hb; replace BK263 := tb_ BK263 hb; replace HB := ts_ HB hb; (try clear hb); (try clear hb2); (try clear hk); (try clear hi)))
     go_ret
     exact ⟨by first | rfl | (simp [errW_none, errW_some] <;> rfl) | (simp [*, errW_none, errW_some] <;> rfl), be_ HB⟩
    ·
     rw [if_neg c46] at H
     have c46b0 : (t258 == 4) = false := beq_eq_false_iff_ne.mpr c46
     have c46b1 : (t258 != 4) = true := bne_iff_ne.mpr c46
     by_cases c49 : t262 = 4
     ·
      rw [if_pos c49] at H
      have c49b0 : (t262 == 4) = true := beq_iff_eq.mpr c49
      have c49b1 : (t262 != 4) = false := bne_eq_false_iff_eq.mpr c49
      clear c49
      replace H := Option.bind_eq_some_iff.mp H
      obtain ⟨t265, A500, H⟩ := H
      replace H : (some t265) = some r := H
      have A50 := Aside0.mk A500
      clear A500
      obtain rfl := Option.some.inj H
      go_wp2_with (first | (go_at_call 17; (with_reducible refine (payrolllaw2_sane.calls kj9  t265 _ A50.out).mono ?_); rintro e w51 ⟨rfl, hb⟩; replace BK252 := tb_ BK252 hb; replace BK253 := tb_ BK253 hb; replace BK254 := tb_ BK254 hb; replace BK259 := tb_ BK259 hb; replace BK263 := tb_ BK263 hb; replace HB := ts_ HB hb; (try clear hb); (try clear hb2); (try clear hk); (try clear hi)))
      go_ret
      exact ⟨by first | rfl | (simp [errW_none, errW_some] <;> rfl) | (simp [*, errW_none, errW_some] <;> rfl), be_ HB⟩
     ·
      rw [if_neg c49] at H
      have c49b0 : (t262 == 4) = false := beq_eq_false_iff_ne.mpr c49
      have c49b1 : (t262 != 4) = true := bne_iff_ne.mpr c49
      obtain rfl := Option.some.inj H
      go_wp2
      go_ret
      exact ⟨by first | rfl | (simp [errW_none, errW_some] <;> rfl) | (simp [*, errW_none, errW_some] <;> rfl), be_ HB⟩
   ·
    replace c45 := Bool.eq_false_iff.mpr c45
    subst c45
    have H1 : ((rounding_Round.f kj9 t256 t257 t249 t250 t255).bind fun bt266 => ((ratio_Compare.f kj9 t243 t244 t246 t247).bind fun t270 => (if t270 > 0 then (if bt266.2.2 = 0 then (if (bt266.1 == t256 && (bt266.2.1 == t257)) = true then ((payrolllaw2_sane.f kj9).bind fun t271 => (some t271)) else (some false)) else (some false)) else ((ratio_Compare.f kj9 t256 t257 t260 t261).bind fun t272 => (if t272 ≤ 0 then (if bt266.2.2 = 0 then (if (bt266.1 == t256 && (bt266.2.1 == t257)) = true then ((payrolllaw2_sane.f kj9).bind fun t273 => (some t273)) else (some false)) else (some false)) else (some false)))))) = some r := by rw [if_neg (show ¬ (false = true) by decide)] at H; exact H
    clear H
    have H := H1
    clear H1
    replace H := Option.bind_eq_some_iff.mp H
    obtain ⟨⟨t266, t267, t268⟩, A520, H⟩ := H
    replace H : ((ratio_Compare.f kj9 t243 t244 t246 t247).bind fun t270 => (if t270 > 0 then (if t268 = 0 then (if (t266 == t256 && (t267 == t257)) = true then ((payrolllaw2_sane.f kj9).bind fun t271 => (some t271)) else (some false)) else (some false)) else ((ratio_Compare.f kj9 t256 t257 t260 t261).bind fun t272 => (if t272 ≤ 0 then (if t268 = 0 then (if (t266 == t256 && (t267 == t257)) = true then ((payrolllaw2_sane.f kj9).bind fun t273 => (some t273)) else (some false)) else (some false)) else (some false))))) = some r := H
    have A52 := Aside0.mk A520
    clear A520
    replace H := Option.bind_eq_some_iff.mp H
    obtain ⟨t270, A530, H⟩ := H
    replace H : (if t270 > 0 then (if t268 = 0 then (if (t266 == t256 && (t267 == t257)) = true then ((payrolllaw2_sane.f kj9).bind fun t271 => (some t271)) else (some false)) else (some false)) else ((ratio_Compare.f kj9 t256 t257 t260 t261).bind fun t272 => (if t272 ≤ 0 then (if t268 = 0 then (if (t266 == t256 && (t267 == t257)) = true then ((payrolllaw2_sane.f kj9).bind fun t273 => (some t273)) else (some false)) else (some false)) else (some false)))) = some r := H
    have A53 := Aside0.mk A530
    clear A530
    by_cases c54 : t270 > 0
    ·
     rw [if_pos c54] at H
     have c54b0 : decide (0 < t270) = true := decide_eq_true c54
     clear c54
     by_cases c55 : t268 = 0
     ·
      rw [if_pos c55] at H
      have c55b0 : (t268 == 0) = true := beq_iff_eq.mpr c55
      have c55b1 : (t268 != 0) = false := bne_eq_false_iff_eq.mpr c55
      clear c55
      by_cases c56 : (t266 == t256 && (t267 == t257)) = true
      ·
       rw [if_pos c56] at H
       have c56b0 : (t266 == t256 && (t267 == t257)) = true := c56
       (try (have c56b1 : decide (t266 = t256 && (t267 == t257)) = true := by simpa using c56))
       (try (have c56b2 : (t266 == t256 && (t267 == t257)) = true := by simpa using c56))
       clear c56
       replace H := Option.bind_eq_some_iff.mp H
       obtain ⟨t271, A570, H⟩ := H
       replace H : (some t271) = some r := H
       have A57 := Aside0.mk A570
       clear A570
       obtain rfl := Option.some.inj H
       have hnb58 := NB259_252.out
       have hnc58 := NB252_259.out
       have hnb59 := NB259_253.out
       have hnc59 := NB253_259.out
       have hnb60 := NB259_254.out
       have hnc60 := NB254_259.out
       have hnb61 := NB259_263.out
       have hnc61 := NB263_259.out
       have hcz62_0 : wc.cell? ⟨gb259, 0, none⟩ = some (.int .i64 t256) := (blk_cell BK259.out 0).trans rfl
       have hcz62_1 : wc.cell? ⟨gb259, 1, none⟩ = some (.int .i64 t257) := (blk_cell BK259.out 1).trans rfl
       have hfz62_0 := blk_frozen BK259.out 0
       have hfz62_1 := blk_frozen BK259.out 1
       have hnb63 := NB254_252.out
       have hnc63 := NB252_254.out
       have hnb64 := NB254_253.out
       have hnc64 := NB253_254.out
       have hnb65 := NB254_263.out
       have hnc65 := NB263_254.out
       have hcz66_0 : wc.cell? ⟨gb254, 0, none⟩ = some (.int .i64 t249) := (blk_cell BK254.out 0).trans rfl
       have hcz66_1 : wc.cell? ⟨gb254, 1, none⟩ = some (.int .i64 t250) := (blk_cell BK254.out 1).trans rfl
       have hfz66_0 := blk_frozen BK254.out 0
       have hfz66_1 := blk_frozen BK254.out 1
       go_wp2_with (first | ((with_reducible refine gate_callee (f := 23) rfl ?_); refine gq_ (some 59) rfl rfl Try.func23 #[.agg #[.int .i64 t256, .int .i64 t257], .agg #[.int .i64 t249, .int .i64 t250], .int .i64 t255] rfl ?_; (with_reducible refine (rounding_Round.calls kj9 t256 t257 t249 t250 t255 t266 t267 t268 _ A52.out).mono ?_); rintro e w67 ⟨rfl, hb⟩; refine ⟨_, rfl, ?_⟩; replace BK252 := tb_ BK252 hb; replace BK253 := tb_ BK253 hb; replace BK254 := tb_ BK254 hb; replace BK259 := tb_ BK259 hb; replace BK263 := tb_ BK263 hb; replace HB := ts_ HB hb; (try clear hb); (try clear hb2); (try clear hk); (try clear hi)) | ((with_reducible refine gate_dst (N := 14) rfl ?_); refine bx_ (N := 14) (cs := #[.int .i64 0, .int .i64 0]) (t := 41) ?_; intro gb269 hg w68 hbox hb; have BK269 := Aside0.mk (hbox); have GW269 := sz_ HB hg; have GE269 := sz_ HB hg; have NB252_269 := nl_ BK252 hg; have NB269_252 := nr_ BK252 hg; have NB253_269 := nl_ BK253 hg; have NB269_253 := nr_ BK253 hg; have NB254_269 := nl_ BK254 hg; have NB269_254 := nr_ BK254 hg; have NB259_269 := nl_ BK259 hg; have NB269_259 := nr_ BK259 hg; have NB263_269 := nl_ BK263 hg; have NB269_263 := nr_ BK263 hg; replace BK252 := tb_ BK252 hb; replace BK253 := tb_ BK253 hb; replace BK254 := tb_ BK254 hb; replace BK259 := tb_ BK259 hb; replace BK263 := tb_ BK263 hb; replace HB := ts_ HB hb; clear hb hbox hg; have hnb69 := NB269_252.out; have hnc69 := NB252_269.out; have hnb70 := NB269_253.out; have hnc70 := NB253_269.out; have hnb71 := NB269_254.out; have hnc71 := NB254_269.out; have hnb72 := NB269_259.out; have hnc72 := NB259_269.out; have hnb73 := NB269_263.out; have hnc73 := NB263_269.out; have hcz74_0 : w68.cell? ⟨gb269, 0, none⟩ = some (.int .i64 0) := (blk_cell BK269.out 0).trans rfl; have hcz74_1 : w68.cell? ⟨gb269, 1, none⟩ = some (.int .i64 0) := (blk_cell BK269.out 1).trans rfl; have hfz74_0 := blk_frozen BK269.out 0; have hfz74_1 := blk_frozen BK269.out 1; have hnb75 := NB252_253.out; have hnc75 := NB253_252.out; have hnb76 := NB252_263.out; have hnc76 := NB263_252.out; have hcz77_0 : w68.cell? ⟨gb252, 0, none⟩ = some (.int .i64 t243) := (blk_cell BK252.out 0).trans rfl; have hcz77_1 : w68.cell? ⟨gb252, 1, none⟩ = some (.int .i64 t244) := (blk_cell BK252.out 1).trans rfl; have hfz77_0 := blk_frozen BK252.out 0; have hfz77_1 := blk_frozen BK252.out 1; have hnb78 := NB253_263.out; have hnc78 := NB263_253.out; have hcz79_0 : w68.cell? ⟨gb253, 0, none⟩ = some (.int .i64 t246) := (blk_cell BK253.out 0).trans rfl; have hcz79_1 : w68.cell? ⟨gb253, 1, none⟩ = some (.int .i64 t247) := (blk_cell BK253.out 1).trans rfl; have hfz79_0 := blk_frozen BK253.out 0; have hfz79_1 := blk_frozen BK253.out 1) | ((with_reducible refine gate_callee (f := 24) rfl ?_); refine gq_ (some 64) rfl rfl Try.func24 #[.agg #[.int .i64 t243, .int .i64 t244], .agg #[.int .i64 t246, .int .i64 t247]] rfl ?_; (with_reducible refine (ratio_Compare.calls kj9 t243 t244 t246 t247 t270 _ A53.out).mono ?_); rintro e w80 ⟨rfl, hb⟩; refine ⟨_, rfl, ?_⟩; replace BK252 := tb_ BK252 hb; replace BK253 := tb_ BK253 hb; replace BK254 := tb_ BK254 hb; replace BK259 := tb_ BK259 hb; replace BK263 := tb_ BK263 hb; replace BK269 := tb_ (o' := .cells #[.int .i64 t266, .int .i64 t267] 41 (0, 0)) BK269 hb; replace HB := ts_ HB hb; (try clear hb); (try clear hb2); (try clear hk); (try clear hi); have hcz81_0 : w80.cell? ⟨gb269, 0, none⟩ = some (.int .i64 t266) := (blk_cell BK269.out 0).trans rfl; have hcz81_1 : w80.cell? ⟨gb269, 1, none⟩ = some (.int .i64 t267) := (blk_cell BK269.out 1).trans rfl; have hfz81_0 := blk_frozen BK269.out 0; have hfz81_1 := blk_frozen BK269.out 1; have hcz82_0 : w80.cell? ⟨gb259, 0, none⟩ = some (.int .i64 t256) := (blk_cell BK259.out 0).trans rfl; have hcz82_1 : w80.cell? ⟨gb259, 1, none⟩ = some (.int .i64 t257) := (blk_cell BK259.out 1).trans rfl; have hfz82_0 := blk_frozen BK259.out 0; have hfz82_1 := blk_frozen BK259.out 1) | (go_at_call 17; (with_reducible refine (payrolllaw2_sane.calls kj9  t271 _ A57.out).mono ?_); rintro e w83 ⟨rfl, hb⟩; replace BK252 := tb_ BK252 hb; replace BK253 := tb_ BK253 hb; replace BK254 := tb_ BK254 hb; replace BK259 := tb_ BK259 hb; replace BK263 := tb_ BK263 hb; replace BK269 := tb_ BK269 hb; replace HB := ts_ HB hb; (try clear hb); (try clear hb2); (try clear hk); (try clear hi)))
       go_ret
       exact ⟨by first | rfl | (simp [errW_none, errW_some] <;> rfl) | (simp [*, errW_none, errW_some] <;> rfl), be_ HB⟩
      ·
       rw [if_neg c56] at H
       have c56b0 : (t266 == t256 && (t267 == t257)) = false := by simpa using c56
       (try (have c56b1 : decide (t266 = t256 && (t267 == t257)) = false := by simpa using c56))
       (try (have c56b2 : (t266 == t256 && (t267 == t257)) = false := by simpa using c56))
       (try (have c56b3 : ¬ (t266 = t256 && (t267 == t257)) := by simpa using c56))
       clear c56
       obtain rfl := Option.some.inj H
       have hnb84 := NB259_252.out
       have hnc84 := NB252_259.out
       have hnb85 := NB259_253.out
       have hnc85 := NB253_259.out
       have hnb86 := NB259_254.out
       have hnc86 := NB254_259.out
       have hnb87 := NB259_263.out
       have hnc87 := NB263_259.out
       have hcz88_0 : wc.cell? ⟨gb259, 0, none⟩ = some (.int .i64 t256) := (blk_cell BK259.out 0).trans rfl
       have hcz88_1 : wc.cell? ⟨gb259, 1, none⟩ = some (.int .i64 t257) := (blk_cell BK259.out 1).trans rfl
       have hfz88_0 := blk_frozen BK259.out 0
       have hfz88_1 := blk_frozen BK259.out 1
       have hnb89 := NB254_252.out
       have hnc89 := NB252_254.out
       have hnb90 := NB254_253.out
       have hnc90 := NB253_254.out
       have hnb91 := NB254_263.out
       have hnc91 := NB263_254.out
       have hcz92_0 : wc.cell? ⟨gb254, 0, none⟩ = some (.int .i64 t249) := (blk_cell BK254.out 0).trans rfl
       have hcz92_1 : wc.cell? ⟨gb254, 1, none⟩ = some (.int .i64 t250) := (blk_cell BK254.out 1).trans rfl
       have hfz92_0 := blk_frozen BK254.out 0
       have hfz92_1 := blk_frozen BK254.out 1
       go_wp2_with (first | ((with_reducible refine gate_callee (f := 23) rfl ?_); refine gq_ (some 59) rfl rfl Try.func23 #[.agg #[.int .i64 t256, .int .i64 t257], .agg #[.int .i64 t249, .int .i64 t250], .int .i64 t255] rfl ?_; (with_reducible refine (rounding_Round.calls kj9 t256 t257 t249 t250 t255 t266 t267 t268 _ A52.out).mono ?_); rintro e w93 ⟨rfl, hb⟩; refine ⟨_, rfl, ?_⟩; replace BK252 := tb_ BK252 hb; replace BK253 := tb_ BK253 hb; replace BK254 := tb_ BK254 hb; replace BK259 := tb_ BK259 hb; replace BK263 := tb_ BK263 hb; replace HB := ts_ HB hb; (try clear hb); (try clear hb2); (try clear hk); (try clear hi)) | ((with_reducible refine gate_dst (N := 14) rfl ?_); refine bx_ (N := 14) (cs := #[.int .i64 0, .int .i64 0]) (t := 41) ?_; intro gb269 hg w94 hbox hb; have BK269 := Aside0.mk (hbox); have GW269 := sz_ HB hg; have GE269 := sz_ HB hg; have NB252_269 := nl_ BK252 hg; have NB269_252 := nr_ BK252 hg; have NB253_269 := nl_ BK253 hg; have NB269_253 := nr_ BK253 hg; have NB254_269 := nl_ BK254 hg; have NB269_254 := nr_ BK254 hg; have NB259_269 := nl_ BK259 hg; have NB269_259 := nr_ BK259 hg; have NB263_269 := nl_ BK263 hg; have NB269_263 := nr_ BK263 hg; replace BK252 := tb_ BK252 hb; replace BK253 := tb_ BK253 hb; replace BK254 := tb_ BK254 hb; replace BK259 := tb_ BK259 hb; replace BK263 := tb_ BK263 hb; replace HB := ts_ HB hb; clear hb hbox hg; have hnb95 := NB269_252.out; have hnc95 := NB252_269.out; have hnb96 := NB269_253.out; have hnc96 := NB253_269.out; have hnb97 := NB269_254.out; have hnc97 := NB254_269.out; have hnb98 := NB269_259.out; have hnc98 := NB259_269.out; have hnb99 := NB269_263.out; have hnc99 := NB263_269.out; have hcz100_0 : w94.cell? ⟨gb269, 0, none⟩ = some (.int .i64 0) := (blk_cell BK269.out 0).trans rfl; have hcz100_1 : w94.cell? ⟨gb269, 1, none⟩ = some (.int .i64 0) := (blk_cell BK269.out 1).trans rfl; have hfz100_0 := blk_frozen BK269.out 0; have hfz100_1 := blk_frozen BK269.out 1; have hnb101 := NB252_253.out; have hnc101 := NB253_252.out; have hnb102 := NB252_263.out; have hnc102 := NB263_252.out; have hcz103_0 : w94.cell? ⟨gb252, 0, none⟩ = some (.int .i64 t243) := (blk_cell BK252.out 0).trans rfl; have hcz103_1 : w94.cell? ⟨gb252, 1, none⟩ = some (.int .i64 t244) := (blk_cell BK252.out 1).trans rfl; have hfz103_0 := blk_frozen BK252.out 0; have hfz103_1 := blk_frozen BK252.out 1; have hnb104 := NB253_263.out; have hnc104 := NB263_253.out; have hcz105_0 : w94.cell? ⟨gb253, 0, none⟩ = some (.int .i64 t246) := (blk_cell BK253.out 0).trans rfl; have hcz105_1 : w94.cell? ⟨gb253, 1, none⟩ = some (.int .i64 t247) := (blk_cell BK253.out 1).trans rfl; have hfz105_0 := blk_frozen BK253.out 0; have hfz105_1 := blk_frozen BK253.out 1) | ((with_reducible refine gate_callee (f := 24) rfl ?_); refine gq_ (some 64) rfl rfl Try.func24 #[.agg #[.int .i64 t243, .int .i64 t244], .agg #[.int .i64 t246, .int .i64 t247]] rfl ?_; (with_reducible refine (ratio_Compare.calls kj9 t243 t244 t246 t247 t270 _ A53.out).mono ?_); rintro e w106 ⟨rfl, hb⟩; refine ⟨_, rfl, ?_⟩; replace BK252 := tb_ BK252 hb; replace BK253 := tb_ BK253 hb; replace BK254 := tb_ BK254 hb; replace BK259 := tb_ BK259 hb; replace BK263 := tb_ BK263 hb; replace BK269 := tb_ (o' := .cells #[.int .i64 t266, .int .i64 t267] 41 (0, 0)) BK269 hb; replace HB := ts_ HB hb; (try clear hb); (try clear hb2); (try clear hk); (try clear hi); have hcz107_0 : w106.cell? ⟨gb269, 0, none⟩ = some (.int .i64 t266) := (blk_cell BK269.out 0).trans rfl; have hcz107_1 : w106.cell? ⟨gb269, 1, none⟩ = some (.int .i64 t267) := (blk_cell BK269.out 1).trans rfl; have hfz107_0 := blk_frozen BK269.out 0; have hfz107_1 := blk_frozen BK269.out 1; have hcz108_0 : w106.cell? ⟨gb259, 0, none⟩ = some (.int .i64 t256) := (blk_cell BK259.out 0).trans rfl; have hcz108_1 : w106.cell? ⟨gb259, 1, none⟩ = some (.int .i64 t257) := (blk_cell BK259.out 1).trans rfl; have hfz108_0 := blk_frozen BK259.out 0; have hfz108_1 := blk_frozen BK259.out 1))
       go_ret
       exact ⟨by first | rfl | (simp [errW_none, errW_some] <;> rfl) | (simp [*, errW_none, errW_some] <;> rfl), be_ HB⟩
     ·
      rw [if_neg c55] at H
      have c55b0 : (t268 == 0) = false := beq_eq_false_iff_ne.mpr c55
      have c55b1 : (t268 != 0) = true := bne_iff_ne.mpr c55
      obtain rfl := Option.some.inj H
      have hnb109 := NB259_252.out
      have hnc109 := NB252_259.out
      have hnb110 := NB259_253.out
      have hnc110 := NB253_259.out
      have hnb111 := NB259_254.out
      have hnc111 := NB254_259.out
      have hnb112 := NB259_263.out
      have hnc112 := NB263_259.out
      have hcz113_0 : wc.cell? ⟨gb259, 0, none⟩ = some (.int .i64 t256) := (blk_cell BK259.out 0).trans rfl
      have hcz113_1 : wc.cell? ⟨gb259, 1, none⟩ = some (.int .i64 t257) := (blk_cell BK259.out 1).trans rfl
      have hfz113_0 := blk_frozen BK259.out 0
      have hfz113_1 := blk_frozen BK259.out 1
      have hnb114 := NB254_252.out
      have hnc114 := NB252_254.out
      have hnb115 := NB254_253.out
      have hnc115 := NB253_254.out
      have hnb116 := NB254_263.out
      have hnc116 := NB263_254.out
      have hcz117_0 : wc.cell? ⟨gb254, 0, none⟩ = some (.int .i64 t249) := (blk_cell BK254.out 0).trans rfl
      have hcz117_1 : wc.cell? ⟨gb254, 1, none⟩ = some (.int .i64 t250) := (blk_cell BK254.out 1).trans rfl
      have hfz117_0 := blk_frozen BK254.out 0
      have hfz117_1 := blk_frozen BK254.out 1
      go_wp2_with (first | ((with_reducible refine gate_callee (f := 23) rfl ?_); refine gq_ (some 59) rfl rfl Try.func23 #[.agg #[.int .i64 t256, .int .i64 t257], .agg #[.int .i64 t249, .int .i64 t250], .int .i64 t255] rfl ?_; (with_reducible refine (rounding_Round.calls kj9 t256 t257 t249 t250 t255 t266 t267 t268 _ A52.out).mono ?_); rintro e w118 ⟨rfl, hb⟩; refine ⟨_, rfl, ?_⟩; replace BK252 := tb_ BK252 hb; replace BK253 := tb_ BK253 hb; replace BK254 := tb_ BK254 hb; replace BK259 := tb_ BK259 hb; replace BK263 := tb_ BK263 hb; replace HB := ts_ HB hb; (try clear hb); (try clear hb2); (try clear hk); (try clear hi)) | ((with_reducible refine gate_dst (N := 14) rfl ?_); refine bx_ (N := 14) (cs := #[.int .i64 0, .int .i64 0]) (t := 41) ?_; intro gb269 hg w119 hbox hb; have BK269 := Aside0.mk (hbox); have GW269 := sz_ HB hg; have GE269 := sz_ HB hg; have NB252_269 := nl_ BK252 hg; have NB269_252 := nr_ BK252 hg; have NB253_269 := nl_ BK253 hg; have NB269_253 := nr_ BK253 hg; have NB254_269 := nl_ BK254 hg; have NB269_254 := nr_ BK254 hg; have NB259_269 := nl_ BK259 hg; have NB269_259 := nr_ BK259 hg; have NB263_269 := nl_ BK263 hg; have NB269_263 := nr_ BK263 hg; replace BK252 := tb_ BK252 hb; replace BK253 := tb_ BK253 hb; replace BK254 := tb_ BK254 hb; replace BK259 := tb_ BK259 hb; replace BK263 := tb_ BK263 hb; replace HB := ts_ HB hb; clear hb hbox hg; have hnb120 := NB269_252.out; have hnc120 := NB252_269.out; have hnb121 := NB269_253.out; have hnc121 := NB253_269.out; have hnb122 := NB269_254.out; have hnc122 := NB254_269.out; have hnb123 := NB269_259.out; have hnc123 := NB259_269.out; have hnb124 := NB269_263.out; have hnc124 := NB263_269.out; have hcz125_0 : w119.cell? ⟨gb269, 0, none⟩ = some (.int .i64 0) := (blk_cell BK269.out 0).trans rfl; have hcz125_1 : w119.cell? ⟨gb269, 1, none⟩ = some (.int .i64 0) := (blk_cell BK269.out 1).trans rfl; have hfz125_0 := blk_frozen BK269.out 0; have hfz125_1 := blk_frozen BK269.out 1; have hnb126 := NB252_253.out; have hnc126 := NB253_252.out; have hnb127 := NB252_263.out; have hnc127 := NB263_252.out; have hcz128_0 : w119.cell? ⟨gb252, 0, none⟩ = some (.int .i64 t243) := (blk_cell BK252.out 0).trans rfl; have hcz128_1 : w119.cell? ⟨gb252, 1, none⟩ = some (.int .i64 t244) := (blk_cell BK252.out 1).trans rfl; have hfz128_0 := blk_frozen BK252.out 0; have hfz128_1 := blk_frozen BK252.out 1; have hnb129 := NB253_263.out; have hnc129 := NB263_253.out; have hcz130_0 : w119.cell? ⟨gb253, 0, none⟩ = some (.int .i64 t246) := (blk_cell BK253.out 0).trans rfl; have hcz130_1 : w119.cell? ⟨gb253, 1, none⟩ = some (.int .i64 t247) := (blk_cell BK253.out 1).trans rfl; have hfz130_0 := blk_frozen BK253.out 0; have hfz130_1 := blk_frozen BK253.out 1) | ((with_reducible refine gate_callee (f := 24) rfl ?_); refine gq_ (some 64) rfl rfl Try.func24 #[.agg #[.int .i64 t243, .int .i64 t244], .agg #[.int .i64 t246, .int .i64 t247]] rfl ?_; (with_reducible refine (ratio_Compare.calls kj9 t243 t244 t246 t247 t270 _ A53.out).mono ?_); rintro e w131 ⟨rfl, hb⟩; refine ⟨_, rfl, ?_⟩; replace BK252 := tb_ BK252 hb; replace BK253 := tb_ BK253 hb; replace BK254 := tb_ BK254 hb; replace BK259 := tb_ BK259 hb; replace BK263 := tb_ BK263 hb; replace BK269 := tb_ (o' := .cells #[.int .i64 t266, .int .i64 t267] 41 (0, 0)) BK269 hb; replace HB := ts_ HB hb; (try clear hb); (try clear hb2); (try clear hk); (try clear hi)))
      go_ret
      exact ⟨by first | rfl | (simp [errW_none, errW_some] <;> rfl) | (simp [*, errW_none, errW_some] <;> rfl), be_ HB⟩
    ·
     rw [if_neg c54] at H
     have c54b0 : decide (0 < t270) = false := decide_eq_false c54
     clear c54
     replace H := Option.bind_eq_some_iff.mp H
     obtain ⟨t272, A1320, H⟩ := H
     replace H : (if t272 ≤ 0 then (if t268 = 0 then (if (t266 == t256 && (t267 == t257)) = true then ((payrolllaw2_sane.f kj9).bind fun t273 => (some t273)) else (some false)) else (some false)) else (some false)) = some r := H
     have A132 := Aside0.mk A1320
     clear A1320
     by_cases c133 : t272 ≤ 0
     ·
      rw [if_pos c133] at H
      have c133b0 : decide (t272 ≤ 0) = true := decide_eq_true c133
      clear c133
      by_cases c134 : t268 = 0
      ·
       rw [if_pos c134] at H
       have c134b0 : (t268 == 0) = true := beq_iff_eq.mpr c134
       have c134b1 : (t268 != 0) = false := bne_eq_false_iff_eq.mpr c134
       clear c134
       by_cases c135 : (t266 == t256 && (t267 == t257)) = true
       ·
        rw [if_pos c135] at H
        have c135b0 : (t266 == t256 && (t267 == t257)) = true := c135
        (try (have c135b1 : decide (t266 = t256 && (t267 == t257)) = true := by simpa using c135))
        (try (have c135b2 : (t266 == t256 && (t267 == t257)) = true := by simpa using c135))
        clear c135
        replace H := Option.bind_eq_some_iff.mp H
        obtain ⟨t273, A1360, H⟩ := H
        replace H : (some t273) = some r := H
        have A136 := Aside0.mk A1360
        clear A1360
        obtain rfl := Option.some.inj H
        have hnb137 := NB259_252.out
        have hnc137 := NB252_259.out
        have hnb138 := NB259_253.out
        have hnc138 := NB253_259.out
        have hnb139 := NB259_254.out
        have hnc139 := NB254_259.out
        have hnb140 := NB259_263.out
        have hnc140 := NB263_259.out
        have hcz141_0 : wc.cell? ⟨gb259, 0, none⟩ = some (.int .i64 t256) := (blk_cell BK259.out 0).trans rfl
        have hcz141_1 : wc.cell? ⟨gb259, 1, none⟩ = some (.int .i64 t257) := (blk_cell BK259.out 1).trans rfl
        have hfz141_0 := blk_frozen BK259.out 0
        have hfz141_1 := blk_frozen BK259.out 1
        have hnb142 := NB254_252.out
        have hnc142 := NB252_254.out
        have hnb143 := NB254_253.out
        have hnc143 := NB253_254.out
        have hnb144 := NB254_263.out
        have hnc144 := NB263_254.out
        have hcz145_0 : wc.cell? ⟨gb254, 0, none⟩ = some (.int .i64 t249) := (blk_cell BK254.out 0).trans rfl
        have hcz145_1 : wc.cell? ⟨gb254, 1, none⟩ = some (.int .i64 t250) := (blk_cell BK254.out 1).trans rfl
        have hfz145_0 := blk_frozen BK254.out 0
        have hfz145_1 := blk_frozen BK254.out 1
        go_wp2_with (first | ((with_reducible refine gate_callee (f := 23) rfl ?_); refine gq_ (some 59) rfl rfl Try.func23 #[.agg #[.int .i64 t256, .int .i64 t257], .agg #[.int .i64 t249, .int .i64 t250], .int .i64 t255] rfl ?_; (with_reducible refine (rounding_Round.calls kj9 t256 t257 t249 t250 t255 t266 t267 t268 _ A52.out).mono ?_); rintro e w146 ⟨rfl, hb⟩; refine ⟨_, rfl, ?_⟩; replace BK252 := tb_ BK252 hb; replace BK253 := tb_ BK253 hb; replace BK254 := tb_ BK254 hb; replace BK259 := tb_ BK259 hb; replace BK263 := tb_ BK263 hb; replace HB := ts_ HB hb; (try clear hb); (try clear hb2); (try clear hk); (try clear hi)) | ((with_reducible refine gate_dst (N := 14) rfl ?_); refine bx_ (N := 14) (cs := #[.int .i64 0, .int .i64 0]) (t := 41) ?_; intro gb269 hg w147 hbox hb; have BK269 := Aside0.mk (hbox); have GW269 := sz_ HB hg; have GE269 := sz_ HB hg; have NB252_269 := nl_ BK252 hg; have NB269_252 := nr_ BK252 hg; have NB253_269 := nl_ BK253 hg; have NB269_253 := nr_ BK253 hg; have NB254_269 := nl_ BK254 hg; have NB269_254 := nr_ BK254 hg; have NB259_269 := nl_ BK259 hg; have NB269_259 := nr_ BK259 hg; have NB263_269 := nl_ BK263 hg; have NB269_263 := nr_ BK263 hg; replace BK252 := tb_ BK252 hb; replace BK253 := tb_ BK253 hb; replace BK254 := tb_ BK254 hb; replace BK259 := tb_ BK259 hb; replace BK263 := tb_ BK263 hb; replace HB := ts_ HB hb; clear hb hbox hg; have hnb148 := NB269_252.out; have hnc148 := NB252_269.out; have hnb149 := NB269_253.out; have hnc149 := NB253_269.out; have hnb150 := NB269_254.out; have hnc150 := NB254_269.out; have hnb151 := NB269_259.out; have hnc151 := NB259_269.out; have hnb152 := NB269_263.out; have hnc152 := NB263_269.out; have hcz153_0 : w147.cell? ⟨gb269, 0, none⟩ = some (.int .i64 0) := (blk_cell BK269.out 0).trans rfl; have hcz153_1 : w147.cell? ⟨gb269, 1, none⟩ = some (.int .i64 0) := (blk_cell BK269.out 1).trans rfl; have hfz153_0 := blk_frozen BK269.out 0; have hfz153_1 := blk_frozen BK269.out 1; have hnb154 := NB252_253.out; have hnc154 := NB253_252.out; have hnb155 := NB252_263.out; have hnc155 := NB263_252.out; have hcz156_0 : w147.cell? ⟨gb252, 0, none⟩ = some (.int .i64 t243) := (blk_cell BK252.out 0).trans rfl; have hcz156_1 : w147.cell? ⟨gb252, 1, none⟩ = some (.int .i64 t244) := (blk_cell BK252.out 1).trans rfl; have hfz156_0 := blk_frozen BK252.out 0; have hfz156_1 := blk_frozen BK252.out 1; have hnb157 := NB253_263.out; have hnc157 := NB263_253.out; have hcz158_0 : w147.cell? ⟨gb253, 0, none⟩ = some (.int .i64 t246) := (blk_cell BK253.out 0).trans rfl; have hcz158_1 : w147.cell? ⟨gb253, 1, none⟩ = some (.int .i64 t247) := (blk_cell BK253.out 1).trans rfl; have hfz158_0 := blk_frozen BK253.out 0; have hfz158_1 := blk_frozen BK253.out 1) | ((with_reducible refine gate_callee (f := 24) rfl ?_); refine gq_ (some 64) rfl rfl Try.func24 #[.agg #[.int .i64 t243, .int .i64 t244], .agg #[.int .i64 t246, .int .i64 t247]] rfl ?_; (with_reducible refine (ratio_Compare.calls kj9 t243 t244 t246 t247 t270 _ A53.out).mono ?_); rintro e w159 ⟨rfl, hb⟩; refine ⟨_, rfl, ?_⟩; replace BK252 := tb_ BK252 hb; replace BK253 := tb_ BK253 hb; replace BK254 := tb_ BK254 hb; replace BK259 := tb_ BK259 hb; replace BK263 := tb_ BK263 hb; replace BK269 := tb_ (o' := .cells #[.int .i64 t266, .int .i64 t267] 41 (0, 0)) BK269 hb; replace HB := ts_ HB hb; (try clear hb); (try clear hb2); (try clear hk); (try clear hi); have hcz160_0 : w159.cell? ⟨gb259, 0, none⟩ = some (.int .i64 t256) := (blk_cell BK259.out 0).trans rfl; have hcz160_1 : w159.cell? ⟨gb259, 1, none⟩ = some (.int .i64 t257) := (blk_cell BK259.out 1).trans rfl; have hfz160_0 := blk_frozen BK259.out 0; have hfz160_1 := blk_frozen BK259.out 1; have hcz161_0 : w159.cell? ⟨gb263, 0, none⟩ = some (.int .i64 t260) := (blk_cell BK263.out 0).trans rfl; have hcz161_1 : w159.cell? ⟨gb263, 1, none⟩ = some (.int .i64 t261) := (blk_cell BK263.out 1).trans rfl; have hfz161_0 := blk_frozen BK263.out 0; have hfz161_1 := blk_frozen BK263.out 1) | (go_at_call 24; (with_reducible refine (ratio_Compare.calls kj9 t256 t257 t260 t261 t272 _ A132.out).mono ?_); rintro e w162 ⟨rfl, hb⟩; replace BK252 := tb_ BK252 hb; replace BK253 := tb_ BK253 hb; replace BK254 := tb_ BK254 hb; replace BK259 := tb_ BK259 hb; replace BK263 := tb_ BK263 hb; replace BK269 := tb_ BK269 hb; replace HB := ts_ HB hb; (try clear hb); (try clear hb2); (try clear hk); (try clear hi); have hcz163_0 : w162.cell? ⟨gb269, 0, none⟩ = some (.int .i64 t266) := (blk_cell BK269.out 0).trans rfl; have hcz163_1 : w162.cell? ⟨gb269, 1, none⟩ = some (.int .i64 t267) := (blk_cell BK269.out 1).trans rfl; have hfz163_0 := blk_frozen BK269.out 0; have hfz163_1 := blk_frozen BK269.out 1; have hcz164_0 : w162.cell? ⟨gb259, 0, none⟩ = some (.int .i64 t256) := (blk_cell BK259.out 0).trans rfl; have hcz164_1 : w162.cell? ⟨gb259, 1, none⟩ = some (.int .i64 t257) := (blk_cell BK259.out 1).trans rfl; have hfz164_0 := blk_frozen BK259.out 0; have hfz164_1 := blk_frozen BK259.out 1) | (go_at_call 17; (with_reducible refine (payrolllaw2_sane.calls kj9  t273 _ A136.out).mono ?_); rintro e w165 ⟨rfl, hb⟩; replace BK252 := tb_ BK252 hb; replace BK253 := tb_ BK253 hb; replace BK254 := tb_ BK254 hb; replace BK259 := tb_ BK259 hb; replace BK263 := tb_ BK263 hb; replace BK269 := tb_ BK269 hb; replace HB := ts_ HB hb; (try clear hb); (try clear hb2); (try clear hk); (try clear hi)))
        go_ret
        exact ⟨by first | rfl | (simp [errW_none, errW_some] <;> rfl) | (simp [*, errW_none, errW_some] <;> rfl), be_ HB⟩
       ·
        rw [if_neg c135] at H
        have c135b0 : (t266 == t256 && (t267 == t257)) = false := by simpa using c135
        (try (have c135b1 : decide (t266 = t256 && (t267 == t257)) = false := by simpa using c135))
        (try (have c135b2 : (t266 == t256 && (t267 == t257)) = false := by simpa using c135))
        (try (have c135b3 : ¬ (t266 = t256 && (t267 == t257)) := by simpa using c135))
        clear c135
        obtain rfl := Option.some.inj H
        have hnb166 := NB259_252.out
        have hnc166 := NB252_259.out
        have hnb167 := NB259_253.out
        have hnc167 := NB253_259.out
        have hnb168 := NB259_254.out
        have hnc168 := NB254_259.out
        have hnb169 := NB259_263.out
        have hnc169 := NB263_259.out
        have hcz170_0 : wc.cell? ⟨gb259, 0, none⟩ = some (.int .i64 t256) := (blk_cell BK259.out 0).trans rfl
        have hcz170_1 : wc.cell? ⟨gb259, 1, none⟩ = some (.int .i64 t257) := (blk_cell BK259.out 1).trans rfl
        have hfz170_0 := blk_frozen BK259.out 0
        have hfz170_1 := blk_frozen BK259.out 1
        have hnb171 := NB254_252.out
        have hnc171 := NB252_254.out
        have hnb172 := NB254_253.out
        have hnc172 := NB253_254.out
        have hnb173 := NB254_263.out
        have hnc173 := NB263_254.out
        have hcz174_0 : wc.cell? ⟨gb254, 0, none⟩ = some (.int .i64 t249) := (blk_cell BK254.out 0).trans rfl
        have hcz174_1 : wc.cell? ⟨gb254, 1, none⟩ = some (.int .i64 t250) := (blk_cell BK254.out 1).trans rfl
        have hfz174_0 := blk_frozen BK254.out 0
        have hfz174_1 := blk_frozen BK254.out 1
        go_wp2_with (first | ((with_reducible refine gate_callee (f := 23) rfl ?_); refine gq_ (some 59) rfl rfl Try.func23 #[.agg #[.int .i64 t256, .int .i64 t257], .agg #[.int .i64 t249, .int .i64 t250], .int .i64 t255] rfl ?_; (with_reducible refine (rounding_Round.calls kj9 t256 t257 t249 t250 t255 t266 t267 t268 _ A52.out).mono ?_); rintro e w175 ⟨rfl, hb⟩; refine ⟨_, rfl, ?_⟩; replace BK252 := tb_ BK252 hb; replace BK253 := tb_ BK253 hb; replace BK254 := tb_ BK254 hb; replace BK259 := tb_ BK259 hb; replace BK263 := tb_ BK263 hb; replace HB := ts_ HB hb; (try clear hb); (try clear hb2); (try clear hk); (try clear hi)) | ((with_reducible refine gate_dst (N := 14) rfl ?_); refine bx_ (N := 14) (cs := #[.int .i64 0, .int .i64 0]) (t := 41) ?_; intro gb269 hg w176 hbox hb; have BK269 := Aside0.mk (hbox); have GW269 := sz_ HB hg; have GE269 := sz_ HB hg; have NB252_269 := nl_ BK252 hg; have NB269_252 := nr_ BK252 hg; have NB253_269 := nl_ BK253 hg; have NB269_253 := nr_ BK253 hg; have NB254_269 := nl_ BK254 hg; have NB269_254 := nr_ BK254 hg; have NB259_269 := nl_ BK259 hg; have NB269_259 := nr_ BK259 hg; have NB263_269 := nl_ BK263 hg; have NB269_263 := nr_ BK263 hg; replace BK252 := tb_ BK252 hb; replace BK253 := tb_ BK253 hb; replace BK254 := tb_ BK254 hb; replace BK259 := tb_ BK259 hb; replace BK263 := tb_ BK263 hb; replace HB := ts_ HB hb; clear hb hbox hg; have hnb177 := NB269_252.out; have hnc177 := NB252_269.out; have hnb178 := NB269_253.out; have hnc178 := NB253_269.out; have hnb179 := NB269_254.out; have hnc179 := NB254_269.out; have hnb180 := NB269_259.out; have hnc180 := NB259_269.out; have hnb181 := NB269_263.out; have hnc181 := NB263_269.out; have hcz182_0 : w176.cell? ⟨gb269, 0, none⟩ = some (.int .i64 0) := (blk_cell BK269.out 0).trans rfl; have hcz182_1 : w176.cell? ⟨gb269, 1, none⟩ = some (.int .i64 0) := (blk_cell BK269.out 1).trans rfl; have hfz182_0 := blk_frozen BK269.out 0; have hfz182_1 := blk_frozen BK269.out 1; have hnb183 := NB252_253.out; have hnc183 := NB253_252.out; have hnb184 := NB252_263.out; have hnc184 := NB263_252.out; have hcz185_0 : w176.cell? ⟨gb252, 0, none⟩ = some (.int .i64 t243) := (blk_cell BK252.out 0).trans rfl; have hcz185_1 : w176.cell? ⟨gb252, 1, none⟩ = some (.int .i64 t244) := (blk_cell BK252.out 1).trans rfl; have hfz185_0 := blk_frozen BK252.out 0; have hfz185_1 := blk_frozen BK252.out 1; have hnb186 := NB253_263.out; have hnc186 := NB263_253.out; have hcz187_0 : w176.cell? ⟨gb253, 0, none⟩ = some (.int .i64 t246) := (blk_cell BK253.out 0).trans rfl; have hcz187_1 : w176.cell? ⟨gb253, 1, none⟩ = some (.int .i64 t247) := (blk_cell BK253.out 1).trans rfl; have hfz187_0 := blk_frozen BK253.out 0; have hfz187_1 := blk_frozen BK253.out 1) | ((with_reducible refine gate_callee (f := 24) rfl ?_); refine gq_ (some 64) rfl rfl Try.func24 #[.agg #[.int .i64 t243, .int .i64 t244], .agg #[.int .i64 t246, .int .i64 t247]] rfl ?_; (with_reducible refine (ratio_Compare.calls kj9 t243 t244 t246 t247 t270 _ A53.out).mono ?_); rintro e w188 ⟨rfl, hb⟩; refine ⟨_, rfl, ?_⟩; replace BK252 := tb_ BK252 hb; replace BK253 := tb_ BK253 hb; replace BK254 := tb_ BK254 hb; replace BK259 := tb_ BK259 hb; replace BK263 := tb_ BK263 hb; replace BK269 := tb_ (o' := .cells #[.int .i64 t266, .int .i64 t267] 41 (0, 0)) BK269 hb; replace HB := ts_ HB hb; (try clear hb); (try clear hb2); (try clear hk); (try clear hi); have hcz189_0 : w188.cell? ⟨gb259, 0, none⟩ = some (.int .i64 t256) := (blk_cell BK259.out 0).trans rfl; have hcz189_1 : w188.cell? ⟨gb259, 1, none⟩ = some (.int .i64 t257) := (blk_cell BK259.out 1).trans rfl; have hfz189_0 := blk_frozen BK259.out 0; have hfz189_1 := blk_frozen BK259.out 1; have hcz190_0 : w188.cell? ⟨gb263, 0, none⟩ = some (.int .i64 t260) := (blk_cell BK263.out 0).trans rfl; have hcz190_1 : w188.cell? ⟨gb263, 1, none⟩ = some (.int .i64 t261) := (blk_cell BK263.out 1).trans rfl; have hfz190_0 := blk_frozen BK263.out 0; have hfz190_1 := blk_frozen BK263.out 1) | (go_at_call 24; (with_reducible refine (ratio_Compare.calls kj9 t256 t257 t260 t261 t272 _ A132.out).mono ?_); rintro e w191 ⟨rfl, hb⟩; replace BK252 := tb_ BK252 hb; replace BK253 := tb_ BK253 hb; replace BK254 := tb_ BK254 hb; replace BK259 := tb_ BK259 hb; replace BK263 := tb_ BK263 hb; replace BK269 := tb_ BK269 hb; replace HB := ts_ HB hb; (try clear hb); (try clear hb2); (try clear hk); (try clear hi); have hcz192_0 : w191.cell? ⟨gb269, 0, none⟩ = some (.int .i64 t266) := (blk_cell BK269.out 0).trans rfl; have hcz192_1 : w191.cell? ⟨gb269, 1, none⟩ = some (.int .i64 t267) := (blk_cell BK269.out 1).trans rfl; have hfz192_0 := blk_frozen BK269.out 0; have hfz192_1 := blk_frozen BK269.out 1; have hcz193_0 : w191.cell? ⟨gb259, 0, none⟩ = some (.int .i64 t256) := (blk_cell BK259.out 0).trans rfl; have hcz193_1 : w191.cell? ⟨gb259, 1, none⟩ = some (.int .i64 t257) := (blk_cell BK259.out 1).trans rfl; have hfz193_0 := blk_frozen BK259.out 0; have hfz193_1 := blk_frozen BK259.out 1))
        go_ret
        exact ⟨by first | rfl | (simp [errW_none, errW_some] <;> rfl) | (simp [*, errW_none, errW_some] <;> rfl), be_ HB⟩
      ·
       rw [if_neg c134] at H
       have c134b0 : (t268 == 0) = false := beq_eq_false_iff_ne.mpr c134
       have c134b1 : (t268 != 0) = true := bne_iff_ne.mpr c134
       obtain rfl := Option.some.inj H
       have hnb194 := NB259_252.out
       have hnc194 := NB252_259.out
       have hnb195 := NB259_253.out
       have hnc195 := NB253_259.out
       have hnb196 := NB259_254.out
       have hnc196 := NB254_259.out
       have hnb197 := NB259_263.out
       have hnc197 := NB263_259.out
       have hcz198_0 : wc.cell? ⟨gb259, 0, none⟩ = some (.int .i64 t256) := (blk_cell BK259.out 0).trans rfl
       have hcz198_1 : wc.cell? ⟨gb259, 1, none⟩ = some (.int .i64 t257) := (blk_cell BK259.out 1).trans rfl
       have hfz198_0 := blk_frozen BK259.out 0
       have hfz198_1 := blk_frozen BK259.out 1
       have hnb199 := NB254_252.out
       have hnc199 := NB252_254.out
       have hnb200 := NB254_253.out
       have hnc200 := NB253_254.out
       have hnb201 := NB254_263.out
       have hnc201 := NB263_254.out
       have hcz202_0 : wc.cell? ⟨gb254, 0, none⟩ = some (.int .i64 t249) := (blk_cell BK254.out 0).trans rfl
       have hcz202_1 : wc.cell? ⟨gb254, 1, none⟩ = some (.int .i64 t250) := (blk_cell BK254.out 1).trans rfl
       have hfz202_0 := blk_frozen BK254.out 0
       have hfz202_1 := blk_frozen BK254.out 1
       go_wp2_with (first | ((with_reducible refine gate_callee (f := 23) rfl ?_); refine gq_ (some 59) rfl rfl Try.func23 #[.agg #[.int .i64 t256, .int .i64 t257], .agg #[.int .i64 t249, .int .i64 t250], .int .i64 t255] rfl ?_; (with_reducible refine (rounding_Round.calls kj9 t256 t257 t249 t250 t255 t266 t267 t268 _ A52.out).mono ?_); rintro e w203 ⟨rfl, hb⟩; refine ⟨_, rfl, ?_⟩; replace BK252 := tb_ BK252 hb; replace BK253 := tb_ BK253 hb; replace BK254 := tb_ BK254 hb; replace BK259 := tb_ BK259 hb; replace BK263 := tb_ BK263 hb; replace HB := ts_ HB hb; (try clear hb); (try clear hb2); (try clear hk); (try clear hi)) | ((with_reducible refine gate_dst (N := 14) rfl ?_); refine bx_ (N := 14) (cs := #[.int .i64 0, .int .i64 0]) (t := 41) ?_; intro gb269 hg w204 hbox hb; have BK269 := Aside0.mk (hbox); have GW269 := sz_ HB hg; have GE269 := sz_ HB hg; have NB252_269 := nl_ BK252 hg; have NB269_252 := nr_ BK252 hg; have NB253_269 := nl_ BK253 hg; have NB269_253 := nr_ BK253 hg; have NB254_269 := nl_ BK254 hg; have NB269_254 := nr_ BK254 hg; have NB259_269 := nl_ BK259 hg; have NB269_259 := nr_ BK259 hg; have NB263_269 := nl_ BK263 hg; have NB269_263 := nr_ BK263 hg; replace BK252 := tb_ BK252 hb; replace BK253 := tb_ BK253 hb; replace BK254 := tb_ BK254 hb; replace BK259 := tb_ BK259 hb; replace BK263 := tb_ BK263 hb; replace HB := ts_ HB hb; clear hb hbox hg; have hnb205 := NB269_252.out; have hnc205 := NB252_269.out; have hnb206 := NB269_253.out; have hnc206 := NB253_269.out; have hnb207 := NB269_254.out; have hnc207 := NB254_269.out; have hnb208 := NB269_259.out; have hnc208 := NB259_269.out; have hnb209 := NB269_263.out; have hnc209 := NB263_269.out; have hcz210_0 : w204.cell? ⟨gb269, 0, none⟩ = some (.int .i64 0) := (blk_cell BK269.out 0).trans rfl; have hcz210_1 : w204.cell? ⟨gb269, 1, none⟩ = some (.int .i64 0) := (blk_cell BK269.out 1).trans rfl; have hfz210_0 := blk_frozen BK269.out 0; have hfz210_1 := blk_frozen BK269.out 1; have hnb211 := NB252_253.out; have hnc211 := NB253_252.out; have hnb212 := NB252_263.out; have hnc212 := NB263_252.out; have hcz213_0 : w204.cell? ⟨gb252, 0, none⟩ = some (.int .i64 t243) := (blk_cell BK252.out 0).trans rfl; have hcz213_1 : w204.cell? ⟨gb252, 1, none⟩ = some (.int .i64 t244) := (blk_cell BK252.out 1).trans rfl; have hfz213_0 := blk_frozen BK252.out 0; have hfz213_1 := blk_frozen BK252.out 1; have hnb214 := NB253_263.out; have hnc214 := NB263_253.out; have hcz215_0 : w204.cell? ⟨gb253, 0, none⟩ = some (.int .i64 t246) := (blk_cell BK253.out 0).trans rfl; have hcz215_1 : w204.cell? ⟨gb253, 1, none⟩ = some (.int .i64 t247) := (blk_cell BK253.out 1).trans rfl; have hfz215_0 := blk_frozen BK253.out 0; have hfz215_1 := blk_frozen BK253.out 1) | ((with_reducible refine gate_callee (f := 24) rfl ?_); refine gq_ (some 64) rfl rfl Try.func24 #[.agg #[.int .i64 t243, .int .i64 t244], .agg #[.int .i64 t246, .int .i64 t247]] rfl ?_; (with_reducible refine (ratio_Compare.calls kj9 t243 t244 t246 t247 t270 _ A53.out).mono ?_); rintro e w216 ⟨rfl, hb⟩; refine ⟨_, rfl, ?_⟩; replace BK252 := tb_ BK252 hb; replace BK253 := tb_ BK253 hb; replace BK254 := tb_ BK254 hb; replace BK259 := tb_ BK259 hb; replace BK263 := tb_ BK263 hb; replace BK269 := tb_ (o' := .cells #[.int .i64 t266, .int .i64 t267] 41 (0, 0)) BK269 hb; replace HB := ts_ HB hb; (try clear hb); (try clear hb2); (try clear hk); (try clear hi); have hcz217_0 : w216.cell? ⟨gb259, 0, none⟩ = some (.int .i64 t256) := (blk_cell BK259.out 0).trans rfl; have hcz217_1 : w216.cell? ⟨gb259, 1, none⟩ = some (.int .i64 t257) := (blk_cell BK259.out 1).trans rfl; have hfz217_0 := blk_frozen BK259.out 0; have hfz217_1 := blk_frozen BK259.out 1; have hcz218_0 : w216.cell? ⟨gb263, 0, none⟩ = some (.int .i64 t260) := (blk_cell BK263.out 0).trans rfl; have hcz218_1 : w216.cell? ⟨gb263, 1, none⟩ = some (.int .i64 t261) := (blk_cell BK263.out 1).trans rfl; have hfz218_0 := blk_frozen BK263.out 0; have hfz218_1 := blk_frozen BK263.out 1) | (go_at_call 24; (with_reducible refine (ratio_Compare.calls kj9 t256 t257 t260 t261 t272 _ A132.out).mono ?_); rintro e w219 ⟨rfl, hb⟩; replace BK252 := tb_ BK252 hb; replace BK253 := tb_ BK253 hb; replace BK254 := tb_ BK254 hb; replace BK259 := tb_ BK259 hb; replace BK263 := tb_ BK263 hb; replace BK269 := tb_ BK269 hb; replace HB := ts_ HB hb; (try clear hb); (try clear hb2); (try clear hk); (try clear hi)))
       go_ret
       exact ⟨by first | rfl | (simp [errW_none, errW_some] <;> rfl) | (simp [*, errW_none, errW_some] <;> rfl), be_ HB⟩
     ·
      rw [if_neg c133] at H
      have c133b0 : decide (t272 ≤ 0) = false := decide_eq_false c133
      clear c133
      obtain rfl := Option.some.inj H
      have hnb220 := NB259_252.out
      have hnc220 := NB252_259.out
      have hnb221 := NB259_253.out
      have hnc221 := NB253_259.out
      have hnb222 := NB259_254.out
      have hnc222 := NB254_259.out
      have hnb223 := NB259_263.out
      have hnc223 := NB263_259.out
      have hcz224_0 : wc.cell? ⟨gb259, 0, none⟩ = some (.int .i64 t256) := (blk_cell BK259.out 0).trans rfl
      have hcz224_1 : wc.cell? ⟨gb259, 1, none⟩ = some (.int .i64 t257) := (blk_cell BK259.out 1).trans rfl
      have hfz224_0 := blk_frozen BK259.out 0
      have hfz224_1 := blk_frozen BK259.out 1
      have hnb225 := NB254_252.out
      have hnc225 := NB252_254.out
      have hnb226 := NB254_253.out
      have hnc226 := NB253_254.out
      have hnb227 := NB254_263.out
      have hnc227 := NB263_254.out
      have hcz228_0 : wc.cell? ⟨gb254, 0, none⟩ = some (.int .i64 t249) := (blk_cell BK254.out 0).trans rfl
      have hcz228_1 : wc.cell? ⟨gb254, 1, none⟩ = some (.int .i64 t250) := (blk_cell BK254.out 1).trans rfl
      have hfz228_0 := blk_frozen BK254.out 0
      have hfz228_1 := blk_frozen BK254.out 1
      go_wp2_with (first | ((with_reducible refine gate_callee (f := 23) rfl ?_); refine gq_ (some 59) rfl rfl Try.func23 #[.agg #[.int .i64 t256, .int .i64 t257], .agg #[.int .i64 t249, .int .i64 t250], .int .i64 t255] rfl ?_; (with_reducible refine (rounding_Round.calls kj9 t256 t257 t249 t250 t255 t266 t267 t268 _ A52.out).mono ?_); rintro e w229 ⟨rfl, hb⟩; refine ⟨_, rfl, ?_⟩; replace BK252 := tb_ BK252 hb; replace BK253 := tb_ BK253 hb; replace BK254 := tb_ BK254 hb; replace BK259 := tb_ BK259 hb; replace BK263 := tb_ BK263 hb; replace HB := ts_ HB hb; (try clear hb); (try clear hb2); (try clear hk); (try clear hi)) | ((with_reducible refine gate_dst (N := 14) rfl ?_); refine bx_ (N := 14) (cs := #[.int .i64 0, .int .i64 0]) (t := 41) ?_; intro gb269 hg w230 hbox hb; have BK269 := Aside0.mk (hbox); have GW269 := sz_ HB hg; have GE269 := sz_ HB hg; have NB252_269 := nl_ BK252 hg; have NB269_252 := nr_ BK252 hg; have NB253_269 := nl_ BK253 hg; have NB269_253 := nr_ BK253 hg; have NB254_269 := nl_ BK254 hg; have NB269_254 := nr_ BK254 hg; have NB259_269 := nl_ BK259 hg; have NB269_259 := nr_ BK259 hg; have NB263_269 := nl_ BK263 hg; have NB269_263 := nr_ BK263 hg; replace BK252 := tb_ BK252 hb; replace BK253 := tb_ BK253 hb; replace BK254 := tb_ BK254 hb; replace BK259 := tb_ BK259 hb; replace BK263 := tb_ BK263 hb; replace HB := ts_ HB hb; clear hb hbox hg; have hnb231 := NB269_252.out; have hnc231 := NB252_269.out; have hnb232 := NB269_253.out; have hnc232 := NB253_269.out; have hnb233 := NB269_254.out; have hnc233 := NB254_269.out; have hnb234 := NB269_259.out; have hnc234 := NB259_269.out; have hnb235 := NB269_263.out; have hnc235 := NB263_269.out; have hcz236_0 : w230.cell? ⟨gb269, 0, none⟩ = some (.int .i64 0) := (blk_cell BK269.out 0).trans rfl; have hcz236_1 : w230.cell? ⟨gb269, 1, none⟩ = some (.int .i64 0) := (blk_cell BK269.out 1).trans rfl; have hfz236_0 := blk_frozen BK269.out 0; have hfz236_1 := blk_frozen BK269.out 1; have hnb237 := NB252_253.out; have hnc237 := NB253_252.out; have hnb238 := NB252_263.out; have hnc238 := NB263_252.out; have hcz239_0 : w230.cell? ⟨gb252, 0, none⟩ = some (.int .i64 t243) := (blk_cell BK252.out 0).trans rfl; have hcz239_1 : w230.cell? ⟨gb252, 1, none⟩ = some (.int .i64 t244) := (blk_cell BK252.out 1).trans rfl; have hfz239_0 := blk_frozen BK252.out 0; have hfz239_1 := blk_frozen BK252.out 1; have hnb240 := NB253_263.out; have hnc240 := NB263_253.out; have hcz241_0 : w230.cell? ⟨gb253, 0, none⟩ = some (.int .i64 t246) := (blk_cell BK253.out 0).trans rfl; have hcz241_1 : w230.cell? ⟨gb253, 1, none⟩ = some (.int .i64 t247) := (blk_cell BK253.out 1).trans rfl; have hfz241_0 := blk_frozen BK253.out 0; have hfz241_1 := blk_frozen BK253.out 1) | ((with_reducible refine gate_callee (f := 24) rfl ?_); refine gq_ (some 64) rfl rfl Try.func24 #[.agg #[.int .i64 t243, .int .i64 t244], .agg #[.int .i64 t246, .int .i64 t247]] rfl ?_; (with_reducible refine (ratio_Compare.calls kj9 t243 t244 t246 t247 t270 _ A53.out).mono ?_); rintro e w242 ⟨rfl, hb⟩; refine ⟨_, rfl, ?_⟩; replace BK252 := tb_ BK252 hb; replace BK253 := tb_ BK253 hb; replace BK254 := tb_ BK254 hb; replace BK259 := tb_ BK259 hb; replace BK263 := tb_ BK263 hb; replace BK269 := tb_ (o' := .cells #[.int .i64 t266, .int .i64 t267] 41 (0, 0)) BK269 hb; replace HB := ts_ HB hb; (try clear hb); (try clear hb2); (try clear hk); (try clear hi); have hcz243_0 : w242.cell? ⟨gb259, 0, none⟩ = some (.int .i64 t256) := (blk_cell BK259.out 0).trans rfl; have hcz243_1 : w242.cell? ⟨gb259, 1, none⟩ = some (.int .i64 t257) := (blk_cell BK259.out 1).trans rfl; have hfz243_0 := blk_frozen BK259.out 0; have hfz243_1 := blk_frozen BK259.out 1; have hcz244_0 : w242.cell? ⟨gb263, 0, none⟩ = some (.int .i64 t260) := (blk_cell BK263.out 0).trans rfl; have hcz244_1 : w242.cell? ⟨gb263, 1, none⟩ = some (.int .i64 t261) := (blk_cell BK263.out 1).trans rfl; have hfz244_0 := blk_frozen BK263.out 0; have hfz244_1 := blk_frozen BK263.out 1) | (go_at_call 24; (with_reducible refine (ratio_Compare.calls kj9 t256 t257 t260 t261 t272 _ A132.out).mono ?_); rintro e w245 ⟨rfl, hb⟩; replace BK252 := tb_ BK252 hb; replace BK253 := tb_ BK253 hb; replace BK254 := tb_ BK254 hb; replace BK259 := tb_ BK259 hb; replace BK263 := tb_ BK263 hb; replace BK269 := tb_ BK269 hb; replace HB := ts_ HB hb; (try clear hb); (try clear hb2); (try clear hk); (try clear hi)))
      go_ret
      exact ⟨by first | rfl | (simp [errW_none, errW_some] <;> rfl) | (simp [*, errW_none, errW_some] <;> rfl), be_ HB⟩

/-- THE ONE PURE STATEMENT of payrolllaw2_RoundingMonotone: yours. -/
def payrolllaw2_RoundingMonotone.Pure : Prop := ∀ (l0 : List Int) (a1 : Int), l0.length ≤ maxLen → l0.length * 8 ≤ 140737488351232 → (∀ x ∈ l0, (Lit.int .i64 x).wf = true) → (Lit.int .i64 a1).wf = true → ∃ k, payrolllaw2_RoundingMonotone.f k l0 a1 = some true
theorem payrolllaw2_RoundingMonotone.walk (P : payrolllaw2_RoundingMonotone.Pure) (a0 : Option Addr) (len0 cap0 : Nat) (z0 : List Int) (a1 : Int) (w : World) (w0 : (a0 = none ∧ len0 = 0 ∧ cap0 = 0 ∧ z0 = []) ∨ ∃ x, a0 = some x ∧ len0 ≤ cap0 ∧ cap0 ≤ maxLen ∧ z0.length = cap0 ∧ (∀ i, i < z0.length → w.cell? (x.add i) = some (.int .i64 (z0.getD i 0))) ∧ ∀ n ∈ z0, (Lit.int .i64 n).wf = true) (y0 : len0 * 8 ≤ 140737488351232) (w1 : (Lit.int .i64 a1).wf = true) :
 Calls Try.prog 7 #[.slice a0 len0 cap0, .int .i64 a1] w fun e w' => e = .returned (.bool true) ∧ Below w.heap.size w w' := by
 obtain ⟨l0, rfl, hr0, hm0, hw0, hc0⟩ := ReadsInt.ofRowC w0
 obtain ⟨k, h⟩ := P l0 a1 hm0 y0 hw0 w1
 refine (payrolllaw2_RoundingMonotone.calls k _ _ l0 a1 true w (Kd.C_of_reads (d := (0 : Int)) (h1 := fun _ => rfl) hr0) hc0 h).mono ?_
 rintro e w' ⟨rfl, hd⟩
 exact ⟨rfl, hd⟩

end Go.Proofs.Ytcipegkeoheikaa.PM
