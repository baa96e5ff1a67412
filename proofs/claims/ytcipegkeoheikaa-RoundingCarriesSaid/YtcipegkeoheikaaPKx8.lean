-- Written by a program of this session: the machine side of the proofs, out of Lean's own print of the program. Lean checks it.
import Derived.Test.YtcipegkeoheikaaPKx0
import Derived.Test.YtcipegkeoheikaaPKx1
import Derived.Test.YtcipegkeoheikaaPKx2
import Derived.Test.YtcipegkeoheikaaPKx6
import Derived.Test.YtcipegkeoheikaaPKx7
namespace Go.Proofs.Ytcipegkeoheikaa.PK
open Go.RowKit Go.Proofs.YtcipegkeoheikaaW.PrintWords Go.Proofs.YtcipegkeoheikaaW.PrintLast Go.Proofs.YtcipegkeoheikaaW.PrintMore
attribute [local go_sem] max2_int min2_int max_two min_two max_three min_three max_four min_four   -- for this text's walks alone
set_option linter.unusedVariables false
set_option linter.unusedSimpArgs false

attribute [local go_sem high] eqA41
/-! ### payrolllaw2_RoundingCarries: function 10 -/
mutual
def payrolllaw2_RoundingCarries.l0 : Nat → Int → Int → List Int → Int → Int → Int → Int → Int → Int → Int → Int → Int → Option (Bool)
 | 0, _, _, _, _, _, _, _, _, _, _, _, _ => none
 | k + 1, x1, x10, x244000, x244001, x248000, x248001, x249000, x249001, x250000, x250001, x251000, x251001 => if x10 < 6 then ((payrollgen_Tape_Next.f x244000 x244001 2001).bind fun bt251 => ((payrollgen_Tape_Pick.f x244000 bt251.2 (([3, 7, 100, 1] : List Int))).bind fun bt256 => ((payrollref1_New.f k (wrap64 (bt251.1 - 1000)) bt256.1).bind fun bt258 => ((payrollgen_Mod.f x1 7).bind fun t262 => ((rounding_Carry.f k x249000 x249001 bt258.1 bt258.2.1 x248000 x248001 t262).bind fun bt263 => (if bt263.2.2.2.2 = 0 then ((ratio_Compare.f k bt263.2.2.1 bt263.2.2.2.1 x248000 x248001).bind fun t270 => (if t270 ≥ 0 then (payrolllaw2_RoundingCarries.j1 k x1 x10 true x244000 bt256.2 x248000 x248001 x250000 x250001 x251000 x251001 bt258.1 bt258.2.1 bt263.1 bt263.2.1 bt263.2.2.1 bt263.2.2.2.1) else ((ratio_Compare.f k (wrap64 (-x248000)) x248001 bt263.2.2.1 bt263.2.2.2.1).bind fun t271 => (payrolllaw2_RoundingCarries.j1 k x1 x10 (decide (t271 ≥ 0)) x244000 bt256.2 x248000 x248001 x250000 x250001 x251000 x251001 bt258.1 bt258.2.1 bt263.1 bt263.2.1 bt263.2.2.1 bt263.2.2.2.1)))) else (payrolllaw2_RoundingCarries.j1 k x1 x10 true x244000 bt256.2 x248000 x248001 x250000 x250001 x251000 x251001 bt258.1 bt258.2.1 bt263.1 bt263.2.1 bt263.2.2.1 bt263.2.2.2.1))))))) else ((payrollref1_Add.f k x250000 x250001 x249000 x249001).bind fun bt278 => (if bt278.2.2 = 0 then (if (bt278.1 == x251000 && (bt278.2.1 == x251001)) = true then ((payrolllaw2_sane.f k).bind fun t282 => (some t282)) else (some false)) else (some false)))
def payrolllaw2_RoundingCarries.j1 : Nat → Int → Int → Bool → List Int → Int → Int → Int → Int → Int → Int → Int → Int → Int → Int → Int → Int → Int → Option (Bool)
 | 0, _, _, _, _, _, _, _, _, _, _, _, _, _, _, _, _, _ => none
 | k + 1, x1, x10, x67, x244000, x244001, x248000, x248001, x250000, x250001, x251000, x251001, x262000, x262001, x269000, x269001, x270000, x270001 => if x67 = true then (some false) else ((payrollref1_Add.f k x250000 x250001 x269000 x269001).bind fun bt272 => ((payrollref1_Add.f k x251000 x251001 x262000 x262001).bind fun bt275 => (payrolllaw2_RoundingCarries.l0 k x1 (wrap64 (x10 + 1)) x244000 x244001 x248000 x248001 x270000 x270001 bt272.1 bt272.2.1 bt275.1 bt275.2.1)))
end
def payrolllaw2_RoundingCarries.f (k : Nat) (l0 : List Int) (a1 : Int) : Option (Bool) := (payrollgen_New.f l0).bind fun bt241 => ((payrollgen_Tape_Step.f k bt241.1 bt241.2).bind fun bt244 => (payrolllaw2_RoundingCarries.l0 k a1 0 bt241.1 bt244.2.2 bt244.1 bt244.2.1 0 1 0 1 0 1))
theorem payrolllaw2_RoundingCarries.mono_l : ∀ k, (∀ y0 y1 y2 y3 y4 y5 y6 y7 y8 y9 y10 y11, LeO (payrolllaw2_RoundingCarries.l0 k y0 y1 y2 y3 y4 y5 y6 y7 y8 y9 y10 y11) (payrolllaw2_RoundingCarries.l0 (k + 1) y0 y1 y2 y3 y4 y5 y6 y7 y8 y9 y10 y11)) ∧ (∀ y0 y1 y2 y3 y4 y5 y6 y7 y8 y9 y10 y11 y12 y13 y14 y15 y16, LeO (payrolllaw2_RoundingCarries.j1 k y0 y1 y2 y3 y4 y5 y6 y7 y8 y9 y10 y11 y12 y13 y14 y15 y16) (payrolllaw2_RoundingCarries.j1 (k + 1) y0 y1 y2 y3 y4 y5 y6 y7 y8 y9 y10 y11 y12 y13 y14 y15 y16))
 | 0 => ⟨fun _ _ _ _ _ _ _ _ _ _ _ _ r h => by simp [payrolllaw2_RoundingCarries.l0] at h, fun _ _ _ _ _ _ _ _ _ _ _ _ _ _ _ _ _ r h => by simp [payrolllaw2_RoundingCarries.j1] at h⟩
 | k + 1 => by
  obtain ⟨ih0, ih1⟩ := payrolllaw2_RoundingCarries.mono_l k
  refine ⟨?_, ?_⟩
  ·
   intro y0 y1 y2 y3 y4 y5 y6 y7 y8 y9 y10 y11
   unfold payrolllaw2_RoundingCarries.l0
   repeat' first
   | (with_reducible exact ih0 _ _ _ _ _ _ _ _ _ _ _ _)
   | (with_reducible exact ih1 _ _ _ _ _ _ _ _ _ _ _ _ _ _ _ _ _)
   | (with_reducible exact payrollgen_Tape_Step.mono _ _ _)
   | (with_reducible exact payrolllaw2_sane.mono _)
   | (with_reducible exact payrollref1_Add.mono _ _ _ _ _)
   | (with_reducible exact payrollref1_New.mono _ _ _)
   | (with_reducible exact ratio_Compare.mono _ _ _ _ _)
   | (with_reducible exact rounding_Carry.mono _ _ _ _ _ _ _ _)
   | (with_reducible exact LeO.refl _)
   | (with_reducible exact LeO.none _)
   | (with_reducible refine LeO.ite ?_ ?_)
   | (with_reducible refine LeO.bind ?_ (fun _ => ?_))
   | exact ih0 _ _ _ _ _ _ _ _ _ _ _ _
   | exact ih1 _ _ _ _ _ _ _ _ _ _ _ _ _ _ _ _ _
   | exact payrollgen_Tape_Step.mono _ _ _
   | exact payrolllaw2_sane.mono _
   | exact payrollref1_Add.mono _ _ _ _ _
   | exact payrollref1_New.mono _ _ _
   | exact ratio_Compare.mono _ _ _ _ _
   | exact rounding_Carry.mono _ _ _ _ _ _ _ _
   | exact LeO.none _
   | refine LeO.ite ?_ ?_
   | refine LeO.bind ?_ (fun _ => ?_)
  ·
   intro y0 y1 y2 y3 y4 y5 y6 y7 y8 y9 y10 y11 y12 y13 y14 y15 y16
   unfold payrolllaw2_RoundingCarries.j1
   repeat' first
   | (with_reducible exact ih0 _ _ _ _ _ _ _ _ _ _ _ _)
   | (with_reducible exact ih1 _ _ _ _ _ _ _ _ _ _ _ _ _ _ _ _ _)
   | (with_reducible exact payrollgen_Tape_Step.mono _ _ _)
   | (with_reducible exact payrolllaw2_sane.mono _)
   | (with_reducible exact payrollref1_Add.mono _ _ _ _ _)
   | (with_reducible exact payrollref1_New.mono _ _ _)
   | (with_reducible exact ratio_Compare.mono _ _ _ _ _)
   | (with_reducible exact rounding_Carry.mono _ _ _ _ _ _ _ _)
   | (with_reducible exact LeO.refl _)
   | (with_reducible exact LeO.none _)
   | (with_reducible refine LeO.ite ?_ ?_)
   | (with_reducible refine LeO.bind ?_ (fun _ => ?_))
   | exact ih0 _ _ _ _ _ _ _ _ _ _ _ _
   | exact ih1 _ _ _ _ _ _ _ _ _ _ _ _ _ _ _ _ _
   | exact payrollgen_Tape_Step.mono _ _ _
   | exact payrolllaw2_sane.mono _
   | exact payrollref1_Add.mono _ _ _ _ _
   | exact payrollref1_New.mono _ _ _
   | exact ratio_Compare.mono _ _ _ _ _
   | exact rounding_Carry.mono _ _ _ _ _ _ _ _
   | exact LeO.none _
   | refine LeO.ite ?_ ?_
   | refine LeO.bind ?_ (fun _ => ?_)
theorem payrolllaw2_RoundingCarries.mono : ∀ a0 a1 k, LeO (payrolllaw2_RoundingCarries.f k a0 a1) (payrolllaw2_RoundingCarries.f (k + 1) a0 a1) := by
 intro a0 a1 k
 obtain ⟨ih0, ih1⟩ := payrolllaw2_RoundingCarries.mono_l k
 unfold payrolllaw2_RoundingCarries.f
 repeat' first
  | (with_reducible exact ih0 _ _ _ _ _ _ _ _ _ _ _ _)
  | (with_reducible exact ih1 _ _ _ _ _ _ _ _ _ _ _ _ _ _ _ _ _)
  | (with_reducible exact payrollgen_Tape_Step.mono _ _ _)
  | (with_reducible exact payrolllaw2_sane.mono _)
  | (with_reducible exact payrollref1_Add.mono _ _ _ _ _)
  | (with_reducible exact payrollref1_New.mono _ _ _)
  | (with_reducible exact ratio_Compare.mono _ _ _ _ _)
  | (with_reducible exact rounding_Carry.mono _ _ _ _ _ _ _ _)
  | (with_reducible exact LeO.refl _)
  | (with_reducible exact LeO.none _)
  | (with_reducible refine LeO.ite ?_ ?_)
  | (with_reducible refine LeO.bind ?_ (fun _ => ?_))
  | exact ih0 _ _ _ _ _ _ _ _ _ _ _ _
  | exact ih1 _ _ _ _ _ _ _ _ _ _ _ _ _ _ _ _ _
  | exact payrollgen_Tape_Step.mono _ _ _
  | exact payrolllaw2_sane.mono _
  | exact payrollref1_Add.mono _ _ _ _ _
  | exact payrollref1_New.mono _ _ _
  | exact ratio_Compare.mono _ _ _ _ _
  | exact rounding_Carry.mono _ _ _ _ _ _ _ _
  | exact LeO.none _
  | refine LeO.ite ?_ ?_
  | refine LeO.bind ?_ (fun _ => ?_)
def payrolllaw2_RoundingCarries.T8 : Bool × List (List Nat × List Nat) := (true, [([], []), ([], []), ([], []), ([], []), ([3], [3]), ([0, 1, 2, 4, 4], [0, 1, 2, 4]), ([5], [5]), ([6], [6]), ([6], [6]), ([6], [6]), ([], []), ([], []), ([10, 7, 5, 0, 1, 2, 3, 4, 5, 6, 7, 10, 11], [7, 10]), ([11, 8, 12, 0, 1, 2, 3, 4, 5, 6, 7, 8, 10, 11, 12], [8, 11]), ([9, 13, 0, 1, 2, 3, 4, 5, 6, 7, 8, 9, 10, 11, 12, 13], [9])])
def payrolllaw2_RoundingCarries.B8 : List Nat := [0, 0, 0, 0, 8, 31, 63, 127, 127, 127, 0, 0, 3327, 7679, 16383]
theorem payrolllaw2_RoundingCarries.tab8 : rtab .any (opsOf Try.f10 8) = payrolllaw2_RoundingCarries.T8 := by kernel_rfl
theorem payrolllaw2_RoundingCarries.bits8 : waitsOk payrolllaw2_RoundingCarries.T8.2 payrolllaw2_RoundingCarries.B8 = true := by kernel_rfl
set_option maxHeartbeats 8000000 in
set_option maxRecDepth 100000 in
theorem payrolllaw2_RoundingCarries.calls (k : Nat) (A0 : Option Addr) (c0 : Nat) (l0 : List Int) (a1 : Int) (r : Bool) (w : World) (hr0 : Kd.C (Kd.int .i64) w A0 l0.length l0) (hc0 : l0.length ≤ c0) (h : payrolllaw2_RoundingCarries.f k l0 a1 = some r) :
 Calls Try.prog 10 #[.slice A0 l0.length c0, .int .i64 a1] w fun e w' => e = .returned (.bool r) ∧ Below w.heap.size w w' := by
 have hu41 := Try.underlying41
 have HR0 := Aside0.mk hr0
 have HC0 := Aside0.mk hc0
 clear hr0 hc0
 have HB := Aside0.mk (Below.refl w.heap.size w)
 have H : ((payrollgen_New.f l0).bind fun bt241 => ((payrollgen_Tape_Step.f k bt241.1 bt241.2).bind fun bt244 => (payrolllaw2_RoundingCarries.l0 k a1 0 bt241.1 bt244.2.2 bt244.1 bt244.2.1 0 1 0 1 0 1))) = some r := h
 clear h
 replace H := Option.bind_eq_some_iff.mp H
 obtain ⟨⟨t241, t242⟩, A30, H⟩ := H
 replace H : ((payrollgen_Tape_Step.f k t241 t242).bind fun bt244 => (payrolllaw2_RoundingCarries.l0 k a1 0 t241 bt244.2.2 bt244.1 bt244.2.1 0 1 0 1 0 1)) = some r := H
 have A3 := Aside0.mk A30
 clear A30
 replace H := Option.bind_eq_some_iff.mp H
 obtain ⟨⟨t244, t245, t246⟩, A40, H⟩ := H
 replace H : (payrolllaw2_RoundingCarries.l0 k a1 0 t241 t246 t244 t245 0 1 0 1 0 1) = some r := H
 have A4 := Aside0.mk A40
 clear A40
 have H' := Aside0.mk H
 clear H
 go_enter Try.func10, Try.ntmps10
 go_wp2_with (first | ((with_reducible refine gate_callee (f := 11) rfl ?_); refine gq_ (some 19) rfl rfl Try.func11 #[.slice A0 l0.length c0] rfl ?_; (with_reducible refine (payrollgen_New.calls _ _ l0 t241 t242 w _ ?side1 ?side2 ?side3 A3.out).mono ?_); (case side1 => exact be_ HB); (case side2 => exact HR0.out); (case side3 => exact HC0.out); rintro e w5 ⟨g243, rfl, hi, hb, hb2⟩; refine ⟨_, rfl, ?_⟩; have HI243 := Aside0.mk (hi); replace HB := Aside0.mk (hb); (try clear hb); (try clear hb2); (try clear hk); (try clear hi)) | ((with_reducible refine gate_callee (f := 22) rfl ?_); refine gq_ (some 21) rfl rfl Try.func22 #[.pointer (some ⟨g243, 0, none⟩)] rfl ?_; (with_reducible refine (payrollgen_Tape_Step.calls k g243 t241 t242 t244 t245 t246 w _ ?side1 ?side2 A4.out).mono ?_); (case side1 => exact IsS53.aq_ HI243); (case side2 => exact IsS53.bs_ HI243 HB); rintro e w6 ⟨rfl, hi, hb, hk⟩; refine ⟨_, rfl, ?_⟩; replace HB := Aside0.mk (hb); replace HI243 := Aside0.mk (hi); (try clear hb); (try clear hb2); (try clear hk); (try clear hi)) | ((with_reducible refine gate_dst (N := 6) rfl ?_); refine bx_ (N := 6) (cs := #[.int .i64 0, .int .i64 0]) (t := 41) ?_; intro gb247 hg w7 hbox hb; have BK247 := Aside0.mk (hbox); have GW247 := IsS53.sz_ HI243 HB hg; have GE247 := IsS53.sz_ HI243 HB hg; have NB243_247 := IsS53.nl_ HI243 hg; have NB247_243 := IsS53.nr_ HI243 hg; replace HB := IsS53.ts_ HI243 HB hb; replace HI243 := IsS53.tb_ HI243 hb; clear hb hbox hg; have hnb8 := NB247_243.out; have hnc8 := NB243_247.out; have hcz9_0 : w7.cell? ⟨gb247, 0, none⟩ = some (.int .i64 0) := (blk_cell BK247.out 0).trans rfl; have hcz9_1 : w7.cell? ⟨gb247, 1, none⟩ = some (.int .i64 0) := (blk_cell BK247.out 1).trans rfl; have hfz9_0 := blk_frozen BK247.out 0; have hfz9_1 := blk_frozen BK247.out 1) | ((with_reducible refine gate_dst (N := 7) rfl ?_); refine bx_ (N := 7) (cs := #[.int .i64 0, .int .i64 0]) (t := 41) ?_; intro gb248 hg w10 hbox hb; have BK248 := Aside0.mk (hbox); have GW248 := IsS53.sz_ HI243 HB hg; have GE248 := IsS53.sz_ HI243 HB hg; have NB247_248 := nl_ BK247 hg; have NB248_247 := nr_ BK247 hg; have NB243_248 := IsS53.nl_ HI243 hg; have NB248_243 := IsS53.nr_ HI243 hg; replace BK247 := tb_ (o' := .cells #[.int .i64 t244, .int .i64 t245] 41 (0, 0)) BK247 hb; replace HB := IsS53.ts_ HI243 HB hb; replace HI243 := IsS53.tb_ HI243 hb; clear hb hbox hg) | ((with_reducible refine gate_dst (N := 8) rfl ?_); refine bx_ (N := 8) (cs := #[.int .i64 0, .int .i64 0]) (t := 41) ?_; intro gb249 hg w11 hbox hb; have BK249 := Aside0.mk (hbox); have GW249 := IsS53.sz_ HI243 HB hg; have GE249 := IsS53.sz_ HI243 HB hg; have NB247_249 := nl_ BK247 hg; have NB249_247 := nr_ BK247 hg; have NB248_249 := nl_ BK248 hg; have NB249_248 := nr_ BK248 hg; have NB243_249 := IsS53.nl_ HI243 hg; have NB249_243 := IsS53.nr_ HI243 hg; replace BK247 := tb_ BK247 hb; replace BK248 := tb_ BK248 hb; replace HB := IsS53.ts_ HI243 HB hb; replace HI243 := IsS53.tb_ HI243 hb; clear hb hbox hg) | ((with_reducible refine gate_dst (N := 9) rfl ?_); refine bx_ (N := 9) (cs := #[.int .i64 0, .int .i64 0]) (t := 41) ?_; intro gb250 hg w12 hbox hb; have BK250 := Aside0.mk (hbox); have GW250 := IsS53.sz_ HI243 HB hg; have GE250 := IsS53.sz_ HI243 HB hg; have NB247_250 := nl_ BK247 hg; have NB250_247 := nr_ BK247 hg; have NB248_250 := nl_ BK248 hg; have NB250_248 := nr_ BK248 hg; have NB249_250 := nl_ BK249 hg; have NB250_249 := nr_ BK249 hg; have NB243_250 := IsS53.nl_ HI243 hg; have NB250_243 := IsS53.nr_ HI243 hg; replace BK247 := tb_ BK247 hb; replace BK248 := tb_ BK248 hb; replace BK249 := tb_ BK249 hb; replace HB := IsS53.ts_ HI243 HB hb; replace HI243 := IsS53.tb_ HI243 hb; clear hb hbox hg; have hnb13 := NB248_247.out; have hnc13 := NB247_248.out; have hnb14 := NB248_249.out; have hnc14 := NB249_248.out; have hnb15 := NB248_250.out; have hnc15 := NB250_248.out; have hnb16 := NB248_243.out; have hnc16 := NB243_248.out; have hcz17_0 : w12.cell? ⟨gb248, 0, none⟩ = some (.int .i64 0) := (blk_cell BK248.out 0).trans rfl; have hcz17_1 : w12.cell? ⟨gb248, 1, none⟩ = some (.int .i64 0) := (blk_cell BK248.out 1).trans rfl; have hfz17_0 := blk_frozen BK248.out 0; have hfz17_1 := blk_frozen BK248.out 1; have hnb18 := NB249_247.out; have hnc18 := NB247_249.out; have hnb19 := NB249_250.out; have hnc19 := NB250_249.out; have hnb20 := NB249_243.out; have hnc20 := NB243_249.out; have hcz21_0 : w12.cell? ⟨gb249, 0, none⟩ = some (.int .i64 0) := (blk_cell BK249.out 0).trans rfl; have hcz21_1 : w12.cell? ⟨gb249, 1, none⟩ = some (.int .i64 0) := (blk_cell BK249.out 1).trans rfl; have hfz21_0 := blk_frozen BK249.out 0; have hfz21_1 := blk_frozen BK249.out 1; have hnb22 := NB250_247.out; have hnc22 := NB247_250.out; have hnb23 := NB250_243.out; have hnc23 := NB243_250.out; have hcz24_0 : w12.cell? ⟨gb250, 0, none⟩ = some (.int .i64 0) := (blk_cell BK250.out 0).trans rfl; have hcz24_1 : w12.cell? ⟨gb250, 1, none⟩ = some (.int .i64 0) := (blk_cell BK250.out 1).trans rfl; have hfz24_0 := blk_frozen BK250.out 0; have hfz24_1 := blk_frozen BK250.out 1))
 go_loopg [10] k (fun kq v10 w' => ∃ (x10_1 : Int) (x244001_1 : Int) (x249000_1 : Int) (x249001_1 : Int) (x250000_1 : Int) (x250001_1 : Int) (x251000_1 : Int) (x251001_1 : Int), v10 = .int .i64 x10_1 ∧ Aside0 (payrolllaw2_RoundingCarries.l0 kq a1 x10_1 t241 x244001_1 t244 t245 x249000_1 x249001_1 x250000_1 x250001_1 x251000_1 x251001_1 = some r) ∧ Aside0 (kq ≤ k) ∧ Aside0 (w'.heap[gb247]? = some (.cells #[.int .i64 t244, .int .i64 t245] 41 (0, 0))) ∧ Aside0 (w'.heap[gb248]? = some (.cells #[.int .i64 x249000_1, .int .i64 x249001_1] 41 (0, 0))) ∧ Aside0 (w'.heap[gb249]? = some (.cells #[.int .i64 x250000_1, .int .i64 x250001_1] 41 (0, 0))) ∧ Aside0 (w'.heap[gb250]? = some (.cells #[.int .i64 x251000_1, .int .i64 x251001_1] 41 (0, 0))) ∧ Aside0 (IsS53 w w' g243 t241 x244001_1) ∧ Aside0 (Below w.heap.size w w'))
 case atStart => exact ⟨(0), (t246), (0), (1), (0), (1), (0), (1), (by first | rfl | (simp; done) | (simp [*]; done)), H', ⟨Nat.le_refl _⟩, ⟨by (with_reducible repeat (first | refine blk_drewN ?_ _ | refine blk_drew ?_ | refine blk_alloc ?_ _)); refine blk_far ?_ NB247_250.out _; (with_reducible repeat (first | refine blk_drewN ?_ _ | refine blk_drew ?_ | refine blk_alloc ?_ _)); refine blk_far ?_ NB247_250.out _; (with_reducible repeat (first | refine blk_drewN ?_ _ | refine blk_drew ?_ | refine blk_alloc ?_ _)); refine blk_far ?_ NB247_249.out _; (with_reducible repeat (first | refine blk_drewN ?_ _ | refine blk_drew ?_ | refine blk_alloc ?_ _)); refine blk_far ?_ NB247_249.out _; (with_reducible repeat (first | refine blk_drewN ?_ _ | refine blk_drew ?_ | refine blk_alloc ?_ _)); refine blk_far ?_ NB247_248.out _; (with_reducible repeat (first | refine blk_drewN ?_ _ | refine blk_drew ?_ | refine blk_alloc ?_ _)); refine blk_far ?_ NB247_248.out _; (with_reducible repeat (first | refine blk_drewN ?_ _ | refine blk_drew ?_ | refine blk_alloc ?_ _)); exact BK247.out⟩, ⟨by (with_reducible repeat (first | refine blk_drewN ?_ _ | refine blk_drew ?_ | refine blk_alloc ?_ _)); refine blk_far ?_ NB248_250.out _; (with_reducible repeat (first | refine blk_drewN ?_ _ | refine blk_drew ?_ | refine blk_alloc ?_ _)); refine blk_far ?_ NB248_250.out _; (with_reducible repeat (first | refine blk_drewN ?_ _ | refine blk_drew ?_ | refine blk_alloc ?_ _)); refine blk_far ?_ NB248_249.out _; (with_reducible repeat (first | refine blk_drewN ?_ _ | refine blk_drew ?_ | refine blk_alloc ?_ _)); refine blk_far ?_ NB248_249.out _; (with_reducible repeat (first | refine blk_drewN ?_ _ | refine blk_drew ?_ | refine blk_alloc ?_ _)); refine blk_put (cs := #[.int .i64 0, .int .i64 0]) ?_ 1 _ rfl; (with_reducible repeat (first | refine blk_drewN ?_ _ | refine blk_drew ?_ | refine blk_alloc ?_ _)); refine blk_put (cs := #[.int .i64 0, .int .i64 0]) ?_ 0 _ rfl; (with_reducible repeat (first | refine blk_drewN ?_ _ | refine blk_drew ?_ | refine blk_alloc ?_ _)); exact BK248.out⟩, ⟨by (with_reducible repeat (first | refine blk_drewN ?_ _ | refine blk_drew ?_ | refine blk_alloc ?_ _)); refine blk_far ?_ NB249_250.out _; (with_reducible repeat (first | refine blk_drewN ?_ _ | refine blk_drew ?_ | refine blk_alloc ?_ _)); refine blk_far ?_ NB249_250.out _; (with_reducible repeat (first | refine blk_drewN ?_ _ | refine blk_drew ?_ | refine blk_alloc ?_ _)); refine blk_put (cs := #[.int .i64 0, .int .i64 0]) ?_ 1 _ rfl; (with_reducible repeat (first | refine blk_drewN ?_ _ | refine blk_drew ?_ | refine blk_alloc ?_ _)); refine blk_put (cs := #[.int .i64 0, .int .i64 0]) ?_ 0 _ rfl; (with_reducible repeat (first | refine blk_drewN ?_ _ | refine blk_drew ?_ | refine blk_alloc ?_ _)); refine blk_far ?_ NB249_248.out _; (with_reducible repeat (first | refine blk_drewN ?_ _ | refine blk_drew ?_ | refine blk_alloc ?_ _)); refine blk_far ?_ NB249_248.out _; (with_reducible repeat (first | refine blk_drewN ?_ _ | refine blk_drew ?_ | refine blk_alloc ?_ _)); exact BK249.out⟩, ⟨by (with_reducible repeat (first | refine blk_drewN ?_ _ | refine blk_drew ?_ | refine blk_alloc ?_ _)); refine blk_put (cs := #[.int .i64 0, .int .i64 0]) ?_ 1 _ rfl; (with_reducible repeat (first | refine blk_drewN ?_ _ | refine blk_drew ?_ | refine blk_alloc ?_ _)); refine blk_put (cs := #[.int .i64 0, .int .i64 0]) ?_ 0 _ rfl; (with_reducible repeat (first | refine blk_drewN ?_ _ | refine blk_drew ?_ | refine blk_alloc ?_ _)); refine blk_far ?_ NB250_249.out _; (with_reducible repeat (first | refine blk_drewN ?_ _ | refine blk_drew ?_ | refine blk_alloc ?_ _)); refine blk_far ?_ NB250_249.out _; (with_reducible repeat (first | refine blk_drewN ?_ _ | refine blk_drew ?_ | refine blk_alloc ?_ _)); refine blk_far ?_ NB250_248.out _; (with_reducible repeat (first | refine blk_drewN ?_ _ | refine blk_drew ?_ | refine blk_alloc ?_ _)); refine blk_far ?_ NB250_248.out _; (with_reducible repeat (first | refine blk_drewN ?_ _ | refine blk_drew ?_ | refine blk_alloc ?_ _)); exact BK250.out⟩, ⟨by repeat (first | (with_reducible first | exact HI243.out | apply IsS53.alloc | apply IsS53.drewN | apply IsS53.drew | apply IsS53.set_1 | refine IsS53.far ?_ NB243_247.out _ | refine IsS53.far ?_ NB243_248.out _ | refine IsS53.far ?_ NB243_249.out _ | refine IsS53.far ?_ NB243_250.out _) | exact HI243.out)⟩, ⟨by repeat (first | (with_reducible first | exact HB.out | apply below_alloc | apply pw_below_drewN | apply below_drew1 | refine below_set ?_ (IsS53.ge HI243.out) | refine below_set ?_ GE247.out | refine below_set ?_ GE248.out | refine below_set ?_ GE249.out | refine below_set ?_ GE250.out) | exact HB.out)⟩⟩
 case round =>
  clear H'
  try clear c1
  try clear c2
  try clear p2
  try clear c8
  try clear c10
  try clear c11
  try clear c13
  try clear c14
  try clear c15
  try clear c16
  try clear c18
  try clear c19
  try clear c20
  try clear c22
  try clear c23
  try clear hcz17_0
  try clear hcz17_1
  try clear hcz21_0
  try clear hcz21_1
  try clear hcz24_0
  try clear hcz24_1
  try clear hcz9_0
  try clear hcz9_1
  try clear hfz17_0
  try clear hfz17_1
  try clear hfz21_0
  try clear hfz21_1
  try clear hfz24_0
  try clear hfz24_1
  try clear hfz9_0
  try clear hfz9_1
  obtain ⟨x10_1, x244001_1, x249000_1, x249001_1, x250000_1, x250001_1, x251000_1, x251001_1, rfl, HA, HK1, BK247, BK248, BK249, BK250, HI243, HB⟩ := hrel
  cases gk with
  | zero => exact absurd HA.out (by simp [payrolllaw2_RoundingCarries.l0])
  | succ k1 =>
   have H := HA.out
   clear HA
   simp only [payrolllaw2_RoundingCarries.l0] at H
   by_cases c25 : x10_1 < 6
   ·
    rw [if_pos c25] at H
    have c25b0 : decide (x10_1 < 6) = true := decide_eq_true c25
    clear c25
    replace H := Option.bind_eq_some_iff.mp H
    obtain ⟨⟨t251, t252⟩, A260, H⟩ := H
    replace H : ((payrollgen_Tape_Pick.f t241 t252 (([3, 7, 100, 1] : List Int))).bind fun bt256 => ((payrollref1_New.f k1 (wrap64 (t251 - 1000)) bt256.1).bind fun bt258 => ((payrollgen_Mod.f a1 7).bind fun t262 => ((rounding_Carry.f k1 x249000_1 x249001_1 bt258.1 bt258.2.1 t244 t245 t262).bind fun bt263 => (if bt263.2.2.2.2 = 0 then ((ratio_Compare.f k1 bt263.2.2.1 bt263.2.2.2.1 t244 t245).bind fun t270 => (if t270 ≥ 0 then (payrolllaw2_RoundingCarries.j1 k1 a1 x10_1 true t241 bt256.2 t244 t245 x250000_1 x250001_1 x251000_1 x251001_1 bt258.1 bt258.2.1 bt263.1 bt263.2.1 bt263.2.2.1 bt263.2.2.2.1) else ((ratio_Compare.f k1 (wrap64 (-t244)) t245 bt263.2.2.1 bt263.2.2.2.1).bind fun t271 => (payrolllaw2_RoundingCarries.j1 k1 a1 x10_1 (decide (t271 ≥ 0)) t241 bt256.2 t244 t245 x250000_1 x250001_1 x251000_1 x251001_1 bt258.1 bt258.2.1 bt263.1 bt263.2.1 bt263.2.2.1 bt263.2.2.2.1)))) else (payrolllaw2_RoundingCarries.j1 k1 a1 x10_1 true t241 bt256.2 t244 t245 x250000_1 x250001_1 x251000_1 x251001_1 bt258.1 bt258.2.1 bt263.1 bt263.2.1 bt263.2.2.1 bt263.2.2.2.1)))))) = some r := H
    have A26 := Aside0.mk A260
    clear A260
    obtain ⟨y253, hy253⟩ : ∃ y_ : List Int, y_ = (([3, 7, 100, 1] : List Int)) := ⟨_, rfl⟩
    replace H : ((payrollgen_Tape_Pick.f t241 t252 y253).bind fun bt256 => ((payrollref1_New.f k1 (wrap64 (t251 - 1000)) bt256.1).bind fun bt258 => ((payrollgen_Mod.f a1 7).bind fun t262 => ((rounding_Carry.f k1 x249000_1 x249001_1 bt258.1 bt258.2.1 t244 t245 t262).bind fun bt263 => (if bt263.2.2.2.2 = 0 then ((ratio_Compare.f k1 bt263.2.2.1 bt263.2.2.2.1 t244 t245).bind fun t270 => (if t270 ≥ 0 then (payrolllaw2_RoundingCarries.j1 k1 a1 x10_1 true t241 bt256.2 t244 t245 x250000_1 x250001_1 x251000_1 x251001_1 bt258.1 bt258.2.1 bt263.1 bt263.2.1 bt263.2.2.1 bt263.2.2.2.1) else ((ratio_Compare.f k1 (wrap64 (-t244)) t245 bt263.2.2.1 bt263.2.2.2.1).bind fun t271 => (payrolllaw2_RoundingCarries.j1 k1 a1 x10_1 (decide (t271 ≥ 0)) t241 bt256.2 t244 t245 x250000_1 x250001_1 x251000_1 x251001_1 bt258.1 bt258.2.1 bt263.1 bt263.2.1 bt263.2.2.1 bt263.2.2.2.1)))) else (payrolllaw2_RoundingCarries.j1 k1 a1 x10_1 true t241 bt256.2 t244 t245 x250000_1 x250001_1 x251000_1 x251001_1 bt258.1 bt258.2.1 bt263.1 bt263.2.1 bt263.2.2.1 bt263.2.2.2.1)))))) = some r := by first | (rw [hy253]; with_reducible exact H) | (have H2_ := (Option.bind_some _ _).symm.trans H; rw [hy253]; with_reducible exact H2_) | (have H2_ := (Option.bind_some _ _).symm.trans H; with_reducible exact H2_) | with_reducible exact H | (rw [hy253]; exact H) | exact H
    have Ny253 := Aside0.mk hy253
    clear hy253
    replace H := Option.bind_eq_some_iff.mp H
    obtain ⟨⟨t256, t257⟩, A270, H⟩ := H
    replace H : ((payrollref1_New.f k1 (wrap64 (t251 - 1000)) t256).bind fun bt258 => ((payrollgen_Mod.f a1 7).bind fun t262 => ((rounding_Carry.f k1 x249000_1 x249001_1 bt258.1 bt258.2.1 t244 t245 t262).bind fun bt263 => (if bt263.2.2.2.2 = 0 then ((ratio_Compare.f k1 bt263.2.2.1 bt263.2.2.2.1 t244 t245).bind fun t270 => (if t270 ≥ 0 then (payrolllaw2_RoundingCarries.j1 k1 a1 x10_1 true t241 t257 t244 t245 x250000_1 x250001_1 x251000_1 x251001_1 bt258.1 bt258.2.1 bt263.1 bt263.2.1 bt263.2.2.1 bt263.2.2.2.1) else ((ratio_Compare.f k1 (wrap64 (-t244)) t245 bt263.2.2.1 bt263.2.2.2.1).bind fun t271 => (payrolllaw2_RoundingCarries.j1 k1 a1 x10_1 (decide (t271 ≥ 0)) t241 t257 t244 t245 x250000_1 x250001_1 x251000_1 x251001_1 bt258.1 bt258.2.1 bt263.1 bt263.2.1 bt263.2.2.1 bt263.2.2.2.1)))) else (payrolllaw2_RoundingCarries.j1 k1 a1 x10_1 true t241 t257 t244 t245 x250000_1 x250001_1 x251000_1 x251001_1 bt258.1 bt258.2.1 bt263.1 bt263.2.1 bt263.2.2.1 bt263.2.2.2.1))))) = some r := H
    have A27 := Aside0.mk A270
    clear A270
    replace H := Option.bind_eq_some_iff.mp H
    obtain ⟨⟨t258, t259, t260⟩, A280, H⟩ := H
    replace H : ((payrollgen_Mod.f a1 7).bind fun t262 => ((rounding_Carry.f k1 x249000_1 x249001_1 t258 t259 t244 t245 t262).bind fun bt263 => (if bt263.2.2.2.2 = 0 then ((ratio_Compare.f k1 bt263.2.2.1 bt263.2.2.2.1 t244 t245).bind fun t270 => (if t270 ≥ 0 then (payrolllaw2_RoundingCarries.j1 k1 a1 x10_1 true t241 t257 t244 t245 x250000_1 x250001_1 x251000_1 x251001_1 t258 t259 bt263.1 bt263.2.1 bt263.2.2.1 bt263.2.2.2.1) else ((ratio_Compare.f k1 (wrap64 (-t244)) t245 bt263.2.2.1 bt263.2.2.2.1).bind fun t271 => (payrolllaw2_RoundingCarries.j1 k1 a1 x10_1 (decide (t271 ≥ 0)) t241 t257 t244 t245 x250000_1 x250001_1 x251000_1 x251001_1 t258 t259 bt263.1 bt263.2.1 bt263.2.2.1 bt263.2.2.2.1)))) else (payrolllaw2_RoundingCarries.j1 k1 a1 x10_1 true t241 t257 t244 t245 x250000_1 x250001_1 x251000_1 x251001_1 t258 t259 bt263.1 bt263.2.1 bt263.2.2.1 bt263.2.2.2.1)))) = some r := H
    have A28 := Aside0.mk A280
    clear A280
    replace H := Option.bind_eq_some_iff.mp H
    obtain ⟨t262, A290, H⟩ := H
    replace H : ((rounding_Carry.f k1 x249000_1 x249001_1 t258 t259 t244 t245 t262).bind fun bt263 => (if bt263.2.2.2.2 = 0 then ((ratio_Compare.f k1 bt263.2.2.1 bt263.2.2.2.1 t244 t245).bind fun t270 => (if t270 ≥ 0 then (payrolllaw2_RoundingCarries.j1 k1 a1 x10_1 true t241 t257 t244 t245 x250000_1 x250001_1 x251000_1 x251001_1 t258 t259 bt263.1 bt263.2.1 bt263.2.2.1 bt263.2.2.2.1) else ((ratio_Compare.f k1 (wrap64 (-t244)) t245 bt263.2.2.1 bt263.2.2.2.1).bind fun t271 => (payrolllaw2_RoundingCarries.j1 k1 a1 x10_1 (decide (t271 ≥ 0)) t241 t257 t244 t245 x250000_1 x250001_1 x251000_1 x251001_1 t258 t259 bt263.1 bt263.2.1 bt263.2.2.1 bt263.2.2.2.1)))) else (payrolllaw2_RoundingCarries.j1 k1 a1 x10_1 true t241 t257 t244 t245 x250000_1 x250001_1 x251000_1 x251001_1 t258 t259 bt263.1 bt263.2.1 bt263.2.2.1 bt263.2.2.2.1))) = some r := H
    have A29 := Aside0.mk A290
    clear A290
    replace H := Option.bind_eq_some_iff.mp H
    obtain ⟨⟨t263, t264, t265, t266, t267⟩, A300, H⟩ := H
    replace H : (if t267 = 0 then ((ratio_Compare.f k1 t265 t266 t244 t245).bind fun t270 => (if t270 ≥ 0 then (payrolllaw2_RoundingCarries.j1 k1 a1 x10_1 true t241 t257 t244 t245 x250000_1 x250001_1 x251000_1 x251001_1 t258 t259 t263 t264 t265 t266) else ((ratio_Compare.f k1 (wrap64 (-t244)) t245 t265 t266).bind fun t271 => (payrolllaw2_RoundingCarries.j1 k1 a1 x10_1 (decide (t271 ≥ 0)) t241 t257 t244 t245 x250000_1 x250001_1 x251000_1 x251001_1 t258 t259 t263 t264 t265 t266)))) else (payrolllaw2_RoundingCarries.j1 k1 a1 x10_1 true t241 t257 t244 t245 x250000_1 x250001_1 x251000_1 x251001_1 t258 t259 t263 t264 t265 t266)) = some r := H
    have A30 := Aside0.mk A300
    clear A300
    have HC31 := Aside0.mk H
    clear H
    try go_wp2_with (first | ((with_reducible refine gate_callee (f := 14) rfl ?_); refine gq_ (some 31) rfl rfl Try.func14 #[.pointer (some ⟨g243, 0, none⟩), .int .i64 2001] rfl ?_; (with_reducible refine (payrollgen_Tape_Next.calls g243 t241 x244001_1 2001 t251 t252 w _ ?side1 ?side2 A26.out).mono ?_); (case side1 => exact IsS53.aq_ HI243); (case side2 => exact IsS53.bs_ HI243 HB); rintro e w32 ⟨rfl, hi, hb, hk⟩; refine ⟨_, rfl, ?_⟩; replace BK247 := tk_ BK247 hk NB247_243; replace BK248 := tk_ BK248 hk NB248_243; replace BK249 := tk_ BK249 hk NB249_243; replace BK250 := tk_ BK250 hk NB250_243; replace HB := Aside0.mk (hb); replace HI243 := Aside0.mk (hi); (try clear hb); (try clear hb2); (try clear hk); (try clear hi)) | ((with_reducible refine gate_dst (N := 34) rfl ?_); refine Kd.R_lit (Kd.int .i64) _ 3 ?hg (N := 34) ?hd (xs := ([3, 7, 100, 1] : List Int)) (inner := [.int .i64 3, .int .i64 7, .int .i64 100, .int .i64 1]) (ok := fun _ => True) (okp := fun _ => True) ?hr ?hp (fun _ hk => hk) trivial (Below.refl _ _) (Nat.le_refl _) (by simp) ?_; (case hd => rfl); (case hg => rfl); (case hr => first | (go_simp; done) | (go_simp; rfl)); (case hp => exact (Reps.one (show Kd.M (Kd.int .i64) _ _ _ 3 [.int .i64 3] from rfl) (Reps.one (show Kd.M (Kd.int .i64) _ _ _ 7 [.int .i64 7] from rfl) (Reps.one (show Kd.M (Kd.int .i64) _ _ _ 100 [.int .i64 100] from rfl) (Reps.one (show Kd.M (Kd.int .i64) _ _ _ 1 [.int .i64 1] from rfl) (Reps.none _ _)))))); intro v254 w33 ho34 hb hg_ hnew_; clear hg_ hnew_; (first | rw [← Ny253.out] at ho34 | (simp only [Int.reduceToNat] at ho34; rw [← Ny253.out] at ho34)); have HO255 := Aside0.mk (Kd.R_lower ho34 (below_size (by repeat (first | (with_reducible first | exact HB.out | apply below_alloc | apply pw_below_drewN | apply below_drew1 | refine below_set ?_ (IsS53.ge HI243.out) | refine below_set ?_ GE247.out | refine below_set ?_ GE248.out | refine below_set ?_ GE249.out | refine below_set ?_ GE250.out) | exact HB.out)))); replace BK247 := tb_ BK247 hb; replace BK248 := tb_ BK248 hb; replace BK249 := tb_ BK249 hb; replace BK250 := tb_ BK250 hb; replace HB := IsS53.ts_ HI243 HB hb; replace HI243 := IsS53.tb_ HI243 hb; clear hb ho34; obtain ⟨Ao35, co35, eo35⟩ := Kd.R_slice HO255.out; subst eo35) | ((with_reducible refine gate_callee (f := 13) rfl ?_); refine gq_ (some 35) rfl rfl Try.func13 #[.pointer (some ⟨g243, 0, none⟩), .slice Ao35 y253.length co35] rfl ?_; (with_reducible refine (payrollgen_Tape_Pick.calls g243 t241 t252 _ _ y253 t256 t257 w _ ?side1 ?side2 ?side3 ?side4 ?side5 A27.out).mono ?_); (case side1 => exact IsS53.aq_ HI243); (case side2 => exact IsS53.bs_ HI243 HB); (case side3 => repeat (first | exact (Kd.R_reads' HO255.out).2.2 | (with_reducible refine Kd.C_alloc ?_ _) | (with_reducible refine Kd.C_drewN ?_ _) | (with_reducible refine Kd.C_drew ?_))); (case side4 => exact (Kd.R_reads' HO255.out).2.1); (case side5 => exact far_slice (IsS53.own_ne HI243.out HO255.out (by decide))); rintro e w36 ⟨rfl, hi, hb, hk⟩; refine ⟨_, rfl, ?_⟩; replace BK247 := tk_ BK247 hk NB247_243; replace BK248 := tk_ BK248 hk NB248_243; replace BK249 := tk_ BK249 hk NB249_243; replace BK250 := tk_ BK250 hk NB250_243; replace HO255 := Aside0.mk (Kd.R_mono (Kd.R_keep (IsS53.apart (show IsS53 w _ g243 t241 t252 from by repeat (first | (with_reducible first | exact HI243.out | apply IsS53.alloc | apply IsS53.drewN | apply IsS53.drew | apply IsS53.set_1 | refine IsS53.far ?_ NB243_247.out _ | refine IsS53.far ?_ NB243_248.out _ | refine IsS53.far ?_ NB243_249.out _ | refine IsS53.far ?_ NB243_250.out _) | exact HI243.out)) (re_ HO255) (by decide)) hk (fun _ h => h.2)) (fun _ h => h.1)); replace HB := Aside0.mk (hb); replace HI243 := Aside0.mk (hi); (try clear hb); (try clear hb2); (try clear hk); (try clear hi)) | ((with_reducible refine gate_callee (f := 31) rfl ?_); refine gq_ (some 36) rfl rfl Try.func31 #[.int .i64 (wrap64 (t251 - 1000)), .int .i64 t256] rfl ?_; (with_reducible refine (payrollref1_New.calls k1 (wrap64 (t251 - 1000)) t256 t258 t259 t260 _ A28.out).mono ?_); rintro e w37 ⟨rfl, hb⟩; refine ⟨_, rfl, ?_⟩; replace HO255 := rb_ HO255 hb; replace BK247 := tb_ BK247 hb; replace BK248 := tb_ BK248 hb; replace BK249 := tb_ BK249 hb; replace BK250 := tb_ BK250 hb; replace HB := IsS53.ts_ HI243 HB hb; replace HI243 := IsS53.tb_ HI243 hb; (try clear hb); (try clear hb2); (try clear hk); (try clear hi)) | ((with_reducible refine gate_dst (N := 11) rfl ?_); refine bx_ (N := 11) (cs := #[.int .i64 0, .int .i64 0]) (t := 41) ?_; intro gb261 hg w38 hbox hb; have BK261 := Aside0.mk (hbox); have GW261 := IsS53.sz_ HI243 HB hg; have GE261 := IsS53.sz_ HI243 HB hg; have NB247_261 := nl_ BK247 hg; have NB261_247 := nr_ BK247 hg; have NB248_261 := nl_ BK248 hg; have NB261_248 := nr_ BK248 hg; have NB249_261 := nl_ BK249 hg; have NB261_249 := nr_ BK249 hg; have NB250_261 := nl_ BK250 hg; have NB261_250 := nr_ BK250 hg; have NB243_261 := IsS53.nl_ HI243 hg; have NB261_243 := IsS53.nr_ HI243 hg; replace HO255 := rb_ HO255 hb; replace BK247 := tb_ BK247 hb; replace BK248 := tb_ BK248 hb; replace BK249 := tb_ BK249 hb; replace BK250 := tb_ BK250 hb; replace HB := IsS53.ts_ HI243 HB hb; replace HI243 := IsS53.tb_ HI243 hb; clear hb hbox hg; have hnb39 := NB261_247.out; have hnc39 := NB247_261.out; have hnb40 := NB261_248.out; have hnc40 := NB248_261.out; have hnb41 := NB261_249.out; have hnc41 := NB249_261.out; have hnb42 := NB261_250.out; have hnc42 := NB250_261.out; have hnb43 := NB261_243.out; have hnc43 := NB243_261.out; have hcz44_0 : w38.cell? ⟨gb261, 0, none⟩ = some (.int .i64 0) := (blk_cell BK261.out 0).trans rfl; have hcz44_1 : w38.cell? ⟨gb261, 1, none⟩ = some (.int .i64 0) := (blk_cell BK261.out 1).trans rfl; have hfz44_0 := blk_frozen BK261.out 0; have hfz44_1 := blk_frozen BK261.out 1))
    have n0_ : Aside0 (Kd.R (Kd.int .i64) 3 ((w38.setCell ⟨gb261, 0, none⟩ (.int .i64 t258)).setCell ⟨gb261, 1, none⟩ (.int .i64 t259)) w.heap.size (fun _ => True) (.slice Ao35 y253.length co35) y253) := ⟨by (with_reducible repeat (first | apply Kd.R_alloc | apply Kd.R_drewN | apply Kd.R_drew)); exact Kd.R_mono (Kd.R_far (p := ⟨gb261, 1, none⟩) (Kd.R_far (p := ⟨gb261, 0, none⟩) (Kd.R_types HO255.out BK261.out (by decide)) (fun _ hk => hk.2) (.int .i64 t258)) (fun _ hk => hk.2) (.int .i64 t259)) (fun _ hk => trivial)⟩
    have n1_ : Aside0 (((w38.setCell ⟨gb261, 0, none⟩ (.int .i64 t258)).setCell ⟨gb261, 1, none⟩ (.int .i64 t259)).heap[gb247]? = some (.cells #[.int .i64 t244, .int .i64 t245] 41 (0, 0))) := ⟨by (with_reducible repeat (first | refine blk_drewN ?_ _ | refine blk_drew ?_ | refine blk_alloc ?_ _)); refine blk_far ?_ NB247_261.out _; (with_reducible repeat (first | refine blk_drewN ?_ _ | refine blk_drew ?_ | refine blk_alloc ?_ _)); refine blk_far ?_ NB247_261.out _; (with_reducible repeat (first | refine blk_drewN ?_ _ | refine blk_drew ?_ | refine blk_alloc ?_ _)); exact BK247.out⟩
    have n2_ : Aside0 (((w38.setCell ⟨gb261, 0, none⟩ (.int .i64 t258)).setCell ⟨gb261, 1, none⟩ (.int .i64 t259)).heap[gb248]? = some (.cells #[.int .i64 x249000_1, .int .i64 x249001_1] 41 (0, 0))) := ⟨by (with_reducible repeat (first | refine blk_drewN ?_ _ | refine blk_drew ?_ | refine blk_alloc ?_ _)); refine blk_far ?_ NB248_261.out _; (with_reducible repeat (first | refine blk_drewN ?_ _ | refine blk_drew ?_ | refine blk_alloc ?_ _)); refine blk_far ?_ NB248_261.out _; (with_reducible repeat (first | refine blk_drewN ?_ _ | refine blk_drew ?_ | refine blk_alloc ?_ _)); exact BK248.out⟩
    have n3_ : Aside0 (((w38.setCell ⟨gb261, 0, none⟩ (.int .i64 t258)).setCell ⟨gb261, 1, none⟩ (.int .i64 t259)).heap[gb249]? = some (.cells #[.int .i64 x250000_1, .int .i64 x250001_1] 41 (0, 0))) := ⟨by (with_reducible repeat (first | refine blk_drewN ?_ _ | refine blk_drew ?_ | refine blk_alloc ?_ _)); refine blk_far ?_ NB249_261.out _; (with_reducible repeat (first | refine blk_drewN ?_ _ | refine blk_drew ?_ | refine blk_alloc ?_ _)); refine blk_far ?_ NB249_261.out _; (with_reducible repeat (first | refine blk_drewN ?_ _ | refine blk_drew ?_ | refine blk_alloc ?_ _)); exact BK249.out⟩
    have n4_ : Aside0 (((w38.setCell ⟨gb261, 0, none⟩ (.int .i64 t258)).setCell ⟨gb261, 1, none⟩ (.int .i64 t259)).heap[gb250]? = some (.cells #[.int .i64 x251000_1, .int .i64 x251001_1] 41 (0, 0))) := ⟨by (with_reducible repeat (first | refine blk_drewN ?_ _ | refine blk_drew ?_ | refine blk_alloc ?_ _)); refine blk_far ?_ NB250_261.out _; (with_reducible repeat (first | refine blk_drewN ?_ _ | refine blk_drew ?_ | refine blk_alloc ?_ _)); refine blk_far ?_ NB250_261.out _; (with_reducible repeat (first | refine blk_drewN ?_ _ | refine blk_drew ?_ | refine blk_alloc ?_ _)); exact BK250.out⟩
    have n5_ : Aside0 (((w38.setCell ⟨gb261, 0, none⟩ (.int .i64 t258)).setCell ⟨gb261, 1, none⟩ (.int .i64 t259)).heap[gb261]? = some (.cells #[.int .i64 t258, .int .i64 t259] 41 (0, 0))) := ⟨by (with_reducible repeat (first | refine blk_drewN ?_ _ | refine blk_drew ?_ | refine blk_alloc ?_ _)); refine blk_put (cs := #[.int .i64 t258, .int .i64 0]) ?_ 1 _ rfl; (with_reducible repeat (first | refine blk_drewN ?_ _ | refine blk_drew ?_ | refine blk_alloc ?_ _)); refine blk_put (cs := #[.int .i64 0, .int .i64 0]) ?_ 0 _ rfl; (with_reducible repeat (first | refine blk_drewN ?_ _ | refine blk_drew ?_ | refine blk_alloc ?_ _)); exact BK261.out⟩
    have n6_ : Aside0 (IsS53 w ((w38.setCell ⟨gb261, 0, none⟩ (.int .i64 t258)).setCell ⟨gb261, 1, none⟩ (.int .i64 t259)) g243 t241 t257) := ⟨by repeat (first | (with_reducible first | exact HI243.out | apply IsS53.alloc | apply IsS53.drewN | apply IsS53.drew | apply IsS53.set_1 | refine IsS53.far ?_ NB243_247.out _ | refine IsS53.far ?_ NB243_248.out _ | refine IsS53.far ?_ NB243_249.out _ | refine IsS53.far ?_ NB243_250.out _ | refine IsS53.far ?_ NB243_261.out _) | exact HI243.out)⟩
    have n7_ : Aside0 (Below w.heap.size w ((w38.setCell ⟨gb261, 0, none⟩ (.int .i64 t258)).setCell ⟨gb261, 1, none⟩ (.int .i64 t259))) := ⟨by repeat (first | (with_reducible first | exact HB.out | apply below_alloc | apply pw_below_drewN | apply below_drew1 | refine below_set ?_ (IsS53.ge HI243.out) | refine below_set ?_ GE247.out | refine below_set ?_ GE248.out | refine below_set ?_ GE249.out | refine below_set ?_ GE250.out | refine below_set ?_ GE261.out) | exact HB.out)⟩
    (try clear HO255)
    (try clear BK247)
    (try clear BK248)
    (try clear BK249)
    (try clear BK250)
    (try clear BK261)
    (try clear HI243)
    (try clear HB)
    generalize ((w38.setCell ⟨gb261, 0, none⟩ (.int .i64 t258)).setCell ⟨gb261, 1, none⟩ (.int .i64 t259)) = w45 at n0_ n1_ n2_ n3_ n4_ n5_ n6_ n7_ ⊢
    have HO255 := n0_
    have BK247 := n1_
    have BK248 := n2_
    have BK249 := n3_
    have BK250 := n4_
    have BK261 := n5_
    have HI243 := n6_
    have HB := n7_
    clear n0_ n1_ n2_ n3_ n4_ n5_ n6_ n7_
    replace HO255 := Aside0.mk (Kd.R_drew HO255.out)
    replace BK247 := Aside0.mk (blk_drew BK247.out)
    replace BK248 := Aside0.mk (blk_drew BK248.out)
    replace BK249 := Aside0.mk (blk_drew BK249.out)
    replace BK250 := Aside0.mk (blk_drew BK250.out)
    replace BK261 := Aside0.mk (blk_drew BK261.out)
    replace HI243 := Aside0.mk (IsS53.drew HI243.out)
    replace HB := Aside0.mk (below_drew1 HB.out)
    refine start_ (n := 15) (S := fun w' => w'.cell? ⟨gb248, 0, none⟩ = some (.int .i64 x249000_1) ∧ w'.cell? ⟨gb248, 1, none⟩ = some (.int .i64 x249001_1) ∧ w'.cell? ⟨gb261, 0, none⟩ = some (.int .i64 t258) ∧ w'.cell? ⟨gb261, 1, none⟩ = some (.int .i64 t259) ∧ w'.cell? ⟨gb247, 0, none⟩ = some (.int .i64 t244) ∧ w'.cell? ⟨gb247, 1, none⟩ = some (.int .i64 t245)) (ds := []) #[false, false, false, false, false, false, false, false, false, false, false, false, false, false, false] (by kernel_rfl) rfl rfl ⟨(blk_cell BK248.out 0).trans rfl, (blk_cell BK248.out 1).trans rfl, (blk_cell BK261.out 0).trans rfl, (blk_cell BK261.out 1).trans rfl, (blk_cell BK247.out 0).trans rfl, (blk_cell BK247.out 1).trans rfl⟩ (fun hHeld => ?_); refine with_tabW payrolllaw2_RoundingCarries.tab8 payrolllaw2_RoundingCarries.bits8 (fun HT_ HW_ => ?_)
    generalize w45.drew = w46 at HO255 BK247 BK248 BK249 BK250 BK261 HI243 HB hHeld ⊢
    refine pure_ (i := 3) (N := some 43) (v := ?_) (a' := ?_) #[false, false, false, true, false, false, false, false, false, false, false, false, false, false, false] rfl rfl (any_of HT_.out (by kernel_rfl)) (fun _ _ _ h => h) (Or.inl ⟨by rfl, ?_⟩) ?_ ?_
    rotate_left
    ·
     intro w'
     go_simp
     with_reducible rfl
    rotate_left
    ·
     simp only [Act.put, List.setIfInBounds_toArray, List.set_cons_zero, List.set_cons_succ, i64_w, i32_w]
     rfl
    refine take_ (i := 0) (N := some 40) (v := ?_) (a' := ?_) #[true, false, false, true, false, false, false, false, false, false, false, false, false, false, false] rfl rfl (take_ofW HT_.out HW_.out (by kernel_rfl)) (fun _ _ _ h => h) (Or.inl ⟨by rfl, ?_⟩) hHeld ?_ ?_
    rotate_left
    ·
     rintro w' ⟨s0, s1, s2, s3, s4, s5⟩
     go_simp
     with_reducible rfl
    rotate_left
    ·
     simp only [Act.put, List.setIfInBounds_toArray, List.set_cons_zero, List.set_cons_succ, i64_w, i32_w]
     rfl
    refine take_ (i := 1) (N := some 41) (v := ?_) (a' := ?_) #[true, true, false, true, false, false, false, false, false, false, false, false, false, false, false] rfl rfl (take_ofW HT_.out HW_.out (by kernel_rfl)) (fun _ _ _ h => h) (Or.inl ⟨by rfl, ?_⟩) hHeld ?_ ?_
    rotate_left
    ·
     rintro w' ⟨s0, s1, s2, s3, s4, s5⟩
     go_simp
     with_reducible rfl
    rotate_left
    ·
     simp only [Act.put, List.setIfInBounds_toArray, List.set_cons_zero, List.set_cons_succ, i64_w, i32_w]
     rfl
    refine take_ (i := 2) (N := some 42) (v := ?_) (a' := ?_) #[true, true, true, true, false, false, false, false, false, false, false, false, false, false, false] rfl rfl (take_ofW HT_.out HW_.out (by kernel_rfl)) (fun _ _ _ h => h) (Or.inl ⟨by rfl, ?_⟩) hHeld ?_ ?_
    rotate_left
    ·
     rintro w' ⟨s0, s1, s2, s3, s4, s5⟩
     go_simp
     with_reducible rfl
    rotate_left
    ·
     simp only [Act.put, List.setIfInBounds_toArray, List.set_cons_zero, List.set_cons_succ, i64_w, i32_w]
     rfl
    refine join_ (σ := Nat × Nat) 3 #[true, true, true, true, true, true, true, true, true, true, true, true, false, false, false] (fun s_ => [(44, .int .i64 t262), (45, .tuple #[.agg #[.int .i64 t263, .int .i64 t264], .agg #[.int .i64 t265, .int .i64 t266], .int .i64 t267]), (13, .pointer (some ⟨s_.1, 0, none⟩)), (14, .pointer (some ⟨s_.2, 0, none⟩)), (39, .tuple #[.agg #[.int .i64 t263, .int .i64 t264], .agg #[.int .i64 t265, .int .i64 t266], .int .i64 t267]), (46, .agg #[.int .i64 t263, .int .i64 t264]), (47, .agg #[.int .i64 t265, .int .i64 t266]), (48, .int .i64 t267)]) (fun s_ w' => (w'.cell? ⟨gb248, 0, none⟩ = some (.int .i64 x249000_1) ∧ w'.cell? ⟨gb248, 1, none⟩ = some (.int .i64 x249001_1) ∧ w'.cell? ⟨gb261, 0, none⟩ = some (.int .i64 t258) ∧ w'.cell? ⟨gb261, 1, none⟩ = some (.int .i64 t259) ∧ w'.cell? ⟨gb247, 0, none⟩ = some (.int .i64 t244) ∧ w'.cell? ⟨gb247, 1, none⟩ = some (.int .i64 t245)) ∧ (Kd.R (Kd.int .i64) 3 w' w.heap.size (fun _ => True) (.slice Ao35 y253.length co35) y253) ∧ (w'.heap[gb247]? = some (.cells #[.int .i64 t244, .int .i64 t245] 41 (0, 0))) ∧ (w'.heap[gb248]? = some (.cells #[.int .i64 x249000_1, .int .i64 x249001_1] 41 (0, 0))) ∧ (w'.heap[gb249]? = some (.cells #[.int .i64 x250000_1, .int .i64 x250001_1] 41 (0, 0))) ∧ (w'.heap[gb250]? = some (.cells #[.int .i64 x251000_1, .int .i64 x251001_1] 41 (0, 0))) ∧ (w'.heap[gb261]? = some (.cells #[.int .i64 t258, .int .i64 t259] 41 (0, 0))) ∧ (w'.heap[s_.1]? = some (.cells #[.int .i64 0, .int .i64 0] 41 (0, 0))) ∧ (w'.heap[s_.2]? = some (.cells #[.int .i64 0, .int .i64 0] 41 (0, 0))) ∧ (w.heap.size ≤ s_.1) ∧ (w.heap.size ≤ s_.1) ∧ (g243 ≠ s_.1) ∧ (s_.1 ≠ g243) ∧ (gb247 ≠ s_.1) ∧ (s_.1 ≠ gb247) ∧ (gb248 ≠ s_.1) ∧ (s_.1 ≠ gb248) ∧ (gb249 ≠ s_.1) ∧ (s_.1 ≠ gb249) ∧ (gb250 ≠ s_.1) ∧ (s_.1 ≠ gb250) ∧ (gb261 ≠ s_.1) ∧ (s_.1 ≠ gb261) ∧ (s_.2 ≠ s_.1) ∧ (s_.1 ≠ s_.2) ∧ (w.heap.size ≤ s_.2) ∧ (w.heap.size ≤ s_.2) ∧ (g243 ≠ s_.2) ∧ (s_.2 ≠ g243) ∧ (gb247 ≠ s_.2) ∧ (s_.2 ≠ gb247) ∧ (gb248 ≠ s_.2) ∧ (s_.2 ≠ gb248) ∧ (gb249 ≠ s_.2) ∧ (s_.2 ≠ gb249) ∧ (gb250 ≠ s_.2) ∧ (s_.2 ≠ gb250) ∧ (gb261 ≠ s_.2) ∧ (s_.2 ≠ gb261) ∧ (IsS53 w w' g243 t241 t257) ∧ (Below w.heap.size w w')) ?_ ?_
    rotate_left
    ·
     intro hJ4_5_10_11
     refine join_ (σ := Nat) 4 #[true, true, true, true, true, true, true, true, true, true, true, false, false, false, false] (fun s_ => [(44, .int .i64 t262), (45, .tuple #[.agg #[.int .i64 t263, .int .i64 t264], .agg #[.int .i64 t265, .int .i64 t266], .int .i64 t267]), (13, .pointer (some ⟨s_, 0, none⟩)), (39, .tuple #[.agg #[.int .i64 t263, .int .i64 t264], .agg #[.int .i64 t265, .int .i64 t266], .int .i64 t267]), (46, .agg #[.int .i64 t263, .int .i64 t264]), (47, .agg #[.int .i64 t265, .int .i64 t266]), (48, .int .i64 t267)]) (fun s_ w' => (w'.cell? ⟨gb248, 0, none⟩ = some (.int .i64 x249000_1) ∧ w'.cell? ⟨gb248, 1, none⟩ = some (.int .i64 x249001_1) ∧ w'.cell? ⟨gb261, 0, none⟩ = some (.int .i64 t258) ∧ w'.cell? ⟨gb261, 1, none⟩ = some (.int .i64 t259) ∧ w'.cell? ⟨gb247, 0, none⟩ = some (.int .i64 t244) ∧ w'.cell? ⟨gb247, 1, none⟩ = some (.int .i64 t245)) ∧ (Kd.R (Kd.int .i64) 3 w' w.heap.size (fun _ => True) (.slice Ao35 y253.length co35) y253) ∧ (w'.heap[gb247]? = some (.cells #[.int .i64 t244, .int .i64 t245] 41 (0, 0))) ∧ (w'.heap[gb248]? = some (.cells #[.int .i64 x249000_1, .int .i64 x249001_1] 41 (0, 0))) ∧ (w'.heap[gb249]? = some (.cells #[.int .i64 x250000_1, .int .i64 x250001_1] 41 (0, 0))) ∧ (w'.heap[gb250]? = some (.cells #[.int .i64 x251000_1, .int .i64 x251001_1] 41 (0, 0))) ∧ (w'.heap[gb261]? = some (.cells #[.int .i64 t258, .int .i64 t259] 41 (0, 0))) ∧ (w'.heap[s_]? = some (.cells #[.int .i64 0, .int .i64 0] 41 (0, 0))) ∧ (w.heap.size ≤ s_) ∧ (w.heap.size ≤ s_) ∧ (g243 ≠ s_) ∧ (s_ ≠ g243) ∧ (gb247 ≠ s_) ∧ (s_ ≠ gb247) ∧ (gb248 ≠ s_) ∧ (s_ ≠ gb248) ∧ (gb249 ≠ s_) ∧ (s_ ≠ gb249) ∧ (gb250 ≠ s_) ∧ (s_ ≠ gb250) ∧ (gb261 ≠ s_) ∧ (s_ ≠ gb261) ∧ (IsS53 w w' g243 t241 t257) ∧ (Below w.heap.size w w')) ?_ ?_
     rotate_left
     ·
      intro hJ4_5_10
      refine join_ (σ := Nat) 4 #[true, true, true, true, true, true, true, true, true, true, false, true, false, false, false] (fun s_ => [(44, .int .i64 t262), (45, .tuple #[.agg #[.int .i64 t263, .int .i64 t264], .agg #[.int .i64 t265, .int .i64 t266], .int .i64 t267]), (14, .pointer (some ⟨s_, 0, none⟩)), (39, .tuple #[.agg #[.int .i64 t263, .int .i64 t264], .agg #[.int .i64 t265, .int .i64 t266], .int .i64 t267]), (46, .agg #[.int .i64 t263, .int .i64 t264]), (47, .agg #[.int .i64 t265, .int .i64 t266]), (48, .int .i64 t267)]) (fun s_ w' => (w'.cell? ⟨gb248, 0, none⟩ = some (.int .i64 x249000_1) ∧ w'.cell? ⟨gb248, 1, none⟩ = some (.int .i64 x249001_1) ∧ w'.cell? ⟨gb261, 0, none⟩ = some (.int .i64 t258) ∧ w'.cell? ⟨gb261, 1, none⟩ = some (.int .i64 t259) ∧ w'.cell? ⟨gb247, 0, none⟩ = some (.int .i64 t244) ∧ w'.cell? ⟨gb247, 1, none⟩ = some (.int .i64 t245)) ∧ (Kd.R (Kd.int .i64) 3 w' w.heap.size (fun _ => True) (.slice Ao35 y253.length co35) y253) ∧ (w'.heap[gb247]? = some (.cells #[.int .i64 t244, .int .i64 t245] 41 (0, 0))) ∧ (w'.heap[gb248]? = some (.cells #[.int .i64 x249000_1, .int .i64 x249001_1] 41 (0, 0))) ∧ (w'.heap[gb249]? = some (.cells #[.int .i64 x250000_1, .int .i64 x250001_1] 41 (0, 0))) ∧ (w'.heap[gb250]? = some (.cells #[.int .i64 x251000_1, .int .i64 x251001_1] 41 (0, 0))) ∧ (w'.heap[gb261]? = some (.cells #[.int .i64 t258, .int .i64 t259] 41 (0, 0))) ∧ (w'.heap[s_]? = some (.cells #[.int .i64 0, .int .i64 0] 41 (0, 0))) ∧ (w.heap.size ≤ s_) ∧ (w.heap.size ≤ s_) ∧ (g243 ≠ s_) ∧ (s_ ≠ g243) ∧ (gb247 ≠ s_) ∧ (s_ ≠ gb247) ∧ (gb248 ≠ s_) ∧ (s_ ≠ gb248) ∧ (gb249 ≠ s_) ∧ (s_ ≠ gb249) ∧ (gb250 ≠ s_) ∧ (s_ ≠ gb250) ∧ (gb261 ≠ s_) ∧ (s_ ≠ gb261) ∧ (IsS53 w w' g243 t241 t257) ∧ (Below w.heap.size w w')) ?_ ?_
      rotate_left
      ·
       intro hJ4_5_11
       refine join_ (σ := Nat × Nat) 8 #[true, true, true, true, true, false, false, false, false, false, true, true, false, false, false] (fun s_ => [(44, .int .i64 t262), (13, .pointer (some ⟨s_.1, 0, none⟩)), (14, .pointer (some ⟨s_.2, 0, none⟩))]) (fun s_ w' => (w'.cell? ⟨gb248, 0, none⟩ = some (.int .i64 x249000_1) ∧ w'.cell? ⟨gb248, 1, none⟩ = some (.int .i64 x249001_1) ∧ w'.cell? ⟨gb261, 0, none⟩ = some (.int .i64 t258) ∧ w'.cell? ⟨gb261, 1, none⟩ = some (.int .i64 t259) ∧ w'.cell? ⟨gb247, 0, none⟩ = some (.int .i64 t244) ∧ w'.cell? ⟨gb247, 1, none⟩ = some (.int .i64 t245)) ∧ (Kd.R (Kd.int .i64) 3 w' w.heap.size (fun _ => True) (.slice Ao35 y253.length co35) y253) ∧ (w'.heap[gb247]? = some (.cells #[.int .i64 t244, .int .i64 t245] 41 (0, 0))) ∧ (w'.heap[gb248]? = some (.cells #[.int .i64 x249000_1, .int .i64 x249001_1] 41 (0, 0))) ∧ (w'.heap[gb249]? = some (.cells #[.int .i64 x250000_1, .int .i64 x250001_1] 41 (0, 0))) ∧ (w'.heap[gb250]? = some (.cells #[.int .i64 x251000_1, .int .i64 x251001_1] 41 (0, 0))) ∧ (w'.heap[gb261]? = some (.cells #[.int .i64 t258, .int .i64 t259] 41 (0, 0))) ∧ (w'.heap[s_.1]? = some (.cells #[.int .i64 0, .int .i64 0] 41 (0, 0))) ∧ (w'.heap[s_.2]? = some (.cells #[.int .i64 0, .int .i64 0] 41 (0, 0))) ∧ (w.heap.size ≤ s_.1) ∧ (w.heap.size ≤ s_.1) ∧ (g243 ≠ s_.1) ∧ (s_.1 ≠ g243) ∧ (gb247 ≠ s_.1) ∧ (s_.1 ≠ gb247) ∧ (gb248 ≠ s_.1) ∧ (s_.1 ≠ gb248) ∧ (gb249 ≠ s_.1) ∧ (s_.1 ≠ gb249) ∧ (gb250 ≠ s_.1) ∧ (s_.1 ≠ gb250) ∧ (gb261 ≠ s_.1) ∧ (s_.1 ≠ gb261) ∧ (s_.2 ≠ s_.1) ∧ (s_.1 ≠ s_.2) ∧ (w.heap.size ≤ s_.2) ∧ (w.heap.size ≤ s_.2) ∧ (g243 ≠ s_.2) ∧ (s_.2 ≠ g243) ∧ (gb247 ≠ s_.2) ∧ (s_.2 ≠ gb247) ∧ (gb248 ≠ s_.2) ∧ (s_.2 ≠ gb248) ∧ (gb249 ≠ s_.2) ∧ (s_.2 ≠ gb249) ∧ (gb250 ≠ s_.2) ∧ (s_.2 ≠ gb250) ∧ (gb261 ≠ s_.2) ∧ (s_.2 ≠ gb261) ∧ (IsS53 w w' g243 t241 t257) ∧ (Below w.heap.size w w')) ?_ ?_
       rotate_left
       ·
        intro hJ4_10_11
        refine join_ (σ := Unit) 5 #[true, true, true, true, true, true, true, true, true, true, false, false, false, false, false] (fun s_ => [(44, .int .i64 t262), (45, .tuple #[.agg #[.int .i64 t263, .int .i64 t264], .agg #[.int .i64 t265, .int .i64 t266], .int .i64 t267]), (39, .tuple #[.agg #[.int .i64 t263, .int .i64 t264], .agg #[.int .i64 t265, .int .i64 t266], .int .i64 t267]), (46, .agg #[.int .i64 t263, .int .i64 t264]), (47, .agg #[.int .i64 t265, .int .i64 t266]), (48, .int .i64 t267)]) (fun s_ w' => (w'.cell? ⟨gb248, 0, none⟩ = some (.int .i64 x249000_1) ∧ w'.cell? ⟨gb248, 1, none⟩ = some (.int .i64 x249001_1) ∧ w'.cell? ⟨gb261, 0, none⟩ = some (.int .i64 t258) ∧ w'.cell? ⟨gb261, 1, none⟩ = some (.int .i64 t259) ∧ w'.cell? ⟨gb247, 0, none⟩ = some (.int .i64 t244) ∧ w'.cell? ⟨gb247, 1, none⟩ = some (.int .i64 t245)) ∧ (Kd.R (Kd.int .i64) 3 w' w.heap.size (fun _ => True) (.slice Ao35 y253.length co35) y253) ∧ (w'.heap[gb247]? = some (.cells #[.int .i64 t244, .int .i64 t245] 41 (0, 0))) ∧ (w'.heap[gb248]? = some (.cells #[.int .i64 x249000_1, .int .i64 x249001_1] 41 (0, 0))) ∧ (w'.heap[gb249]? = some (.cells #[.int .i64 x250000_1, .int .i64 x250001_1] 41 (0, 0))) ∧ (w'.heap[gb250]? = some (.cells #[.int .i64 x251000_1, .int .i64 x251001_1] 41 (0, 0))) ∧ (w'.heap[gb261]? = some (.cells #[.int .i64 t258, .int .i64 t259] 41 (0, 0))) ∧ (IsS53 w w' g243 t241 t257) ∧ (Below w.heap.size w w')) ?_ ?_
        rotate_left
        ·
         intro hJ4_5
         refine join_ (σ := Nat) 9 #[true, true, true, true, true, false, false, false, false, false, true, false, false, false, false] (fun s_ => [(44, .int .i64 t262), (13, .pointer (some ⟨s_, 0, none⟩))]) (fun s_ w' => (w'.cell? ⟨gb248, 0, none⟩ = some (.int .i64 x249000_1) ∧ w'.cell? ⟨gb248, 1, none⟩ = some (.int .i64 x249001_1) ∧ w'.cell? ⟨gb261, 0, none⟩ = some (.int .i64 t258) ∧ w'.cell? ⟨gb261, 1, none⟩ = some (.int .i64 t259) ∧ w'.cell? ⟨gb247, 0, none⟩ = some (.int .i64 t244) ∧ w'.cell? ⟨gb247, 1, none⟩ = some (.int .i64 t245)) ∧ (Kd.R (Kd.int .i64) 3 w' w.heap.size (fun _ => True) (.slice Ao35 y253.length co35) y253) ∧ (w'.heap[gb247]? = some (.cells #[.int .i64 t244, .int .i64 t245] 41 (0, 0))) ∧ (w'.heap[gb248]? = some (.cells #[.int .i64 x249000_1, .int .i64 x249001_1] 41 (0, 0))) ∧ (w'.heap[gb249]? = some (.cells #[.int .i64 x250000_1, .int .i64 x250001_1] 41 (0, 0))) ∧ (w'.heap[gb250]? = some (.cells #[.int .i64 x251000_1, .int .i64 x251001_1] 41 (0, 0))) ∧ (w'.heap[gb261]? = some (.cells #[.int .i64 t258, .int .i64 t259] 41 (0, 0))) ∧ (w'.heap[s_]? = some (.cells #[.int .i64 0, .int .i64 0] 41 (0, 0))) ∧ (w.heap.size ≤ s_) ∧ (w.heap.size ≤ s_) ∧ (g243 ≠ s_) ∧ (s_ ≠ g243) ∧ (gb247 ≠ s_) ∧ (s_ ≠ gb247) ∧ (gb248 ≠ s_) ∧ (s_ ≠ gb248) ∧ (gb249 ≠ s_) ∧ (s_ ≠ gb249) ∧ (gb250 ≠ s_) ∧ (s_ ≠ gb250) ∧ (gb261 ≠ s_) ∧ (s_ ≠ gb261) ∧ (IsS53 w w' g243 t241 t257) ∧ (Below w.heap.size w w')) ?_ ?_
         rotate_left
         ·
          intro hJ4_10
          refine join_ (σ := Nat) 9 #[true, true, true, true, true, false, false, false, false, false, false, true, false, false, false] (fun s_ => [(44, .int .i64 t262), (14, .pointer (some ⟨s_, 0, none⟩))]) (fun s_ w' => (w'.cell? ⟨gb248, 0, none⟩ = some (.int .i64 x249000_1) ∧ w'.cell? ⟨gb248, 1, none⟩ = some (.int .i64 x249001_1) ∧ w'.cell? ⟨gb261, 0, none⟩ = some (.int .i64 t258) ∧ w'.cell? ⟨gb261, 1, none⟩ = some (.int .i64 t259) ∧ w'.cell? ⟨gb247, 0, none⟩ = some (.int .i64 t244) ∧ w'.cell? ⟨gb247, 1, none⟩ = some (.int .i64 t245)) ∧ (Kd.R (Kd.int .i64) 3 w' w.heap.size (fun _ => True) (.slice Ao35 y253.length co35) y253) ∧ (w'.heap[gb247]? = some (.cells #[.int .i64 t244, .int .i64 t245] 41 (0, 0))) ∧ (w'.heap[gb248]? = some (.cells #[.int .i64 x249000_1, .int .i64 x249001_1] 41 (0, 0))) ∧ (w'.heap[gb249]? = some (.cells #[.int .i64 x250000_1, .int .i64 x250001_1] 41 (0, 0))) ∧ (w'.heap[gb250]? = some (.cells #[.int .i64 x251000_1, .int .i64 x251001_1] 41 (0, 0))) ∧ (w'.heap[gb261]? = some (.cells #[.int .i64 t258, .int .i64 t259] 41 (0, 0))) ∧ (w'.heap[s_]? = some (.cells #[.int .i64 0, .int .i64 0] 41 (0, 0))) ∧ (w.heap.size ≤ s_) ∧ (w.heap.size ≤ s_) ∧ (g243 ≠ s_) ∧ (s_ ≠ g243) ∧ (gb247 ≠ s_) ∧ (s_ ≠ gb247) ∧ (gb248 ≠ s_) ∧ (s_ ≠ gb248) ∧ (gb249 ≠ s_) ∧ (s_ ≠ gb249) ∧ (gb250 ≠ s_) ∧ (s_ ≠ gb250) ∧ (gb261 ≠ s_) ∧ (s_ ≠ gb261) ∧ (IsS53 w w' g243 t241 t257) ∧ (Below w.heap.size w w')) ?_ ?_
          rotate_left
          ·
           intro hJ4_11
           refine join_ (σ := Nat × Nat) 9 #[true, true, true, true, false, false, false, false, false, false, true, true, false, false, false] (fun s_ => [(13, .pointer (some ⟨s_.1, 0, none⟩)), (14, .pointer (some ⟨s_.2, 0, none⟩))]) (fun s_ w' => (w'.cell? ⟨gb248, 0, none⟩ = some (.int .i64 x249000_1) ∧ w'.cell? ⟨gb248, 1, none⟩ = some (.int .i64 x249001_1) ∧ w'.cell? ⟨gb261, 0, none⟩ = some (.int .i64 t258) ∧ w'.cell? ⟨gb261, 1, none⟩ = some (.int .i64 t259) ∧ w'.cell? ⟨gb247, 0, none⟩ = some (.int .i64 t244) ∧ w'.cell? ⟨gb247, 1, none⟩ = some (.int .i64 t245)) ∧ (Kd.R (Kd.int .i64) 3 w' w.heap.size (fun _ => True) (.slice Ao35 y253.length co35) y253) ∧ (w'.heap[gb247]? = some (.cells #[.int .i64 t244, .int .i64 t245] 41 (0, 0))) ∧ (w'.heap[gb248]? = some (.cells #[.int .i64 x249000_1, .int .i64 x249001_1] 41 (0, 0))) ∧ (w'.heap[gb249]? = some (.cells #[.int .i64 x250000_1, .int .i64 x250001_1] 41 (0, 0))) ∧ (w'.heap[gb250]? = some (.cells #[.int .i64 x251000_1, .int .i64 x251001_1] 41 (0, 0))) ∧ (w'.heap[gb261]? = some (.cells #[.int .i64 t258, .int .i64 t259] 41 (0, 0))) ∧ (w'.heap[s_.1]? = some (.cells #[.int .i64 0, .int .i64 0] 41 (0, 0))) ∧ (w'.heap[s_.2]? = some (.cells #[.int .i64 0, .int .i64 0] 41 (0, 0))) ∧ (w.heap.size ≤ s_.1) ∧ (w.heap.size ≤ s_.1) ∧ (g243 ≠ s_.1) ∧ (s_.1 ≠ g243) ∧ (gb247 ≠ s_.1) ∧ (s_.1 ≠ gb247) ∧ (gb248 ≠ s_.1) ∧ (s_.1 ≠ gb248) ∧ (gb249 ≠ s_.1) ∧ (s_.1 ≠ gb249) ∧ (gb250 ≠ s_.1) ∧ (s_.1 ≠ gb250) ∧ (gb261 ≠ s_.1) ∧ (s_.1 ≠ gb261) ∧ (s_.2 ≠ s_.1) ∧ (s_.1 ≠ s_.2) ∧ (w.heap.size ≤ s_.2) ∧ (w.heap.size ≤ s_.2) ∧ (g243 ≠ s_.2) ∧ (s_.2 ≠ g243) ∧ (gb247 ≠ s_.2) ∧ (s_.2 ≠ gb247) ∧ (gb248 ≠ s_.2) ∧ (s_.2 ≠ gb248) ∧ (gb249 ≠ s_.2) ∧ (s_.2 ≠ gb249) ∧ (gb250 ≠ s_.2) ∧ (s_.2 ≠ gb250) ∧ (gb261 ≠ s_.2) ∧ (s_.2 ≠ gb261) ∧ (IsS53 w w' g243 t241 t257) ∧ (Below w.heap.size w w')) ?_ ?_
           rotate_left
           ·
            intro hJ10_11
            refine join_ (σ := Unit) 10 #[true, true, true, true, true, false, false, false, false, false, false, false, false, false, false] (fun s_ => [(44, .int .i64 t262)]) (fun s_ w' => (w'.cell? ⟨gb248, 0, none⟩ = some (.int .i64 x249000_1) ∧ w'.cell? ⟨gb248, 1, none⟩ = some (.int .i64 x249001_1) ∧ w'.cell? ⟨gb261, 0, none⟩ = some (.int .i64 t258) ∧ w'.cell? ⟨gb261, 1, none⟩ = some (.int .i64 t259) ∧ w'.cell? ⟨gb247, 0, none⟩ = some (.int .i64 t244) ∧ w'.cell? ⟨gb247, 1, none⟩ = some (.int .i64 t245)) ∧ (Kd.R (Kd.int .i64) 3 w' w.heap.size (fun _ => True) (.slice Ao35 y253.length co35) y253) ∧ (w'.heap[gb247]? = some (.cells #[.int .i64 t244, .int .i64 t245] 41 (0, 0))) ∧ (w'.heap[gb248]? = some (.cells #[.int .i64 x249000_1, .int .i64 x249001_1] 41 (0, 0))) ∧ (w'.heap[gb249]? = some (.cells #[.int .i64 x250000_1, .int .i64 x250001_1] 41 (0, 0))) ∧ (w'.heap[gb250]? = some (.cells #[.int .i64 x251000_1, .int .i64 x251001_1] 41 (0, 0))) ∧ (w'.heap[gb261]? = some (.cells #[.int .i64 t258, .int .i64 t259] 41 (0, 0))) ∧ (IsS53 w w' g243 t241 t257) ∧ (Below w.heap.size w w')) ?_ ?_
            rotate_left
            ·
             intro hJ4
             refine join_ (σ := Nat) 10 #[true, true, true, true, false, false, false, false, false, false, true, false, false, false, false] (fun s_ => [(13, .pointer (some ⟨s_, 0, none⟩))]) (fun s_ w' => (w'.cell? ⟨gb248, 0, none⟩ = some (.int .i64 x249000_1) ∧ w'.cell? ⟨gb248, 1, none⟩ = some (.int .i64 x249001_1) ∧ w'.cell? ⟨gb261, 0, none⟩ = some (.int .i64 t258) ∧ w'.cell? ⟨gb261, 1, none⟩ = some (.int .i64 t259) ∧ w'.cell? ⟨gb247, 0, none⟩ = some (.int .i64 t244) ∧ w'.cell? ⟨gb247, 1, none⟩ = some (.int .i64 t245)) ∧ (Kd.R (Kd.int .i64) 3 w' w.heap.size (fun _ => True) (.slice Ao35 y253.length co35) y253) ∧ (w'.heap[gb247]? = some (.cells #[.int .i64 t244, .int .i64 t245] 41 (0, 0))) ∧ (w'.heap[gb248]? = some (.cells #[.int .i64 x249000_1, .int .i64 x249001_1] 41 (0, 0))) ∧ (w'.heap[gb249]? = some (.cells #[.int .i64 x250000_1, .int .i64 x250001_1] 41 (0, 0))) ∧ (w'.heap[gb250]? = some (.cells #[.int .i64 x251000_1, .int .i64 x251001_1] 41 (0, 0))) ∧ (w'.heap[gb261]? = some (.cells #[.int .i64 t258, .int .i64 t259] 41 (0, 0))) ∧ (w'.heap[s_]? = some (.cells #[.int .i64 0, .int .i64 0] 41 (0, 0))) ∧ (w.heap.size ≤ s_) ∧ (w.heap.size ≤ s_) ∧ (g243 ≠ s_) ∧ (s_ ≠ g243) ∧ (gb247 ≠ s_) ∧ (s_ ≠ gb247) ∧ (gb248 ≠ s_) ∧ (s_ ≠ gb248) ∧ (gb249 ≠ s_) ∧ (s_ ≠ gb249) ∧ (gb250 ≠ s_) ∧ (s_ ≠ gb250) ∧ (gb261 ≠ s_) ∧ (s_ ≠ gb261) ∧ (IsS53 w w' g243 t241 t257) ∧ (Below w.heap.size w w')) ?_ ?_
             rotate_left
             ·
              intro hJ10
              refine join_ (σ := Nat) 10 #[true, true, true, true, false, false, false, false, false, false, false, true, false, false, false] (fun s_ => [(14, .pointer (some ⟨s_, 0, none⟩))]) (fun s_ w' => (w'.cell? ⟨gb248, 0, none⟩ = some (.int .i64 x249000_1) ∧ w'.cell? ⟨gb248, 1, none⟩ = some (.int .i64 x249001_1) ∧ w'.cell? ⟨gb261, 0, none⟩ = some (.int .i64 t258) ∧ w'.cell? ⟨gb261, 1, none⟩ = some (.int .i64 t259) ∧ w'.cell? ⟨gb247, 0, none⟩ = some (.int .i64 t244) ∧ w'.cell? ⟨gb247, 1, none⟩ = some (.int .i64 t245)) ∧ (Kd.R (Kd.int .i64) 3 w' w.heap.size (fun _ => True) (.slice Ao35 y253.length co35) y253) ∧ (w'.heap[gb247]? = some (.cells #[.int .i64 t244, .int .i64 t245] 41 (0, 0))) ∧ (w'.heap[gb248]? = some (.cells #[.int .i64 x249000_1, .int .i64 x249001_1] 41 (0, 0))) ∧ (w'.heap[gb249]? = some (.cells #[.int .i64 x250000_1, .int .i64 x250001_1] 41 (0, 0))) ∧ (w'.heap[gb250]? = some (.cells #[.int .i64 x251000_1, .int .i64 x251001_1] 41 (0, 0))) ∧ (w'.heap[gb261]? = some (.cells #[.int .i64 t258, .int .i64 t259] 41 (0, 0))) ∧ (w'.heap[s_]? = some (.cells #[.int .i64 0, .int .i64 0] 41 (0, 0))) ∧ (w.heap.size ≤ s_) ∧ (w.heap.size ≤ s_) ∧ (g243 ≠ s_) ∧ (s_ ≠ g243) ∧ (gb247 ≠ s_) ∧ (s_ ≠ gb247) ∧ (gb248 ≠ s_) ∧ (s_ ≠ gb248) ∧ (gb249 ≠ s_) ∧ (s_ ≠ gb249) ∧ (gb250 ≠ s_) ∧ (s_ ≠ gb250) ∧ (gb261 ≠ s_) ∧ (s_ ≠ gb261) ∧ (IsS53 w w' g243 t241 t257) ∧ (Below w.heap.size w w')) ?_ ?_
              rotate_left
              ·
               intro hJ11
               refine three_ (i := 4) (j := 10) (k := 11) (Ni := some 44) (Nj := some 13) (Nk := some 14) #[true, true, true, true, true, false, false, false, false, false, false, false, false, false, false] #[true, true, true, true, false, false, false, false, false, false, true, false, false, false, false] #[true, true, true, true, false, false, false, false, false, false, false, true, false, false, false] rfl rfl rfl rfl rfl rfl (three_of HT_.out (by kernel_rfl)) (by decide) (by decide) (by decide) (fun K hK => ?_) (fun K hK => ?_) (fun K hK => ?_)
               ·
                skip
                refine goes_ Try.func12 (by kernel_rfl) rfl #[.int .i64 a1, .int .i64 7] (by rfl) rfl rfl (by (try simp only [List.map_toArray, List.map_cons, List.map_nil]); first | done | rfl | (simp only [List.length_drop, List.length_take]; rfl)) ?_
                with_reducible refine (payrollgen_Mod.calls a1 7 t262 _ A29.out).mono ?_
                rintro e w' ⟨rfl, ⟨nd, rfl⟩⟩
                refine ⟨_, rfl, ?_⟩
                refine hK.out _ _ ⟨(blk_cell BK248.out 0).trans rfl, (blk_cell BK248.out 1).trans rfl, (blk_cell BK261.out 0).trans rfl, (blk_cell BK261.out 1).trans rfl, (blk_cell BK247.out 0).trans rfl, (blk_cell BK247.out 1).trans rfl⟩ (fun hHeld => ?_)
                clear hK K
                refine norm_ (a' := ?_) ?_ ?_
                rotate_left
                ·
                 show Act.put _ (some 44) _ = _
                 simp only [Act.put, List.setIfInBounds_toArray, List.set_cons_zero, List.set_cons_succ, i64_w, i32_w]
                 rfl
                exact norm_ (by first | (simp only [putAll, Act.put, List.setIfInBounds_toArray, List.set_cons_zero, List.set_cons_succ]; done) | (simp only [putAll, Act.put, List.setIfInBounds_toArray, List.set_cons_zero, List.set_cons_succ]; rfl)) (hJ4 () _ ⟨hHeld, (re_ HO255), (by (with_reducible repeat (first | refine blk_drewN ?_ _ | refine blk_drew ?_ | refine blk_alloc ?_ _)); exact BK247.out), (by (with_reducible repeat (first | refine blk_drewN ?_ _ | refine blk_drew ?_ | refine blk_alloc ?_ _)); exact BK248.out), (by (with_reducible repeat (first | refine blk_drewN ?_ _ | refine blk_drew ?_ | refine blk_alloc ?_ _)); exact BK249.out), (by (with_reducible repeat (first | refine blk_drewN ?_ _ | refine blk_drew ?_ | refine blk_alloc ?_ _)); exact BK250.out), (by (with_reducible repeat (first | refine blk_drewN ?_ _ | refine blk_drew ?_ | refine blk_alloc ?_ _)); exact BK261.out), (by repeat (first | (with_reducible first | exact HI243.out | apply IsS53.alloc | apply IsS53.drewN | apply IsS53.drew | apply IsS53.set_1 | refine IsS53.far ?_ NB243_247.out _ | refine IsS53.far ?_ NB243_248.out _ | refine IsS53.far ?_ NB243_249.out _ | refine IsS53.far ?_ NB243_250.out _ | refine IsS53.far ?_ NB243_261.out _) | exact HI243.out)), (by repeat (first | (with_reducible first | exact HB.out | apply below_alloc | apply pw_below_drewN | apply below_drew1 | refine below_set ?_ (IsS53.ge HI243.out) | refine below_set ?_ GE247.out | refine below_set ?_ GE248.out | refine below_set ?_ GE249.out | refine below_set ?_ GE250.out | refine below_set ?_ GE261.out) | exact HB.out))⟩)
               ·
                skip
                refine box_step ?hg (N := 13) ?hd (cs := #[.int .i64 0, .int .i64 0]) (t := 41) ?hr ?_; (case hd => rfl); (case hg => rfl); (case hr => first | (go_simp; done) | (go_simp; rfl))
                intro gb268 hg w47 hbox hb
                have BK268 := Aside0.mk (hbox)
                have GW268 := IsS53.sz_ HI243 HB hg
                have GE268 := IsS53.sz_ HI243 HB hg
                have NB247_268 := nl_ BK247 hg
                have NB268_247 := nr_ BK247 hg
                have NB248_268 := nl_ BK248 hg
                have NB268_248 := nr_ BK248 hg
                have NB249_268 := nl_ BK249 hg
                have NB268_249 := nr_ BK249 hg
                have NB250_268 := nl_ BK250 hg
                have NB268_250 := nr_ BK250 hg
                have NB261_268 := nl_ BK261 hg
                have NB268_261 := nr_ BK261 hg
                have NB243_268 := IsS53.nl_ HI243 hg
                have NB268_243 := IsS53.nr_ HI243 hg
                replace HO255 := rb_ HO255 hb
                replace BK247 := tb_ BK247 hb
                replace BK248 := tb_ BK248 hb
                replace BK249 := tb_ BK249 hb
                replace BK250 := tb_ BK250 hb
                replace BK261 := tb_ BK261 hb
                replace HB := IsS53.ts_ HI243 HB hb
                replace HI243 := IsS53.tb_ HI243 hb
                clear hb hbox hg
                refine hK.out _ _ ⟨(blk_cell BK248.out 0).trans rfl, (blk_cell BK248.out 1).trans rfl, (blk_cell BK261.out 0).trans rfl, (blk_cell BK261.out 1).trans rfl, (blk_cell BK247.out 0).trans rfl, (blk_cell BK247.out 1).trans rfl⟩ (fun hHeld => ?_)
                clear hK K
                refine norm_ (a' := ?_) ?_ ?_
                rotate_left
                ·
                 show Act.put _ (some 13) _ = _
                 simp only [Act.put, List.setIfInBounds_toArray, List.set_cons_zero, List.set_cons_succ, i64_w, i32_w]
                 rfl
                exact norm_ (by first | (simp only [putAll, Act.put, List.setIfInBounds_toArray, List.set_cons_zero, List.set_cons_succ]; done) | (simp only [putAll, Act.put, List.setIfInBounds_toArray, List.set_cons_zero, List.set_cons_succ]; rfl)) (hJ10 (gb268) _ ⟨hHeld, (re_ HO255), (by (with_reducible repeat (first | refine blk_drewN ?_ _ | refine blk_drew ?_ | refine blk_alloc ?_ _)); exact BK247.out), (by (with_reducible repeat (first | refine blk_drewN ?_ _ | refine blk_drew ?_ | refine blk_alloc ?_ _)); exact BK248.out), (by (with_reducible repeat (first | refine blk_drewN ?_ _ | refine blk_drew ?_ | refine blk_alloc ?_ _)); exact BK249.out), (by (with_reducible repeat (first | refine blk_drewN ?_ _ | refine blk_drew ?_ | refine blk_alloc ?_ _)); exact BK250.out), (by (with_reducible repeat (first | refine blk_drewN ?_ _ | refine blk_drew ?_ | refine blk_alloc ?_ _)); exact BK261.out), (by (with_reducible repeat (first | refine blk_drewN ?_ _ | refine blk_drew ?_ | refine blk_alloc ?_ _)); exact BK268.out), GW268.out, GE268.out, NB243_268.out, NB268_243.out, NB247_268.out, NB268_247.out, NB248_268.out, NB268_248.out, NB249_268.out, NB268_249.out, NB250_268.out, NB268_250.out, NB261_268.out, NB268_261.out, (by repeat (first | (with_reducible first | exact HI243.out | apply IsS53.alloc | apply IsS53.drewN | apply IsS53.drew | apply IsS53.set_1 | refine IsS53.far ?_ NB243_247.out _ | refine IsS53.far ?_ NB243_248.out _ | refine IsS53.far ?_ NB243_249.out _ | refine IsS53.far ?_ NB243_250.out _ | refine IsS53.far ?_ NB243_261.out _ | refine IsS53.far ?_ NB243_268.out _) | exact HI243.out)), (by repeat (first | (with_reducible first | exact HB.out | apply below_alloc | apply pw_below_drewN | apply below_drew1 | refine below_set ?_ (IsS53.ge HI243.out) | refine below_set ?_ GE247.out | refine below_set ?_ GE248.out | refine below_set ?_ GE249.out | refine below_set ?_ GE250.out | refine below_set ?_ GE261.out | refine below_set ?_ GE268.out) | exact HB.out))⟩)
               ·
                skip
                refine box_step ?hg (N := 14) ?hd (cs := #[.int .i64 0, .int .i64 0]) (t := 41) ?hr ?_; (case hd => rfl); (case hg => rfl); (case hr => first | (go_simp; done) | (go_simp; rfl))
                intro gb269 hg w47 hbox hb
                have BK269 := Aside0.mk (hbox)
                have GW269 := IsS53.sz_ HI243 HB hg
                have GE269 := IsS53.sz_ HI243 HB hg
                have NB247_269 := nl_ BK247 hg
                have NB269_247 := nr_ BK247 hg
                have NB248_269 := nl_ BK248 hg
                have NB269_248 := nr_ BK248 hg
                have NB249_269 := nl_ BK249 hg
                have NB269_249 := nr_ BK249 hg
                have NB250_269 := nl_ BK250 hg
                have NB269_250 := nr_ BK250 hg
                have NB261_269 := nl_ BK261 hg
                have NB269_261 := nr_ BK261 hg
                have NB243_269 := IsS53.nl_ HI243 hg
                have NB269_243 := IsS53.nr_ HI243 hg
                replace HO255 := rb_ HO255 hb
                replace BK247 := tb_ BK247 hb
                replace BK248 := tb_ BK248 hb
                replace BK249 := tb_ BK249 hb
                replace BK250 := tb_ BK250 hb
                replace BK261 := tb_ BK261 hb
                replace HB := IsS53.ts_ HI243 HB hb
                replace HI243 := IsS53.tb_ HI243 hb
                clear hb hbox hg
                refine hK.out _ _ ⟨(blk_cell BK248.out 0).trans rfl, (blk_cell BK248.out 1).trans rfl, (blk_cell BK261.out 0).trans rfl, (blk_cell BK261.out 1).trans rfl, (blk_cell BK247.out 0).trans rfl, (blk_cell BK247.out 1).trans rfl⟩ (fun hHeld => ?_)
                clear hK K
                refine norm_ (a' := ?_) ?_ ?_
                rotate_left
                ·
                 show Act.put _ (some 14) _ = _
                 simp only [Act.put, List.setIfInBounds_toArray, List.set_cons_zero, List.set_cons_succ, i64_w, i32_w]
                 rfl
                exact norm_ (by first | (simp only [putAll, Act.put, List.setIfInBounds_toArray, List.set_cons_zero, List.set_cons_succ]; done) | (simp only [putAll, Act.put, List.setIfInBounds_toArray, List.set_cons_zero, List.set_cons_succ]; rfl)) (hJ11 (gb269) _ ⟨hHeld, (re_ HO255), (by (with_reducible repeat (first | refine blk_drewN ?_ _ | refine blk_drew ?_ | refine blk_alloc ?_ _)); exact BK247.out), (by (with_reducible repeat (first | refine blk_drewN ?_ _ | refine blk_drew ?_ | refine blk_alloc ?_ _)); exact BK248.out), (by (with_reducible repeat (first | refine blk_drewN ?_ _ | refine blk_drew ?_ | refine blk_alloc ?_ _)); exact BK249.out), (by (with_reducible repeat (first | refine blk_drewN ?_ _ | refine blk_drew ?_ | refine blk_alloc ?_ _)); exact BK250.out), (by (with_reducible repeat (first | refine blk_drewN ?_ _ | refine blk_drew ?_ | refine blk_alloc ?_ _)); exact BK261.out), (by (with_reducible repeat (first | refine blk_drewN ?_ _ | refine blk_drew ?_ | refine blk_alloc ?_ _)); exact BK269.out), GW269.out, GE269.out, NB243_269.out, NB269_243.out, NB247_269.out, NB269_247.out, NB248_269.out, NB269_248.out, NB249_269.out, NB269_249.out, NB250_269.out, NB269_250.out, NB261_269.out, NB269_261.out, (by repeat (first | (with_reducible first | exact HI243.out | apply IsS53.alloc | apply IsS53.drewN | apply IsS53.drew | apply IsS53.set_1 | refine IsS53.far ?_ NB243_247.out _ | refine IsS53.far ?_ NB243_248.out _ | refine IsS53.far ?_ NB243_249.out _ | refine IsS53.far ?_ NB243_250.out _ | refine IsS53.far ?_ NB243_261.out _ | refine IsS53.far ?_ NB243_269.out _) | exact HI243.out)), (by repeat (first | (with_reducible first | exact HB.out | apply below_alloc | apply pw_below_drewN | apply below_drew1 | refine below_set ?_ (IsS53.ge HI243.out) | refine below_set ?_ GE247.out | refine below_set ?_ GE248.out | refine below_set ?_ GE249.out | refine below_set ?_ GE250.out | refine below_set ?_ GE261.out | refine below_set ?_ GE269.out) | exact HB.out))⟩)
              ·
               skip
               rintro gb269 w48 ⟨hS_, h0_, h1_, h2_, h3_, h4_, h5_, h6_, h7_, h8_, h9_, h10_, h11_, h12_, h13_, h14_, h15_, h16_, h17_, h18_, h19_, h20_, h21_, h22_⟩
               have n0_ : Aside0 (Kd.R (Kd.int .i64) 3 w48 w.heap.size (fun _ => True) (.slice Ao35 y253.length co35) y253) := ⟨h0_⟩
               have n1_ : Aside0 (w48.heap[gb247]? = some (.cells #[.int .i64 t244, .int .i64 t245] 41 (0, 0))) := ⟨h1_⟩
               have n2_ : Aside0 (w48.heap[gb248]? = some (.cells #[.int .i64 x249000_1, .int .i64 x249001_1] 41 (0, 0))) := ⟨h2_⟩
               have n3_ : Aside0 (w48.heap[gb249]? = some (.cells #[.int .i64 x250000_1, .int .i64 x250001_1] 41 (0, 0))) := ⟨h3_⟩
               have n4_ : Aside0 (w48.heap[gb250]? = some (.cells #[.int .i64 x251000_1, .int .i64 x251001_1] 41 (0, 0))) := ⟨h4_⟩
               have n5_ : Aside0 (w48.heap[gb261]? = some (.cells #[.int .i64 t258, .int .i64 t259] 41 (0, 0))) := ⟨h5_⟩
               have n6_ : Aside0 (w48.heap[gb269]? = some (.cells #[.int .i64 0, .int .i64 0] 41 (0, 0))) := ⟨h6_⟩
               have n7_ : Aside0 (w.heap.size ≤ gb269) := ⟨h7_⟩
               have n8_ : Aside0 (w.heap.size ≤ gb269) := ⟨h8_⟩
               have n9_ : Aside0 (g243 ≠ gb269) := ⟨h9_⟩
               have n10_ : Aside0 (gb269 ≠ g243) := ⟨h10_⟩
               have n11_ : Aside0 (gb247 ≠ gb269) := ⟨h11_⟩
               have n12_ : Aside0 (gb269 ≠ gb247) := ⟨h12_⟩
               have n13_ : Aside0 (gb248 ≠ gb269) := ⟨h13_⟩
               have n14_ : Aside0 (gb269 ≠ gb248) := ⟨h14_⟩
               have n15_ : Aside0 (gb249 ≠ gb269) := ⟨h15_⟩
               have n16_ : Aside0 (gb269 ≠ gb249) := ⟨h16_⟩
               have n17_ : Aside0 (gb250 ≠ gb269) := ⟨h17_⟩
               have n18_ : Aside0 (gb269 ≠ gb250) := ⟨h18_⟩
               have n19_ : Aside0 (gb261 ≠ gb269) := ⟨h19_⟩
               have n20_ : Aside0 (gb269 ≠ gb261) := ⟨h20_⟩
               have n21_ : Aside0 (IsS53 w w48 g243 t241 t257) := ⟨h21_⟩
               have n22_ : Aside0 (Below w.heap.size w w48) := ⟨h22_⟩
               clear HO255
               clear BK247
               clear BK248
               clear BK249
               clear BK250
               clear BK261
               clear HI243
               clear HB
               clear h0_ h1_ h2_ h3_ h4_ h5_ h6_ h7_ h8_ h9_ h10_ h11_ h12_ h13_ h14_ h15_ h16_ h17_ h18_ h19_ h20_ h21_ h22_
               have HO255 := n0_
               have BK247 := n1_
               have BK248 := n2_
               have BK249 := n3_
               have BK250 := n4_
               have BK261 := n5_
               have BK269 := n6_
               have GW269 := n7_
               have GE269 := n8_
               have NB243_269 := n9_
               have NB269_243 := n10_
               have NB247_269 := n11_
               have NB269_247 := n12_
               have NB248_269 := n13_
               have NB269_248 := n14_
               have NB249_269 := n15_
               have NB269_249 := n16_
               have NB250_269 := n17_
               have NB269_250 := n18_
               have NB261_269 := n19_
               have NB269_261 := n20_
               have HI243 := n21_
               have HB := n22_
               clear n0_ n1_ n2_ n3_ n4_ n5_ n6_ n7_ n8_ n9_ n10_ n11_ n12_ n13_ n14_ n15_ n16_ n17_ n18_ n19_ n20_ n21_ n22_
               have hHeld : w48.cell? ⟨gb248, 0, none⟩ = some (.int .i64 x249000_1) ∧ w48.cell? ⟨gb248, 1, none⟩ = some (.int .i64 x249001_1) ∧ w48.cell? ⟨gb261, 0, none⟩ = some (.int .i64 t258) ∧ w48.cell? ⟨gb261, 1, none⟩ = some (.int .i64 t259) ∧ w48.cell? ⟨gb247, 0, none⟩ = some (.int .i64 t244) ∧ w48.cell? ⟨gb247, 1, none⟩ = some (.int .i64 t245) := hS_
               refine norm_ (a' := ?_) ?_ ?_
               rotate_left
               ·
                simp only [putAll, Act.put, List.setIfInBounds_toArray, List.set_cons_zero, List.set_cons_succ]
                rfl
               refine two_ (i := 4) (j := 10) (Ni := some 44) (Nj := some 13) #[true, true, true, true, true, false, false, false, false, false, false, true, false, false, false] #[true, true, true, true, false, false, false, false, false, false, true, true, false, false, false] rfl rfl rfl rfl (two_of HT_.out (by kernel_rfl)) (by decide) (by decide) (fun K hK => ?_) (fun K hK => ?_)
               ·
                skip
                refine goes_ Try.func12 (by kernel_rfl) rfl #[.int .i64 a1, .int .i64 7] (by rfl) rfl rfl (by (try simp only [List.map_toArray, List.map_cons, List.map_nil]); first | done | rfl | (simp only [List.length_drop, List.length_take]; rfl)) ?_
                with_reducible refine (payrollgen_Mod.calls a1 7 t262 _ A29.out).mono ?_
                rintro e w' ⟨rfl, ⟨nd, rfl⟩⟩
                refine ⟨_, rfl, ?_⟩
                refine hK.out _ _ ⟨(blk_cell BK248.out 0).trans rfl, (blk_cell BK248.out 1).trans rfl, (blk_cell BK261.out 0).trans rfl, (blk_cell BK261.out 1).trans rfl, (blk_cell BK247.out 0).trans rfl, (blk_cell BK247.out 1).trans rfl⟩ (fun hHeld => ?_)
                clear hK K
                refine norm_ (a' := ?_) ?_ ?_
                rotate_left
                ·
                 show Act.put _ (some 44) _ = _
                 simp only [Act.put, List.setIfInBounds_toArray, List.set_cons_zero, List.set_cons_succ, i64_w, i32_w]
                 rfl
                exact norm_ (by first | (simp only [putAll, Act.put, List.setIfInBounds_toArray, List.set_cons_zero, List.set_cons_succ]; done) | (simp only [putAll, Act.put, List.setIfInBounds_toArray, List.set_cons_zero, List.set_cons_succ]; rfl)) (hJ4_11 (gb269) _ ⟨hHeld, (re_ HO255), (by (with_reducible repeat (first | refine blk_drewN ?_ _ | refine blk_drew ?_ | refine blk_alloc ?_ _)); exact BK247.out), (by (with_reducible repeat (first | refine blk_drewN ?_ _ | refine blk_drew ?_ | refine blk_alloc ?_ _)); exact BK248.out), (by (with_reducible repeat (first | refine blk_drewN ?_ _ | refine blk_drew ?_ | refine blk_alloc ?_ _)); exact BK249.out), (by (with_reducible repeat (first | refine blk_drewN ?_ _ | refine blk_drew ?_ | refine blk_alloc ?_ _)); exact BK250.out), (by (with_reducible repeat (first | refine blk_drewN ?_ _ | refine blk_drew ?_ | refine blk_alloc ?_ _)); exact BK261.out), (by (with_reducible repeat (first | refine blk_drewN ?_ _ | refine blk_drew ?_ | refine blk_alloc ?_ _)); exact BK269.out), GW269.out, GE269.out, NB243_269.out, NB269_243.out, NB247_269.out, NB269_247.out, NB248_269.out, NB269_248.out, NB249_269.out, NB269_249.out, NB250_269.out, NB269_250.out, NB261_269.out, NB269_261.out, (by repeat (first | (with_reducible first | exact HI243.out | apply IsS53.alloc | apply IsS53.drewN | apply IsS53.drew | apply IsS53.set_1 | refine IsS53.far ?_ NB243_247.out _ | refine IsS53.far ?_ NB243_248.out _ | refine IsS53.far ?_ NB243_249.out _ | refine IsS53.far ?_ NB243_250.out _ | refine IsS53.far ?_ NB243_261.out _ | refine IsS53.far ?_ NB243_269.out _) | exact HI243.out)), (by repeat (first | (with_reducible first | exact HB.out | apply below_alloc | apply pw_below_drewN | apply below_drew1 | refine below_set ?_ (IsS53.ge HI243.out) | refine below_set ?_ GE247.out | refine below_set ?_ GE248.out | refine below_set ?_ GE249.out | refine below_set ?_ GE250.out | refine below_set ?_ GE261.out | refine below_set ?_ GE269.out) | exact HB.out))⟩)
               ·
                skip
                refine box_step ?hg (N := 13) ?hd (cs := #[.int .i64 0, .int .i64 0]) (t := 41) ?hr ?_; (case hd => rfl); (case hg => rfl); (case hr => first | (go_simp; done) | (go_simp; rfl))
                intro gb268 hg w49 hbox hb
                have BK268 := Aside0.mk (hbox)
                have GW268 := IsS53.sz_ HI243 HB hg
                have GE268 := IsS53.sz_ HI243 HB hg
                have NB247_268 := nl_ BK247 hg
                have NB268_247 := nr_ BK247 hg
                have NB248_268 := nl_ BK248 hg
                have NB268_248 := nr_ BK248 hg
                have NB249_268 := nl_ BK249 hg
                have NB268_249 := nr_ BK249 hg
                have NB250_268 := nl_ BK250 hg
                have NB268_250 := nr_ BK250 hg
                have NB261_268 := nl_ BK261 hg
                have NB268_261 := nr_ BK261 hg
                have NB269_268 := nl_ BK269 hg
                have NB268_269 := nr_ BK269 hg
                have NB243_268 := IsS53.nl_ HI243 hg
                have NB268_243 := IsS53.nr_ HI243 hg
                replace HO255 := rb_ HO255 hb
                replace BK247 := tb_ BK247 hb
                replace BK248 := tb_ BK248 hb
                replace BK249 := tb_ BK249 hb
                replace BK250 := tb_ BK250 hb
                replace BK261 := tb_ BK261 hb
                replace BK269 := tb_ BK269 hb
                replace HB := IsS53.ts_ HI243 HB hb
                replace HI243 := IsS53.tb_ HI243 hb
                clear hb hbox hg
                refine hK.out _ _ ⟨(blk_cell BK248.out 0).trans rfl, (blk_cell BK248.out 1).trans rfl, (blk_cell BK261.out 0).trans rfl, (blk_cell BK261.out 1).trans rfl, (blk_cell BK247.out 0).trans rfl, (blk_cell BK247.out 1).trans rfl⟩ (fun hHeld => ?_)
                clear hK K
                refine norm_ (a' := ?_) ?_ ?_
                rotate_left
                ·
                 show Act.put _ (some 13) _ = _
                 simp only [Act.put, List.setIfInBounds_toArray, List.set_cons_zero, List.set_cons_succ, i64_w, i32_w]
                 rfl
                exact norm_ (by first | (simp only [putAll, Act.put, List.setIfInBounds_toArray, List.set_cons_zero, List.set_cons_succ]; done) | (simp only [putAll, Act.put, List.setIfInBounds_toArray, List.set_cons_zero, List.set_cons_succ]; rfl)) (hJ10_11 (gb268, gb269) _ ⟨hHeld, (re_ HO255), (by (with_reducible repeat (first | refine blk_drewN ?_ _ | refine blk_drew ?_ | refine blk_alloc ?_ _)); exact BK247.out), (by (with_reducible repeat (first | refine blk_drewN ?_ _ | refine blk_drew ?_ | refine blk_alloc ?_ _)); exact BK248.out), (by (with_reducible repeat (first | refine blk_drewN ?_ _ | refine blk_drew ?_ | refine blk_alloc ?_ _)); exact BK249.out), (by (with_reducible repeat (first | refine blk_drewN ?_ _ | refine blk_drew ?_ | refine blk_alloc ?_ _)); exact BK250.out), (by (with_reducible repeat (first | refine blk_drewN ?_ _ | refine blk_drew ?_ | refine blk_alloc ?_ _)); exact BK261.out), (by (with_reducible repeat (first | refine blk_drewN ?_ _ | refine blk_drew ?_ | refine blk_alloc ?_ _)); exact BK268.out), (by (with_reducible repeat (first | refine blk_drewN ?_ _ | refine blk_drew ?_ | refine blk_alloc ?_ _)); exact BK269.out), GW268.out, GE268.out, NB243_268.out, NB268_243.out, NB247_268.out, NB268_247.out, NB248_268.out, NB268_248.out, NB249_268.out, NB268_249.out, NB250_268.out, NB268_250.out, NB261_268.out, NB268_261.out, NB269_268.out, NB268_269.out, GW269.out, GE269.out, NB243_269.out, NB269_243.out, NB247_269.out, NB269_247.out, NB248_269.out, NB269_248.out, NB249_269.out, NB269_249.out, NB250_269.out, NB269_250.out, NB261_269.out, NB269_261.out, (by repeat (first | (with_reducible first | exact HI243.out | apply IsS53.alloc | apply IsS53.drewN | apply IsS53.drew | apply IsS53.set_1 | refine IsS53.far ?_ NB243_247.out _ | refine IsS53.far ?_ NB243_248.out _ | refine IsS53.far ?_ NB243_249.out _ | refine IsS53.far ?_ NB243_250.out _ | refine IsS53.far ?_ NB243_261.out _ | refine IsS53.far ?_ NB243_269.out _ | refine IsS53.far ?_ NB243_268.out _) | exact HI243.out)), (by repeat (first | (with_reducible first | exact HB.out | apply below_alloc | apply pw_below_drewN | apply below_drew1 | refine below_set ?_ (IsS53.ge HI243.out) | refine below_set ?_ GE247.out | refine below_set ?_ GE248.out | refine below_set ?_ GE249.out | refine below_set ?_ GE250.out | refine below_set ?_ GE261.out | refine below_set ?_ GE269.out | refine below_set ?_ GE268.out) | exact HB.out))⟩)
             ·
              skip
              rintro gb268 w48 ⟨hS_, h0_, h1_, h2_, h3_, h4_, h5_, h6_, h7_, h8_, h9_, h10_, h11_, h12_, h13_, h14_, h15_, h16_, h17_, h18_, h19_, h20_, h21_, h22_⟩
              have n0_ : Aside0 (Kd.R (Kd.int .i64) 3 w48 w.heap.size (fun _ => True) (.slice Ao35 y253.length co35) y253) := ⟨h0_⟩
              have n1_ : Aside0 (w48.heap[gb247]? = some (.cells #[.int .i64 t244, .int .i64 t245] 41 (0, 0))) := ⟨h1_⟩
              have n2_ : Aside0 (w48.heap[gb248]? = some (.cells #[.int .i64 x249000_1, .int .i64 x249001_1] 41 (0, 0))) := ⟨h2_⟩
              have n3_ : Aside0 (w48.heap[gb249]? = some (.cells #[.int .i64 x250000_1, .int .i64 x250001_1] 41 (0, 0))) := ⟨h3_⟩
              have n4_ : Aside0 (w48.heap[gb250]? = some (.cells #[.int .i64 x251000_1, .int .i64 x251001_1] 41 (0, 0))) := ⟨h4_⟩
              have n5_ : Aside0 (w48.heap[gb261]? = some (.cells #[.int .i64 t258, .int .i64 t259] 41 (0, 0))) := ⟨h5_⟩
              have n6_ : Aside0 (w48.heap[gb268]? = some (.cells #[.int .i64 0, .int .i64 0] 41 (0, 0))) := ⟨h6_⟩
              have n7_ : Aside0 (w.heap.size ≤ gb268) := ⟨h7_⟩
              have n8_ : Aside0 (w.heap.size ≤ gb268) := ⟨h8_⟩
              have n9_ : Aside0 (g243 ≠ gb268) := ⟨h9_⟩
              have n10_ : Aside0 (gb268 ≠ g243) := ⟨h10_⟩
              have n11_ : Aside0 (gb247 ≠ gb268) := ⟨h11_⟩
              have n12_ : Aside0 (gb268 ≠ gb247) := ⟨h12_⟩
              have n13_ : Aside0 (gb248 ≠ gb268) := ⟨h13_⟩
              have n14_ : Aside0 (gb268 ≠ gb248) := ⟨h14_⟩
              have n15_ : Aside0 (gb249 ≠ gb268) := ⟨h15_⟩
              have n16_ : Aside0 (gb268 ≠ gb249) := ⟨h16_⟩
              have n17_ : Aside0 (gb250 ≠ gb268) := ⟨h17_⟩
              have n18_ : Aside0 (gb268 ≠ gb250) := ⟨h18_⟩
              have n19_ : Aside0 (gb261 ≠ gb268) := ⟨h19_⟩
              have n20_ : Aside0 (gb268 ≠ gb261) := ⟨h20_⟩
              have n21_ : Aside0 (IsS53 w w48 g243 t241 t257) := ⟨h21_⟩
              have n22_ : Aside0 (Below w.heap.size w w48) := ⟨h22_⟩
              clear HO255
              clear BK247
              clear BK248
              clear BK249
              clear BK250
              clear BK261
              clear HI243
              clear HB
              clear h0_ h1_ h2_ h3_ h4_ h5_ h6_ h7_ h8_ h9_ h10_ h11_ h12_ h13_ h14_ h15_ h16_ h17_ h18_ h19_ h20_ h21_ h22_
              have HO255 := n0_
              have BK247 := n1_
              have BK248 := n2_
              have BK249 := n3_
              have BK250 := n4_
              have BK261 := n5_
              have BK268 := n6_
              have GW268 := n7_
              have GE268 := n8_
              have NB243_268 := n9_
              have NB268_243 := n10_
              have NB247_268 := n11_
              have NB268_247 := n12_
              have NB248_268 := n13_
              have NB268_248 := n14_
              have NB249_268 := n15_
              have NB268_249 := n16_
              have NB250_268 := n17_
              have NB268_250 := n18_
              have NB261_268 := n19_
              have NB268_261 := n20_
              have HI243 := n21_
              have HB := n22_
              clear n0_ n1_ n2_ n3_ n4_ n5_ n6_ n7_ n8_ n9_ n10_ n11_ n12_ n13_ n14_ n15_ n16_ n17_ n18_ n19_ n20_ n21_ n22_
              have hHeld : w48.cell? ⟨gb248, 0, none⟩ = some (.int .i64 x249000_1) ∧ w48.cell? ⟨gb248, 1, none⟩ = some (.int .i64 x249001_1) ∧ w48.cell? ⟨gb261, 0, none⟩ = some (.int .i64 t258) ∧ w48.cell? ⟨gb261, 1, none⟩ = some (.int .i64 t259) ∧ w48.cell? ⟨gb247, 0, none⟩ = some (.int .i64 t244) ∧ w48.cell? ⟨gb247, 1, none⟩ = some (.int .i64 t245) := hS_
              refine norm_ (a' := ?_) ?_ ?_
              rotate_left
              ·
               simp only [putAll, Act.put, List.setIfInBounds_toArray, List.set_cons_zero, List.set_cons_succ]
               rfl
              refine two_ (i := 4) (j := 11) (Ni := some 44) (Nj := some 14) #[true, true, true, true, true, false, false, false, false, false, true, false, false, false, false] #[true, true, true, true, false, false, false, false, false, false, true, true, false, false, false] rfl rfl rfl rfl (two_of HT_.out (by kernel_rfl)) (by decide) (by decide) (fun K hK => ?_) (fun K hK => ?_)
              ·
               skip
               refine goes_ Try.func12 (by kernel_rfl) rfl #[.int .i64 a1, .int .i64 7] (by rfl) rfl rfl (by (try simp only [List.map_toArray, List.map_cons, List.map_nil]); first | done | rfl | (simp only [List.length_drop, List.length_take]; rfl)) ?_
               with_reducible refine (payrollgen_Mod.calls a1 7 t262 _ A29.out).mono ?_
               rintro e w' ⟨rfl, ⟨nd, rfl⟩⟩
               refine ⟨_, rfl, ?_⟩
               refine hK.out _ _ ⟨(blk_cell BK248.out 0).trans rfl, (blk_cell BK248.out 1).trans rfl, (blk_cell BK261.out 0).trans rfl, (blk_cell BK261.out 1).trans rfl, (blk_cell BK247.out 0).trans rfl, (blk_cell BK247.out 1).trans rfl⟩ (fun hHeld => ?_)
               clear hK K
               refine norm_ (a' := ?_) ?_ ?_
               rotate_left
               ·
                show Act.put _ (some 44) _ = _
                simp only [Act.put, List.setIfInBounds_toArray, List.set_cons_zero, List.set_cons_succ, i64_w, i32_w]
                rfl
               exact norm_ (by first | (simp only [putAll, Act.put, List.setIfInBounds_toArray, List.set_cons_zero, List.set_cons_succ]; done) | (simp only [putAll, Act.put, List.setIfInBounds_toArray, List.set_cons_zero, List.set_cons_succ]; rfl)) (hJ4_10 (gb268) _ ⟨hHeld, (re_ HO255), (by (with_reducible repeat (first | refine blk_drewN ?_ _ | refine blk_drew ?_ | refine blk_alloc ?_ _)); exact BK247.out), (by (with_reducible repeat (first | refine blk_drewN ?_ _ | refine blk_drew ?_ | refine blk_alloc ?_ _)); exact BK248.out), (by (with_reducible repeat (first | refine blk_drewN ?_ _ | refine blk_drew ?_ | refine blk_alloc ?_ _)); exact BK249.out), (by (with_reducible repeat (first | refine blk_drewN ?_ _ | refine blk_drew ?_ | refine blk_alloc ?_ _)); exact BK250.out), (by (with_reducible repeat (first | refine blk_drewN ?_ _ | refine blk_drew ?_ | refine blk_alloc ?_ _)); exact BK261.out), (by (with_reducible repeat (first | refine blk_drewN ?_ _ | refine blk_drew ?_ | refine blk_alloc ?_ _)); exact BK268.out), GW268.out, GE268.out, NB243_268.out, NB268_243.out, NB247_268.out, NB268_247.out, NB248_268.out, NB268_248.out, NB249_268.out, NB268_249.out, NB250_268.out, NB268_250.out, NB261_268.out, NB268_261.out, (by repeat (first | (with_reducible first | exact HI243.out | apply IsS53.alloc | apply IsS53.drewN | apply IsS53.drew | apply IsS53.set_1 | refine IsS53.far ?_ NB243_247.out _ | refine IsS53.far ?_ NB243_248.out _ | refine IsS53.far ?_ NB243_249.out _ | refine IsS53.far ?_ NB243_250.out _ | refine IsS53.far ?_ NB243_261.out _ | refine IsS53.far ?_ NB243_268.out _) | exact HI243.out)), (by repeat (first | (with_reducible first | exact HB.out | apply below_alloc | apply pw_below_drewN | apply below_drew1 | refine below_set ?_ (IsS53.ge HI243.out) | refine below_set ?_ GE247.out | refine below_set ?_ GE248.out | refine below_set ?_ GE249.out | refine below_set ?_ GE250.out | refine below_set ?_ GE261.out | refine below_set ?_ GE268.out) | exact HB.out))⟩)
              ·
               skip
               refine box_step ?hg (N := 14) ?hd (cs := #[.int .i64 0, .int .i64 0]) (t := 41) ?hr ?_; (case hd => rfl); (case hg => rfl); (case hr => first | (go_simp; done) | (go_simp; rfl))
               intro gb269 hg w49 hbox hb
               have BK269 := Aside0.mk (hbox)
               have GW269 := IsS53.sz_ HI243 HB hg
               have GE269 := IsS53.sz_ HI243 HB hg
               have NB247_269 := nl_ BK247 hg
               have NB269_247 := nr_ BK247 hg
               have NB248_269 := nl_ BK248 hg
               have NB269_248 := nr_ BK248 hg
               have NB249_269 := nl_ BK249 hg
               have NB269_249 := nr_ BK249 hg
               have NB250_269 := nl_ BK250 hg
               have NB269_250 := nr_ BK250 hg
               have NB261_269 := nl_ BK261 hg
               have NB269_261 := nr_ BK261 hg
               have NB268_269 := nl_ BK268 hg
               have NB269_268 := nr_ BK268 hg
               have NB243_269 := IsS53.nl_ HI243 hg
               have NB269_243 := IsS53.nr_ HI243 hg
               replace HO255 := rb_ HO255 hb
               replace BK247 := tb_ BK247 hb
               replace BK248 := tb_ BK248 hb
               replace BK249 := tb_ BK249 hb
               replace BK250 := tb_ BK250 hb
               replace BK261 := tb_ BK261 hb
               replace BK268 := tb_ BK268 hb
               replace HB := IsS53.ts_ HI243 HB hb
               replace HI243 := IsS53.tb_ HI243 hb
               clear hb hbox hg
               refine hK.out _ _ ⟨(blk_cell BK248.out 0).trans rfl, (blk_cell BK248.out 1).trans rfl, (blk_cell BK261.out 0).trans rfl, (blk_cell BK261.out 1).trans rfl, (blk_cell BK247.out 0).trans rfl, (blk_cell BK247.out 1).trans rfl⟩ (fun hHeld => ?_)
               clear hK K
               refine norm_ (a' := ?_) ?_ ?_
               rotate_left
               ·
                show Act.put _ (some 14) _ = _
                simp only [Act.put, List.setIfInBounds_toArray, List.set_cons_zero, List.set_cons_succ, i64_w, i32_w]
                rfl
               exact norm_ (by first | (simp only [putAll, Act.put, List.setIfInBounds_toArray, List.set_cons_zero, List.set_cons_succ]; done) | (simp only [putAll, Act.put, List.setIfInBounds_toArray, List.set_cons_zero, List.set_cons_succ]; rfl)) (hJ10_11 (gb268, gb269) _ ⟨hHeld, (re_ HO255), (by (with_reducible repeat (first | refine blk_drewN ?_ _ | refine blk_drew ?_ | refine blk_alloc ?_ _)); exact BK247.out), (by (with_reducible repeat (first | refine blk_drewN ?_ _ | refine blk_drew ?_ | refine blk_alloc ?_ _)); exact BK248.out), (by (with_reducible repeat (first | refine blk_drewN ?_ _ | refine blk_drew ?_ | refine blk_alloc ?_ _)); exact BK249.out), (by (with_reducible repeat (first | refine blk_drewN ?_ _ | refine blk_drew ?_ | refine blk_alloc ?_ _)); exact BK250.out), (by (with_reducible repeat (first | refine blk_drewN ?_ _ | refine blk_drew ?_ | refine blk_alloc ?_ _)); exact BK261.out), (by (with_reducible repeat (first | refine blk_drewN ?_ _ | refine blk_drew ?_ | refine blk_alloc ?_ _)); exact BK268.out), (by (with_reducible repeat (first | refine blk_drewN ?_ _ | refine blk_drew ?_ | refine blk_alloc ?_ _)); exact BK269.out), GW268.out, GE268.out, NB243_268.out, NB268_243.out, NB247_268.out, NB268_247.out, NB248_268.out, NB268_248.out, NB249_268.out, NB268_249.out, NB250_268.out, NB268_250.out, NB261_268.out, NB268_261.out, NB269_268.out, NB268_269.out, GW269.out, GE269.out, NB243_269.out, NB269_243.out, NB247_269.out, NB269_247.out, NB248_269.out, NB269_248.out, NB249_269.out, NB269_249.out, NB250_269.out, NB269_250.out, NB261_269.out, NB269_261.out, (by repeat (first | (with_reducible first | exact HI243.out | apply IsS53.alloc | apply IsS53.drewN | apply IsS53.drew | apply IsS53.set_1 | refine IsS53.far ?_ NB243_247.out _ | refine IsS53.far ?_ NB243_248.out _ | refine IsS53.far ?_ NB243_249.out _ | refine IsS53.far ?_ NB243_250.out _ | refine IsS53.far ?_ NB243_261.out _ | refine IsS53.far ?_ NB243_268.out _ | refine IsS53.far ?_ NB243_269.out _) | exact HI243.out)), (by repeat (first | (with_reducible first | exact HB.out | apply below_alloc | apply pw_below_drewN | apply below_drew1 | refine below_set ?_ (IsS53.ge HI243.out) | refine below_set ?_ GE247.out | refine below_set ?_ GE248.out | refine below_set ?_ GE249.out | refine below_set ?_ GE250.out | refine below_set ?_ GE261.out | refine below_set ?_ GE268.out | refine below_set ?_ GE269.out) | exact HB.out))⟩)
            ·
             skip
             rintro _ w47 ⟨hS_, h0_, h1_, h2_, h3_, h4_, h5_, h6_, h7_⟩
             have n0_ : Aside0 (Kd.R (Kd.int .i64) 3 w47 w.heap.size (fun _ => True) (.slice Ao35 y253.length co35) y253) := ⟨h0_⟩
             have n1_ : Aside0 (w47.heap[gb247]? = some (.cells #[.int .i64 t244, .int .i64 t245] 41 (0, 0))) := ⟨h1_⟩
             have n2_ : Aside0 (w47.heap[gb248]? = some (.cells #[.int .i64 x249000_1, .int .i64 x249001_1] 41 (0, 0))) := ⟨h2_⟩
             have n3_ : Aside0 (w47.heap[gb249]? = some (.cells #[.int .i64 x250000_1, .int .i64 x250001_1] 41 (0, 0))) := ⟨h3_⟩
             have n4_ : Aside0 (w47.heap[gb250]? = some (.cells #[.int .i64 x251000_1, .int .i64 x251001_1] 41 (0, 0))) := ⟨h4_⟩
             have n5_ : Aside0 (w47.heap[gb261]? = some (.cells #[.int .i64 t258, .int .i64 t259] 41 (0, 0))) := ⟨h5_⟩
             have n6_ : Aside0 (IsS53 w w47 g243 t241 t257) := ⟨h6_⟩
             have n7_ : Aside0 (Below w.heap.size w w47) := ⟨h7_⟩
             clear HO255
             clear BK247
             clear BK248
             clear BK249
             clear BK250
             clear BK261
             clear HI243
             clear HB
             clear h0_ h1_ h2_ h3_ h4_ h5_ h6_ h7_
             have HO255 := n0_
             have BK247 := n1_
             have BK248 := n2_
             have BK249 := n3_
             have BK250 := n4_
             have BK261 := n5_
             have HI243 := n6_
             have HB := n7_
             clear n0_ n1_ n2_ n3_ n4_ n5_ n6_ n7_
             have hHeld : w47.cell? ⟨gb248, 0, none⟩ = some (.int .i64 x249000_1) ∧ w47.cell? ⟨gb248, 1, none⟩ = some (.int .i64 x249001_1) ∧ w47.cell? ⟨gb261, 0, none⟩ = some (.int .i64 t258) ∧ w47.cell? ⟨gb261, 1, none⟩ = some (.int .i64 t259) ∧ w47.cell? ⟨gb247, 0, none⟩ = some (.int .i64 t244) ∧ w47.cell? ⟨gb247, 1, none⟩ = some (.int .i64 t245) := hS_
             refine norm_ (a' := ?_) ?_ ?_
             rotate_left
             ·
              simp only [putAll, Act.put, List.setIfInBounds_toArray, List.set_cons_zero, List.set_cons_succ]
              rfl
             refine three_ (i := 5) (j := 10) (k := 11) (Ni := some 45) (Nj := some 13) (Nk := some 14) #[true, true, true, true, true, true, false, false, false, false, false, false, false, false, false] #[true, true, true, true, true, false, false, false, false, false, true, false, false, false, false] #[true, true, true, true, true, false, false, false, false, false, false, true, false, false, false] rfl rfl rfl rfl rfl rfl (three_of HT_.out (by kernel_rfl)) (by decide) (by decide) (by decide) (fun K hK => ?_) (fun K hK => ?_) (fun K hK => ?_)
             ·
              skip
              refine goes_ Try.func32 (by kernel_rfl) rfl #[.agg #[.int .i64 x249000_1, .int .i64 x249001_1], .agg #[.int .i64 t258, .int .i64 t259], .agg #[.int .i64 t244, .int .i64 t245], .int .i64 t262] (by rfl) rfl rfl (by (try simp only [List.map_toArray, List.map_cons, List.map_nil]); first | done | rfl | (simp only [List.length_drop, List.length_take]; rfl)) ?_
              with_reducible refine (rounding_Carry.calls k1 x249000_1 x249001_1 t258 t259 t244 t245 t262 t263 t264 t265 t266 t267 _ A30.out).mono ?_
              rintro e w48 ⟨rfl, hb⟩
              refine ⟨_, rfl, ?_⟩
              replace HO255 := rb_ HO255 hb
              replace BK247 := tb_ BK247 hb
              replace BK248 := tb_ BK248 hb
              replace BK249 := tb_ BK249 hb
              replace BK250 := tb_ BK250 hb
              replace BK261 := tb_ BK261 hb
              replace HB := IsS53.ts_ HI243 HB hb
              replace HI243 := IsS53.tb_ HI243 hb
              (try clear hb)
              (try clear hb2)
              (try clear hk)
              (try clear hi)
              refine hK.out _ _ ⟨(blk_cell BK248.out 0).trans rfl, (blk_cell BK248.out 1).trans rfl, (blk_cell BK261.out 0).trans rfl, (blk_cell BK261.out 1).trans rfl, (blk_cell BK247.out 0).trans rfl, (blk_cell BK247.out 1).trans rfl⟩ (fun hHeld => ?_)
              clear hK K
              refine norm_ (a' := ?_) ?_ ?_
              rotate_left
              ·
               show Act.put _ (some 45) _ = _
               simp only [Act.put, List.setIfInBounds_toArray, List.set_cons_zero, List.set_cons_succ, i64_w, i32_w]
               rfl
              refine pure_ (i := 6) (N := some 39) (v := ?_) (a' := ?_) #[true, true, true, true, true, true, true, false, false, false, false, false, false, false, false] rfl rfl (any_of HT_.out (by kernel_rfl)) (fun _ _ _ h => h) (Or.inl ⟨by rfl, ?_⟩) ?_ ?_
              rotate_left
              ·
               intro w'
               go_simp
               with_reducible rfl
              rotate_left
              ·
               simp only [Act.put, List.setIfInBounds_toArray, List.set_cons_zero, List.set_cons_succ, i64_w, i32_w]
               rfl
              refine pure_ (i := 7) (N := some 46) (v := ?_) (a' := ?_) #[true, true, true, true, true, true, true, true, false, false, false, false, false, false, false] rfl rfl (any_of HT_.out (by kernel_rfl)) (fun _ _ _ h => h) (Or.inl ⟨by rfl, ?_⟩) ?_ ?_
              rotate_left
              ·
               intro w'
               go_simp
               with_reducible rfl
              rotate_left
              ·
               simp only [Act.put, List.setIfInBounds_toArray, List.set_cons_zero, List.set_cons_succ, i64_w, i32_w]
               rfl
              refine pure_ (i := 8) (N := some 47) (v := ?_) (a' := ?_) #[true, true, true, true, true, true, true, true, true, false, false, false, false, false, false] rfl rfl (any_of HT_.out (by kernel_rfl)) (fun _ _ _ h => h) (Or.inl ⟨by rfl, ?_⟩) ?_ ?_
              rotate_left
              ·
               intro w'
               go_simp
               with_reducible rfl
              rotate_left
              ·
               simp only [Act.put, List.setIfInBounds_toArray, List.set_cons_zero, List.set_cons_succ, i64_w, i32_w]
               rfl
              refine pure_ (i := 9) (N := some 48) (v := ?_) (a' := ?_) #[true, true, true, true, true, true, true, true, true, true, false, false, false, false, false] rfl rfl (any_of HT_.out (by kernel_rfl)) (fun _ _ _ h => h) (Or.inl ⟨by rfl, ?_⟩) ?_ ?_
              rotate_left
              ·
               intro w'
               go_simp
               with_reducible rfl
              rotate_left
              ·
               simp only [Act.put, List.setIfInBounds_toArray, List.set_cons_zero, List.set_cons_succ, i64_w, i32_w]
               rfl
              exact norm_ (by first | (simp only [putAll, Act.put, List.setIfInBounds_toArray, List.set_cons_zero, List.set_cons_succ]; done) | (simp only [putAll, Act.put, List.setIfInBounds_toArray, List.set_cons_zero, List.set_cons_succ]; rfl)) (hJ4_5 () _ ⟨hHeld, (re_ HO255), (by (with_reducible repeat (first | refine blk_drewN ?_ _ | refine blk_drew ?_ | refine blk_alloc ?_ _)); exact BK247.out), (by (with_reducible repeat (first | refine blk_drewN ?_ _ | refine blk_drew ?_ | refine blk_alloc ?_ _)); exact BK248.out), (by (with_reducible repeat (first | refine blk_drewN ?_ _ | refine blk_drew ?_ | refine blk_alloc ?_ _)); exact BK249.out), (by (with_reducible repeat (first | refine blk_drewN ?_ _ | refine blk_drew ?_ | refine blk_alloc ?_ _)); exact BK250.out), (by (with_reducible repeat (first | refine blk_drewN ?_ _ | refine blk_drew ?_ | refine blk_alloc ?_ _)); exact BK261.out), (by repeat (first | (with_reducible first | exact HI243.out | apply IsS53.alloc | apply IsS53.drewN | apply IsS53.drew | apply IsS53.set_1 | refine IsS53.far ?_ NB243_247.out _ | refine IsS53.far ?_ NB243_248.out _ | refine IsS53.far ?_ NB243_249.out _ | refine IsS53.far ?_ NB243_250.out _ | refine IsS53.far ?_ NB243_261.out _) | exact HI243.out)), (by repeat (first | (with_reducible first | exact HB.out | apply below_alloc | apply pw_below_drewN | apply below_drew1 | refine below_set ?_ (IsS53.ge HI243.out) | refine below_set ?_ GE247.out | refine below_set ?_ GE248.out | refine below_set ?_ GE249.out | refine below_set ?_ GE250.out | refine below_set ?_ GE261.out) | exact HB.out))⟩)
             ·
              skip
              refine box_step ?hg (N := 13) ?hd (cs := #[.int .i64 0, .int .i64 0]) (t := 41) ?hr ?_; (case hd => rfl); (case hg => rfl); (case hr => first | (go_simp; done) | (go_simp; rfl))
              intro gb268 hg w48 hbox hb
              have BK268 := Aside0.mk (hbox)
              have GW268 := IsS53.sz_ HI243 HB hg
              have GE268 := IsS53.sz_ HI243 HB hg
              have NB247_268 := nl_ BK247 hg
              have NB268_247 := nr_ BK247 hg
              have NB248_268 := nl_ BK248 hg
              have NB268_248 := nr_ BK248 hg
              have NB249_268 := nl_ BK249 hg
              have NB268_249 := nr_ BK249 hg
              have NB250_268 := nl_ BK250 hg
              have NB268_250 := nr_ BK250 hg
              have NB261_268 := nl_ BK261 hg
              have NB268_261 := nr_ BK261 hg
              have NB243_268 := IsS53.nl_ HI243 hg
              have NB268_243 := IsS53.nr_ HI243 hg
              replace HO255 := rb_ HO255 hb
              replace BK247 := tb_ BK247 hb
              replace BK248 := tb_ BK248 hb
              replace BK249 := tb_ BK249 hb
              replace BK250 := tb_ BK250 hb
              replace BK261 := tb_ BK261 hb
              replace HB := IsS53.ts_ HI243 HB hb
              replace HI243 := IsS53.tb_ HI243 hb
              clear hb hbox hg
              refine hK.out _ _ ⟨(blk_cell BK248.out 0).trans rfl, (blk_cell BK248.out 1).trans rfl, (blk_cell BK261.out 0).trans rfl, (blk_cell BK261.out 1).trans rfl, (blk_cell BK247.out 0).trans rfl, (blk_cell BK247.out 1).trans rfl⟩ (fun hHeld => ?_)
              clear hK K
              refine norm_ (a' := ?_) ?_ ?_
              rotate_left
              ·
               show Act.put _ (some 13) _ = _
               simp only [Act.put, List.setIfInBounds_toArray, List.set_cons_zero, List.set_cons_succ, i64_w, i32_w]
               rfl
              exact norm_ (by first | (simp only [putAll, Act.put, List.setIfInBounds_toArray, List.set_cons_zero, List.set_cons_succ]; done) | (simp only [putAll, Act.put, List.setIfInBounds_toArray, List.set_cons_zero, List.set_cons_succ]; rfl)) (hJ4_10 (gb268) _ ⟨hHeld, (re_ HO255), (by (with_reducible repeat (first | refine blk_drewN ?_ _ | refine blk_drew ?_ | refine blk_alloc ?_ _)); exact BK247.out), (by (with_reducible repeat (first | refine blk_drewN ?_ _ | refine blk_drew ?_ | refine blk_alloc ?_ _)); exact BK248.out), (by (with_reducible repeat (first | refine blk_drewN ?_ _ | refine blk_drew ?_ | refine blk_alloc ?_ _)); exact BK249.out), (by (with_reducible repeat (first | refine blk_drewN ?_ _ | refine blk_drew ?_ | refine blk_alloc ?_ _)); exact BK250.out), (by (with_reducible repeat (first | refine blk_drewN ?_ _ | refine blk_drew ?_ | refine blk_alloc ?_ _)); exact BK261.out), (by (with_reducible repeat (first | refine blk_drewN ?_ _ | refine blk_drew ?_ | refine blk_alloc ?_ _)); exact BK268.out), GW268.out, GE268.out, NB243_268.out, NB268_243.out, NB247_268.out, NB268_247.out, NB248_268.out, NB268_248.out, NB249_268.out, NB268_249.out, NB250_268.out, NB268_250.out, NB261_268.out, NB268_261.out, (by repeat (first | (with_reducible first | exact HI243.out | apply IsS53.alloc | apply IsS53.drewN | apply IsS53.drew | apply IsS53.set_1 | refine IsS53.far ?_ NB243_247.out _ | refine IsS53.far ?_ NB243_248.out _ | refine IsS53.far ?_ NB243_249.out _ | refine IsS53.far ?_ NB243_250.out _ | refine IsS53.far ?_ NB243_261.out _ | refine IsS53.far ?_ NB243_268.out _) | exact HI243.out)), (by repeat (first | (with_reducible first | exact HB.out | apply below_alloc | apply pw_below_drewN | apply below_drew1 | refine below_set ?_ (IsS53.ge HI243.out) | refine below_set ?_ GE247.out | refine below_set ?_ GE248.out | refine below_set ?_ GE249.out | refine below_set ?_ GE250.out | refine below_set ?_ GE261.out | refine below_set ?_ GE268.out) | exact HB.out))⟩)
             ·
              skip
              refine box_step ?hg (N := 14) ?hd (cs := #[.int .i64 0, .int .i64 0]) (t := 41) ?hr ?_; (case hd => rfl); (case hg => rfl); (case hr => first | (go_simp; done) | (go_simp; rfl))
              intro gb269 hg w48 hbox hb
              have BK269 := Aside0.mk (hbox)
              have GW269 := IsS53.sz_ HI243 HB hg
              have GE269 := IsS53.sz_ HI243 HB hg
              have NB247_269 := nl_ BK247 hg
              have NB269_247 := nr_ BK247 hg
              have NB248_269 := nl_ BK248 hg
              have NB269_248 := nr_ BK248 hg
              have NB249_269 := nl_ BK249 hg
              have NB269_249 := nr_ BK249 hg
              have NB250_269 := nl_ BK250 hg
              have NB269_250 := nr_ BK250 hg
              have NB261_269 := nl_ BK261 hg
              have NB269_261 := nr_ BK261 hg
              have NB243_269 := IsS53.nl_ HI243 hg
              have NB269_243 := IsS53.nr_ HI243 hg
              replace HO255 := rb_ HO255 hb
              replace BK247 := tb_ BK247 hb
              replace BK248 := tb_ BK248 hb
              replace BK249 := tb_ BK249 hb
              replace BK250 := tb_ BK250 hb
              replace BK261 := tb_ BK261 hb
              replace HB := IsS53.ts_ HI243 HB hb
              replace HI243 := IsS53.tb_ HI243 hb
              clear hb hbox hg
              refine hK.out _ _ ⟨(blk_cell BK248.out 0).trans rfl, (blk_cell BK248.out 1).trans rfl, (blk_cell BK261.out 0).trans rfl, (blk_cell BK261.out 1).trans rfl, (blk_cell BK247.out 0).trans rfl, (blk_cell BK247.out 1).trans rfl⟩ (fun hHeld => ?_)
              clear hK K
              refine norm_ (a' := ?_) ?_ ?_
              rotate_left
              ·
               show Act.put _ (some 14) _ = _
               simp only [Act.put, List.setIfInBounds_toArray, List.set_cons_zero, List.set_cons_succ, i64_w, i32_w]
               rfl
              exact norm_ (by first | (simp only [putAll, Act.put, List.setIfInBounds_toArray, List.set_cons_zero, List.set_cons_succ]; done) | (simp only [putAll, Act.put, List.setIfInBounds_toArray, List.set_cons_zero, List.set_cons_succ]; rfl)) (hJ4_11 (gb269) _ ⟨hHeld, (re_ HO255), (by (with_reducible repeat (first | refine blk_drewN ?_ _ | refine blk_drew ?_ | refine blk_alloc ?_ _)); exact BK247.out), (by (with_reducible repeat (first | refine blk_drewN ?_ _ | refine blk_drew ?_ | refine blk_alloc ?_ _)); exact BK248.out), (by (with_reducible repeat (first | refine blk_drewN ?_ _ | refine blk_drew ?_ | refine blk_alloc ?_ _)); exact BK249.out), (by (with_reducible repeat (first | refine blk_drewN ?_ _ | refine blk_drew ?_ | refine blk_alloc ?_ _)); exact BK250.out), (by (with_reducible repeat (first | refine blk_drewN ?_ _ | refine blk_drew ?_ | refine blk_alloc ?_ _)); exact BK261.out), (by (with_reducible repeat (first | refine blk_drewN ?_ _ | refine blk_drew ?_ | refine blk_alloc ?_ _)); exact BK269.out), GW269.out, GE269.out, NB243_269.out, NB269_243.out, NB247_269.out, NB269_247.out, NB248_269.out, NB269_248.out, NB249_269.out, NB269_249.out, NB250_269.out, NB269_250.out, NB261_269.out, NB269_261.out, (by repeat (first | (with_reducible first | exact HI243.out | apply IsS53.alloc | apply IsS53.drewN | apply IsS53.drew | apply IsS53.set_1 | refine IsS53.far ?_ NB243_247.out _ | refine IsS53.far ?_ NB243_248.out _ | refine IsS53.far ?_ NB243_249.out _ | refine IsS53.far ?_ NB243_250.out _ | refine IsS53.far ?_ NB243_261.out _ | refine IsS53.far ?_ NB243_269.out _) | exact HI243.out)), (by repeat (first | (with_reducible first | exact HB.out | apply below_alloc | apply pw_below_drewN | apply below_drew1 | refine below_set ?_ (IsS53.ge HI243.out) | refine below_set ?_ GE247.out | refine below_set ?_ GE248.out | refine below_set ?_ GE249.out | refine below_set ?_ GE250.out | refine below_set ?_ GE261.out | refine below_set ?_ GE269.out) | exact HB.out))⟩)
           ·
            skip
            rintro ⟨gb268, gb269⟩ w49 ⟨hS_, h0_, h1_, h2_, h3_, h4_, h5_, h6_, h7_, h8_, h9_, h10_, h11_, h12_, h13_, h14_, h15_, h16_, h17_, h18_, h19_, h20_, h21_, h22_, h23_, h24_, h25_, h26_, h27_, h28_, h29_, h30_, h31_, h32_, h33_, h34_, h35_, h36_, h37_, h38_, h39_⟩
            have n0_ : Aside0 (Kd.R (Kd.int .i64) 3 w49 w.heap.size (fun _ => True) (.slice Ao35 y253.length co35) y253) := ⟨h0_⟩
            have n1_ : Aside0 (w49.heap[gb247]? = some (.cells #[.int .i64 t244, .int .i64 t245] 41 (0, 0))) := ⟨h1_⟩
            have n2_ : Aside0 (w49.heap[gb248]? = some (.cells #[.int .i64 x249000_1, .int .i64 x249001_1] 41 (0, 0))) := ⟨h2_⟩
            have n3_ : Aside0 (w49.heap[gb249]? = some (.cells #[.int .i64 x250000_1, .int .i64 x250001_1] 41 (0, 0))) := ⟨h3_⟩
            have n4_ : Aside0 (w49.heap[gb250]? = some (.cells #[.int .i64 x251000_1, .int .i64 x251001_1] 41 (0, 0))) := ⟨h4_⟩
            have n5_ : Aside0 (w49.heap[gb261]? = some (.cells #[.int .i64 t258, .int .i64 t259] 41 (0, 0))) := ⟨h5_⟩
            have n6_ : Aside0 (w49.heap[gb268]? = some (.cells #[.int .i64 0, .int .i64 0] 41 (0, 0))) := ⟨h6_⟩
            have n7_ : Aside0 (w49.heap[gb269]? = some (.cells #[.int .i64 0, .int .i64 0] 41 (0, 0))) := ⟨h7_⟩
            have n8_ : Aside0 (w.heap.size ≤ gb268) := ⟨h8_⟩
            have n9_ : Aside0 (w.heap.size ≤ gb268) := ⟨h9_⟩
            have n10_ : Aside0 (g243 ≠ gb268) := ⟨h10_⟩
            have n11_ : Aside0 (gb268 ≠ g243) := ⟨h11_⟩
            have n12_ : Aside0 (gb247 ≠ gb268) := ⟨h12_⟩
            have n13_ : Aside0 (gb268 ≠ gb247) := ⟨h13_⟩
            have n14_ : Aside0 (gb248 ≠ gb268) := ⟨h14_⟩
            have n15_ : Aside0 (gb268 ≠ gb248) := ⟨h15_⟩
            have n16_ : Aside0 (gb249 ≠ gb268) := ⟨h16_⟩
            have n17_ : Aside0 (gb268 ≠ gb249) := ⟨h17_⟩
            have n18_ : Aside0 (gb250 ≠ gb268) := ⟨h18_⟩
            have n19_ : Aside0 (gb268 ≠ gb250) := ⟨h19_⟩
            have n20_ : Aside0 (gb261 ≠ gb268) := ⟨h20_⟩
            have n21_ : Aside0 (gb268 ≠ gb261) := ⟨h21_⟩
            have n22_ : Aside0 (gb269 ≠ gb268) := ⟨h22_⟩
            have n23_ : Aside0 (gb268 ≠ gb269) := ⟨h23_⟩
            have n24_ : Aside0 (w.heap.size ≤ gb269) := ⟨h24_⟩
            have n25_ : Aside0 (w.heap.size ≤ gb269) := ⟨h25_⟩
            have n26_ : Aside0 (g243 ≠ gb269) := ⟨h26_⟩
            have n27_ : Aside0 (gb269 ≠ g243) := ⟨h27_⟩
            have n28_ : Aside0 (gb247 ≠ gb269) := ⟨h28_⟩
            have n29_ : Aside0 (gb269 ≠ gb247) := ⟨h29_⟩
            have n30_ : Aside0 (gb248 ≠ gb269) := ⟨h30_⟩
            have n31_ : Aside0 (gb269 ≠ gb248) := ⟨h31_⟩
            have n32_ : Aside0 (gb249 ≠ gb269) := ⟨h32_⟩
            have n33_ : Aside0 (gb269 ≠ gb249) := ⟨h33_⟩
            have n34_ : Aside0 (gb250 ≠ gb269) := ⟨h34_⟩
            have n35_ : Aside0 (gb269 ≠ gb250) := ⟨h35_⟩
            have n36_ : Aside0 (gb261 ≠ gb269) := ⟨h36_⟩
            have n37_ : Aside0 (gb269 ≠ gb261) := ⟨h37_⟩
            have n38_ : Aside0 (IsS53 w w49 g243 t241 t257) := ⟨h38_⟩
            have n39_ : Aside0 (Below w.heap.size w w49) := ⟨h39_⟩
            clear HO255
            clear BK247
            clear BK248
            clear BK249
            clear BK250
            clear BK261
            clear HI243
            clear HB
            clear h0_ h1_ h2_ h3_ h4_ h5_ h6_ h7_ h8_ h9_ h10_ h11_ h12_ h13_ h14_ h15_ h16_ h17_ h18_ h19_ h20_ h21_ h22_ h23_ h24_ h25_ h26_ h27_ h28_ h29_ h30_ h31_ h32_ h33_ h34_ h35_ h36_ h37_ h38_ h39_
            have HO255 := n0_
            have BK247 := n1_
            have BK248 := n2_
            have BK249 := n3_
            have BK250 := n4_
            have BK261 := n5_
            have BK268 := n6_
            have BK269 := n7_
            have GW268 := n8_
            have GE268 := n9_
            have NB243_268 := n10_
            have NB268_243 := n11_
            have NB247_268 := n12_
            have NB268_247 := n13_
            have NB248_268 := n14_
            have NB268_248 := n15_
            have NB249_268 := n16_
            have NB268_249 := n17_
            have NB250_268 := n18_
            have NB268_250 := n19_
            have NB261_268 := n20_
            have NB268_261 := n21_
            have NB269_268 := n22_
            have NB268_269 := n23_
            have GW269 := n24_
            have GE269 := n25_
            have NB243_269 := n26_
            have NB269_243 := n27_
            have NB247_269 := n28_
            have NB269_247 := n29_
            have NB248_269 := n30_
            have NB269_248 := n31_
            have NB249_269 := n32_
            have NB269_249 := n33_
            have NB250_269 := n34_
            have NB269_250 := n35_
            have NB261_269 := n36_
            have NB269_261 := n37_
            have HI243 := n38_
            have HB := n39_
            clear n0_ n1_ n2_ n3_ n4_ n5_ n6_ n7_ n8_ n9_ n10_ n11_ n12_ n13_ n14_ n15_ n16_ n17_ n18_ n19_ n20_ n21_ n22_ n23_ n24_ n25_ n26_ n27_ n28_ n29_ n30_ n31_ n32_ n33_ n34_ n35_ n36_ n37_ n38_ n39_
            have hHeld : w49.cell? ⟨gb248, 0, none⟩ = some (.int .i64 x249000_1) ∧ w49.cell? ⟨gb248, 1, none⟩ = some (.int .i64 x249001_1) ∧ w49.cell? ⟨gb261, 0, none⟩ = some (.int .i64 t258) ∧ w49.cell? ⟨gb261, 1, none⟩ = some (.int .i64 t259) ∧ w49.cell? ⟨gb247, 0, none⟩ = some (.int .i64 t244) ∧ w49.cell? ⟨gb247, 1, none⟩ = some (.int .i64 t245) := hS_
            refine norm_ (a' := ?_) ?_ ?_
            rotate_left
            ·
             simp only [putAll, Act.put, List.setIfInBounds_toArray, List.set_cons_zero, List.set_cons_succ]
             rfl
            refine one_ (i := 4) (N := some 44) #[true, true, true, true, true, false, false, false, false, false, true, true, false, false, false] rfl rfl (one_of HT_.out (by kernel_rfl)) (by decide) (fun K hK => ?_)
            refine goes_ Try.func12 (by kernel_rfl) rfl #[.int .i64 a1, .int .i64 7] (by rfl) rfl rfl (by (try simp only [List.map_toArray, List.map_cons, List.map_nil]); first | done | rfl | (simp only [List.length_drop, List.length_take]; rfl)) ?_
            with_reducible refine (payrollgen_Mod.calls a1 7 t262 _ A29.out).mono ?_
            rintro e w' ⟨rfl, ⟨nd, rfl⟩⟩
            refine ⟨_, rfl, ?_⟩
            refine hK.out _ _ ⟨(blk_cell BK248.out 0).trans rfl, (blk_cell BK248.out 1).trans rfl, (blk_cell BK261.out 0).trans rfl, (blk_cell BK261.out 1).trans rfl, (blk_cell BK247.out 0).trans rfl, (blk_cell BK247.out 1).trans rfl⟩ (fun hHeld => ?_)
            clear hK K
            refine norm_ (a' := ?_) ?_ ?_
            rotate_left
            ·
             show Act.put _ (some 44) _ = _
             simp only [Act.put, List.setIfInBounds_toArray, List.set_cons_zero, List.set_cons_succ, i64_w, i32_w]
             rfl
            exact norm_ (by first | (simp only [putAll, Act.put, List.setIfInBounds_toArray, List.set_cons_zero, List.set_cons_succ]; done) | (simp only [putAll, Act.put, List.setIfInBounds_toArray, List.set_cons_zero, List.set_cons_succ]; rfl)) (hJ4_10_11 (gb268, gb269) _ ⟨hHeld, (re_ HO255), (by (with_reducible repeat (first | refine blk_drewN ?_ _ | refine blk_drew ?_ | refine blk_alloc ?_ _)); exact BK247.out), (by (with_reducible repeat (first | refine blk_drewN ?_ _ | refine blk_drew ?_ | refine blk_alloc ?_ _)); exact BK248.out), (by (with_reducible repeat (first | refine blk_drewN ?_ _ | refine blk_drew ?_ | refine blk_alloc ?_ _)); exact BK249.out), (by (with_reducible repeat (first | refine blk_drewN ?_ _ | refine blk_drew ?_ | refine blk_alloc ?_ _)); exact BK250.out), (by (with_reducible repeat (first | refine blk_drewN ?_ _ | refine blk_drew ?_ | refine blk_alloc ?_ _)); exact BK261.out), (by (with_reducible repeat (first | refine blk_drewN ?_ _ | refine blk_drew ?_ | refine blk_alloc ?_ _)); exact BK268.out), (by (with_reducible repeat (first | refine blk_drewN ?_ _ | refine blk_drew ?_ | refine blk_alloc ?_ _)); exact BK269.out), GW268.out, GE268.out, NB243_268.out, NB268_243.out, NB247_268.out, NB268_247.out, NB248_268.out, NB268_248.out, NB249_268.out, NB268_249.out, NB250_268.out, NB268_250.out, NB261_268.out, NB268_261.out, NB269_268.out, NB268_269.out, GW269.out, GE269.out, NB243_269.out, NB269_243.out, NB247_269.out, NB269_247.out, NB248_269.out, NB269_248.out, NB249_269.out, NB269_249.out, NB250_269.out, NB269_250.out, NB261_269.out, NB269_261.out, (by repeat (first | (with_reducible first | exact HI243.out | apply IsS53.alloc | apply IsS53.drewN | apply IsS53.drew | apply IsS53.set_1 | refine IsS53.far ?_ NB243_247.out _ | refine IsS53.far ?_ NB243_248.out _ | refine IsS53.far ?_ NB243_249.out _ | refine IsS53.far ?_ NB243_250.out _ | refine IsS53.far ?_ NB243_261.out _ | refine IsS53.far ?_ NB243_268.out _ | refine IsS53.far ?_ NB243_269.out _) | exact HI243.out)), (by repeat (first | (with_reducible first | exact HB.out | apply below_alloc | apply pw_below_drewN | apply below_drew1 | refine below_set ?_ (IsS53.ge HI243.out) | refine below_set ?_ GE247.out | refine below_set ?_ GE248.out | refine below_set ?_ GE249.out | refine below_set ?_ GE250.out | refine below_set ?_ GE261.out | refine below_set ?_ GE268.out | refine below_set ?_ GE269.out) | exact HB.out))⟩)
          ·
           skip
           rintro gb269 w48 ⟨hS_, h0_, h1_, h2_, h3_, h4_, h5_, h6_, h7_, h8_, h9_, h10_, h11_, h12_, h13_, h14_, h15_, h16_, h17_, h18_, h19_, h20_, h21_, h22_⟩
           have n0_ : Aside0 (Kd.R (Kd.int .i64) 3 w48 w.heap.size (fun _ => True) (.slice Ao35 y253.length co35) y253) := ⟨h0_⟩
           have n1_ : Aside0 (w48.heap[gb247]? = some (.cells #[.int .i64 t244, .int .i64 t245] 41 (0, 0))) := ⟨h1_⟩
           have n2_ : Aside0 (w48.heap[gb248]? = some (.cells #[.int .i64 x249000_1, .int .i64 x249001_1] 41 (0, 0))) := ⟨h2_⟩
           have n3_ : Aside0 (w48.heap[gb249]? = some (.cells #[.int .i64 x250000_1, .int .i64 x250001_1] 41 (0, 0))) := ⟨h3_⟩
           have n4_ : Aside0 (w48.heap[gb250]? = some (.cells #[.int .i64 x251000_1, .int .i64 x251001_1] 41 (0, 0))) := ⟨h4_⟩
           have n5_ : Aside0 (w48.heap[gb261]? = some (.cells #[.int .i64 t258, .int .i64 t259] 41 (0, 0))) := ⟨h5_⟩
           have n6_ : Aside0 (w48.heap[gb269]? = some (.cells #[.int .i64 0, .int .i64 0] 41 (0, 0))) := ⟨h6_⟩
           have n7_ : Aside0 (w.heap.size ≤ gb269) := ⟨h7_⟩
           have n8_ : Aside0 (w.heap.size ≤ gb269) := ⟨h8_⟩
           have n9_ : Aside0 (g243 ≠ gb269) := ⟨h9_⟩
           have n10_ : Aside0 (gb269 ≠ g243) := ⟨h10_⟩
           have n11_ : Aside0 (gb247 ≠ gb269) := ⟨h11_⟩
           have n12_ : Aside0 (gb269 ≠ gb247) := ⟨h12_⟩
           have n13_ : Aside0 (gb248 ≠ gb269) := ⟨h13_⟩
           have n14_ : Aside0 (gb269 ≠ gb248) := ⟨h14_⟩
           have n15_ : Aside0 (gb249 ≠ gb269) := ⟨h15_⟩
           have n16_ : Aside0 (gb269 ≠ gb249) := ⟨h16_⟩
           have n17_ : Aside0 (gb250 ≠ gb269) := ⟨h17_⟩
           have n18_ : Aside0 (gb269 ≠ gb250) := ⟨h18_⟩
           have n19_ : Aside0 (gb261 ≠ gb269) := ⟨h19_⟩
           have n20_ : Aside0 (gb269 ≠ gb261) := ⟨h20_⟩
           have n21_ : Aside0 (IsS53 w w48 g243 t241 t257) := ⟨h21_⟩
           have n22_ : Aside0 (Below w.heap.size w w48) := ⟨h22_⟩
           clear HO255
           clear BK247
           clear BK248
           clear BK249
           clear BK250
           clear BK261
           clear HI243
           clear HB
           clear h0_ h1_ h2_ h3_ h4_ h5_ h6_ h7_ h8_ h9_ h10_ h11_ h12_ h13_ h14_ h15_ h16_ h17_ h18_ h19_ h20_ h21_ h22_
           have HO255 := n0_
           have BK247 := n1_
           have BK248 := n2_
           have BK249 := n3_
           have BK250 := n4_
           have BK261 := n5_
           have BK269 := n6_
           have GW269 := n7_
           have GE269 := n8_
           have NB243_269 := n9_
           have NB269_243 := n10_
           have NB247_269 := n11_
           have NB269_247 := n12_
           have NB248_269 := n13_
           have NB269_248 := n14_
           have NB249_269 := n15_
           have NB269_249 := n16_
           have NB250_269 := n17_
           have NB269_250 := n18_
           have NB261_269 := n19_
           have NB269_261 := n20_
           have HI243 := n21_
           have HB := n22_
           clear n0_ n1_ n2_ n3_ n4_ n5_ n6_ n7_ n8_ n9_ n10_ n11_ n12_ n13_ n14_ n15_ n16_ n17_ n18_ n19_ n20_ n21_ n22_
           have hHeld : w48.cell? ⟨gb248, 0, none⟩ = some (.int .i64 x249000_1) ∧ w48.cell? ⟨gb248, 1, none⟩ = some (.int .i64 x249001_1) ∧ w48.cell? ⟨gb261, 0, none⟩ = some (.int .i64 t258) ∧ w48.cell? ⟨gb261, 1, none⟩ = some (.int .i64 t259) ∧ w48.cell? ⟨gb247, 0, none⟩ = some (.int .i64 t244) ∧ w48.cell? ⟨gb247, 1, none⟩ = some (.int .i64 t245) := hS_
           refine norm_ (a' := ?_) ?_ ?_
           rotate_left
           ·
            simp only [putAll, Act.put, List.setIfInBounds_toArray, List.set_cons_zero, List.set_cons_succ]
            rfl
           refine two_ (i := 5) (j := 10) (Ni := some 45) (Nj := some 13) #[true, true, true, true, true, true, false, false, false, false, false, true, false, false, false] #[true, true, true, true, true, false, false, false, false, false, true, true, false, false, false] rfl rfl rfl rfl (two_of HT_.out (by kernel_rfl)) (by decide) (by decide) (fun K hK => ?_) (fun K hK => ?_)
           ·
            skip
            refine goes_ Try.func32 (by kernel_rfl) rfl #[.agg #[.int .i64 x249000_1, .int .i64 x249001_1], .agg #[.int .i64 t258, .int .i64 t259], .agg #[.int .i64 t244, .int .i64 t245], .int .i64 t262] (by rfl) rfl rfl (by (try simp only [List.map_toArray, List.map_cons, List.map_nil]); first | done | rfl | (simp only [List.length_drop, List.length_take]; rfl)) ?_
            with_reducible refine (rounding_Carry.calls k1 x249000_1 x249001_1 t258 t259 t244 t245 t262 t263 t264 t265 t266 t267 _ A30.out).mono ?_
            rintro e w49 ⟨rfl, hb⟩
            refine ⟨_, rfl, ?_⟩
            replace HO255 := rb_ HO255 hb
            replace BK247 := tb_ BK247 hb
            replace BK248 := tb_ BK248 hb
            replace BK249 := tb_ BK249 hb
            replace BK250 := tb_ BK250 hb
            replace BK261 := tb_ BK261 hb
            replace BK269 := tb_ BK269 hb
            replace HB := IsS53.ts_ HI243 HB hb
            replace HI243 := IsS53.tb_ HI243 hb
            (try clear hb)
            (try clear hb2)
            (try clear hk)
            (try clear hi)
            refine hK.out _ _ ⟨(blk_cell BK248.out 0).trans rfl, (blk_cell BK248.out 1).trans rfl, (blk_cell BK261.out 0).trans rfl, (blk_cell BK261.out 1).trans rfl, (blk_cell BK247.out 0).trans rfl, (blk_cell BK247.out 1).trans rfl⟩ (fun hHeld => ?_)
            clear hK K
            refine norm_ (a' := ?_) ?_ ?_
            rotate_left
            ·
             show Act.put _ (some 45) _ = _
             simp only [Act.put, List.setIfInBounds_toArray, List.set_cons_zero, List.set_cons_succ, i64_w, i32_w]
             rfl
            refine pure_ (i := 6) (N := some 39) (v := ?_) (a' := ?_) #[true, true, true, true, true, true, true, false, false, false, false, true, false, false, false] rfl rfl (any_of HT_.out (by kernel_rfl)) (fun _ _ _ h => h) (Or.inl ⟨by rfl, ?_⟩) ?_ ?_
            rotate_left
            ·
             intro w'
             go_simp
             with_reducible rfl
            rotate_left
            ·
             simp only [Act.put, List.setIfInBounds_toArray, List.set_cons_zero, List.set_cons_succ, i64_w, i32_w]
             rfl
            refine pure_ (i := 7) (N := some 46) (v := ?_) (a' := ?_) #[true, true, true, true, true, true, true, true, false, false, false, true, false, false, false] rfl rfl (any_of HT_.out (by kernel_rfl)) (fun _ _ _ h => h) (Or.inl ⟨by rfl, ?_⟩) ?_ ?_
            rotate_left
            ·
             intro w'
             go_simp
             with_reducible rfl
            rotate_left
            ·
             simp only [Act.put, List.setIfInBounds_toArray, List.set_cons_zero, List.set_cons_succ, i64_w, i32_w]
             rfl
            refine pure_ (i := 8) (N := some 47) (v := ?_) (a' := ?_) #[true, true, true, true, true, true, true, true, true, false, false, true, false, false, false] rfl rfl (any_of HT_.out (by kernel_rfl)) (fun _ _ _ h => h) (Or.inl ⟨by rfl, ?_⟩) ?_ ?_
            rotate_left
            ·
             intro w'
             go_simp
             with_reducible rfl
            rotate_left
            ·
             simp only [Act.put, List.setIfInBounds_toArray, List.set_cons_zero, List.set_cons_succ, i64_w, i32_w]
             rfl
            refine pure_ (i := 9) (N := some 48) (v := ?_) (a' := ?_) #[true, true, true, true, true, true, true, true, true, true, false, true, false, false, false] rfl rfl (any_of HT_.out (by kernel_rfl)) (fun _ _ _ h => h) (Or.inl ⟨by rfl, ?_⟩) ?_ ?_
            rotate_left
            ·
             intro w'
             go_simp
             with_reducible rfl
            rotate_left
            ·
             simp only [Act.put, List.setIfInBounds_toArray, List.set_cons_zero, List.set_cons_succ, i64_w, i32_w]
             rfl
            exact norm_ (by first | (simp only [putAll, Act.put, List.setIfInBounds_toArray, List.set_cons_zero, List.set_cons_succ]; done) | (simp only [putAll, Act.put, List.setIfInBounds_toArray, List.set_cons_zero, List.set_cons_succ]; rfl)) (hJ4_5_11 (gb269) _ ⟨hHeld, (re_ HO255), (by (with_reducible repeat (first | refine blk_drewN ?_ _ | refine blk_drew ?_ | refine blk_alloc ?_ _)); exact BK247.out), (by (with_reducible repeat (first | refine blk_drewN ?_ _ | refine blk_drew ?_ | refine blk_alloc ?_ _)); exact BK248.out), (by (with_reducible repeat (first | refine blk_drewN ?_ _ | refine blk_drew ?_ | refine blk_alloc ?_ _)); exact BK249.out), (by (with_reducible repeat (first | refine blk_drewN ?_ _ | refine blk_drew ?_ | refine blk_alloc ?_ _)); exact BK250.out), (by (with_reducible repeat (first | refine blk_drewN ?_ _ | refine blk_drew ?_ | refine blk_alloc ?_ _)); exact BK261.out), (by (with_reducible repeat (first | refine blk_drewN ?_ _ | refine blk_drew ?_ | refine blk_alloc ?_ _)); exact BK269.out), GW269.out, GE269.out, NB243_269.out, NB269_243.out, NB247_269.out, NB269_247.out, NB248_269.out, NB269_248.out, NB249_269.out, NB269_249.out, NB250_269.out, NB269_250.out, NB261_269.out, NB269_261.out, (by repeat (first | (with_reducible first | exact HI243.out | apply IsS53.alloc | apply IsS53.drewN | apply IsS53.drew | apply IsS53.set_1 | refine IsS53.far ?_ NB243_247.out _ | refine IsS53.far ?_ NB243_248.out _ | refine IsS53.far ?_ NB243_249.out _ | refine IsS53.far ?_ NB243_250.out _ | refine IsS53.far ?_ NB243_261.out _ | refine IsS53.far ?_ NB243_269.out _) | exact HI243.out)), (by repeat (first | (with_reducible first | exact HB.out | apply below_alloc | apply pw_below_drewN | apply below_drew1 | refine below_set ?_ (IsS53.ge HI243.out) | refine below_set ?_ GE247.out | refine below_set ?_ GE248.out | refine below_set ?_ GE249.out | refine below_set ?_ GE250.out | refine below_set ?_ GE261.out | refine below_set ?_ GE269.out) | exact HB.out))⟩)
           ·
            skip
            refine box_step ?hg (N := 13) ?hd (cs := #[.int .i64 0, .int .i64 0]) (t := 41) ?hr ?_; (case hd => rfl); (case hg => rfl); (case hr => first | (go_simp; done) | (go_simp; rfl))
            intro gb268 hg w49 hbox hb
            have BK268 := Aside0.mk (hbox)
            have GW268 := IsS53.sz_ HI243 HB hg
            have GE268 := IsS53.sz_ HI243 HB hg
            have NB247_268 := nl_ BK247 hg
            have NB268_247 := nr_ BK247 hg
            have NB248_268 := nl_ BK248 hg
            have NB268_248 := nr_ BK248 hg
            have NB249_268 := nl_ BK249 hg
            have NB268_249 := nr_ BK249 hg
            have NB250_268 := nl_ BK250 hg
            have NB268_250 := nr_ BK250 hg
            have NB261_268 := nl_ BK261 hg
            have NB268_261 := nr_ BK261 hg
            have NB269_268 := nl_ BK269 hg
            have NB268_269 := nr_ BK269 hg
            have NB243_268 := IsS53.nl_ HI243 hg
            have NB268_243 := IsS53.nr_ HI243 hg
            replace HO255 := rb_ HO255 hb
            replace BK247 := tb_ BK247 hb
            replace BK248 := tb_ BK248 hb
            replace BK249 := tb_ BK249 hb
            replace BK250 := tb_ BK250 hb
            replace BK261 := tb_ BK261 hb
            replace BK269 := tb_ BK269 hb
            replace HB := IsS53.ts_ HI243 HB hb
            replace HI243 := IsS53.tb_ HI243 hb
            clear hb hbox hg
            refine hK.out _ _ ⟨(blk_cell BK248.out 0).trans rfl, (blk_cell BK248.out 1).trans rfl, (blk_cell BK261.out 0).trans rfl, (blk_cell BK261.out 1).trans rfl, (blk_cell BK247.out 0).trans rfl, (blk_cell BK247.out 1).trans rfl⟩ (fun hHeld => ?_)
            clear hK K
            refine norm_ (a' := ?_) ?_ ?_
            rotate_left
            ·
             show Act.put _ (some 13) _ = _
             simp only [Act.put, List.setIfInBounds_toArray, List.set_cons_zero, List.set_cons_succ, i64_w, i32_w]
             rfl
            exact norm_ (by first | (simp only [putAll, Act.put, List.setIfInBounds_toArray, List.set_cons_zero, List.set_cons_succ]; done) | (simp only [putAll, Act.put, List.setIfInBounds_toArray, List.set_cons_zero, List.set_cons_succ]; rfl)) (hJ4_10_11 (gb268, gb269) _ ⟨hHeld, (re_ HO255), (by (with_reducible repeat (first | refine blk_drewN ?_ _ | refine blk_drew ?_ | refine blk_alloc ?_ _)); exact BK247.out), (by (with_reducible repeat (first | refine blk_drewN ?_ _ | refine blk_drew ?_ | refine blk_alloc ?_ _)); exact BK248.out), (by (with_reducible repeat (first | refine blk_drewN ?_ _ | refine blk_drew ?_ | refine blk_alloc ?_ _)); exact BK249.out), (by (with_reducible repeat (first | refine blk_drewN ?_ _ | refine blk_drew ?_ | refine blk_alloc ?_ _)); exact BK250.out), (by (with_reducible repeat (first | refine blk_drewN ?_ _ | refine blk_drew ?_ | refine blk_alloc ?_ _)); exact BK261.out), (by (with_reducible repeat (first | refine blk_drewN ?_ _ | refine blk_drew ?_ | refine blk_alloc ?_ _)); exact BK268.out), (by (with_reducible repeat (first | refine blk_drewN ?_ _ | refine blk_drew ?_ | refine blk_alloc ?_ _)); exact BK269.out), GW268.out, GE268.out, NB243_268.out, NB268_243.out, NB247_268.out, NB268_247.out, NB248_268.out, NB268_248.out, NB249_268.out, NB268_249.out, NB250_268.out, NB268_250.out, NB261_268.out, NB268_261.out, NB269_268.out, NB268_269.out, GW269.out, GE269.out, NB243_269.out, NB269_243.out, NB247_269.out, NB269_247.out, NB248_269.out, NB269_248.out, NB249_269.out, NB269_249.out, NB250_269.out, NB269_250.out, NB261_269.out, NB269_261.out, (by repeat (first | (with_reducible first | exact HI243.out | apply IsS53.alloc | apply IsS53.drewN | apply IsS53.drew | apply IsS53.set_1 | refine IsS53.far ?_ NB243_247.out _ | refine IsS53.far ?_ NB243_248.out _ | refine IsS53.far ?_ NB243_249.out _ | refine IsS53.far ?_ NB243_250.out _ | refine IsS53.far ?_ NB243_261.out _ | refine IsS53.far ?_ NB243_269.out _ | refine IsS53.far ?_ NB243_268.out _) | exact HI243.out)), (by repeat (first | (with_reducible first | exact HB.out | apply below_alloc | apply pw_below_drewN | apply below_drew1 | refine below_set ?_ (IsS53.ge HI243.out) | refine below_set ?_ GE247.out | refine below_set ?_ GE248.out | refine below_set ?_ GE249.out | refine below_set ?_ GE250.out | refine below_set ?_ GE261.out | refine below_set ?_ GE269.out | refine below_set ?_ GE268.out) | exact HB.out))⟩)
         ·
          skip
          rintro gb268 w48 ⟨hS_, h0_, h1_, h2_, h3_, h4_, h5_, h6_, h7_, h8_, h9_, h10_, h11_, h12_, h13_, h14_, h15_, h16_, h17_, h18_, h19_, h20_, h21_, h22_⟩
          have n0_ : Aside0 (Kd.R (Kd.int .i64) 3 w48 w.heap.size (fun _ => True) (.slice Ao35 y253.length co35) y253) := ⟨h0_⟩
          have n1_ : Aside0 (w48.heap[gb247]? = some (.cells #[.int .i64 t244, .int .i64 t245] 41 (0, 0))) := ⟨h1_⟩
          have n2_ : Aside0 (w48.heap[gb248]? = some (.cells #[.int .i64 x249000_1, .int .i64 x249001_1] 41 (0, 0))) := ⟨h2_⟩
          have n3_ : Aside0 (w48.heap[gb249]? = some (.cells #[.int .i64 x250000_1, .int .i64 x250001_1] 41 (0, 0))) := ⟨h3_⟩
          have n4_ : Aside0 (w48.heap[gb250]? = some (.cells #[.int .i64 x251000_1, .int .i64 x251001_1] 41 (0, 0))) := ⟨h4_⟩
          have n5_ : Aside0 (w48.heap[gb261]? = some (.cells #[.int .i64 t258, .int .i64 t259] 41 (0, 0))) := ⟨h5_⟩
          have n6_ : Aside0 (w48.heap[gb268]? = some (.cells #[.int .i64 0, .int .i64 0] 41 (0, 0))) := ⟨h6_⟩
          have n7_ : Aside0 (w.heap.size ≤ gb268) := ⟨h7_⟩
          have n8_ : Aside0 (w.heap.size ≤ gb268) := ⟨h8_⟩
          have n9_ : Aside0 (g243 ≠ gb268) := ⟨h9_⟩
          have n10_ : Aside0 (gb268 ≠ g243) := ⟨h10_⟩
          have n11_ : Aside0 (gb247 ≠ gb268) := ⟨h11_⟩
          have n12_ : Aside0 (gb268 ≠ gb247) := ⟨h12_⟩
          have n13_ : Aside0 (gb248 ≠ gb268) := ⟨h13_⟩
          have n14_ : Aside0 (gb268 ≠ gb248) := ⟨h14_⟩
          have n15_ : Aside0 (gb249 ≠ gb268) := ⟨h15_⟩
          have n16_ : Aside0 (gb268 ≠ gb249) := ⟨h16_⟩
          have n17_ : Aside0 (gb250 ≠ gb268) := ⟨h17_⟩
          have n18_ : Aside0 (gb268 ≠ gb250) := ⟨h18_⟩
          have n19_ : Aside0 (gb261 ≠ gb268) := ⟨h19_⟩
          have n20_ : Aside0 (gb268 ≠ gb261) := ⟨h20_⟩
          have n21_ : Aside0 (IsS53 w w48 g243 t241 t257) := ⟨h21_⟩
          have n22_ : Aside0 (Below w.heap.size w w48) := ⟨h22_⟩
          clear HO255
          clear BK247
          clear BK248
          clear BK249
          clear BK250
          clear BK261
          clear HI243
          clear HB
          clear h0_ h1_ h2_ h3_ h4_ h5_ h6_ h7_ h8_ h9_ h10_ h11_ h12_ h13_ h14_ h15_ h16_ h17_ h18_ h19_ h20_ h21_ h22_
          have HO255 := n0_
          have BK247 := n1_
          have BK248 := n2_
          have BK249 := n3_
          have BK250 := n4_
          have BK261 := n5_
          have BK268 := n6_
          have GW268 := n7_
          have GE268 := n8_
          have NB243_268 := n9_
          have NB268_243 := n10_
          have NB247_268 := n11_
          have NB268_247 := n12_
          have NB248_268 := n13_
          have NB268_248 := n14_
          have NB249_268 := n15_
          have NB268_249 := n16_
          have NB250_268 := n17_
          have NB268_250 := n18_
          have NB261_268 := n19_
          have NB268_261 := n20_
          have HI243 := n21_
          have HB := n22_
          clear n0_ n1_ n2_ n3_ n4_ n5_ n6_ n7_ n8_ n9_ n10_ n11_ n12_ n13_ n14_ n15_ n16_ n17_ n18_ n19_ n20_ n21_ n22_
          have hHeld : w48.cell? ⟨gb248, 0, none⟩ = some (.int .i64 x249000_1) ∧ w48.cell? ⟨gb248, 1, none⟩ = some (.int .i64 x249001_1) ∧ w48.cell? ⟨gb261, 0, none⟩ = some (.int .i64 t258) ∧ w48.cell? ⟨gb261, 1, none⟩ = some (.int .i64 t259) ∧ w48.cell? ⟨gb247, 0, none⟩ = some (.int .i64 t244) ∧ w48.cell? ⟨gb247, 1, none⟩ = some (.int .i64 t245) := hS_
          refine norm_ (a' := ?_) ?_ ?_
          rotate_left
          ·
           simp only [putAll, Act.put, List.setIfInBounds_toArray, List.set_cons_zero, List.set_cons_succ]
           rfl
          refine two_ (i := 5) (j := 11) (Ni := some 45) (Nj := some 14) #[true, true, true, true, true, true, false, false, false, false, true, false, false, false, false] #[true, true, true, true, true, false, false, false, false, false, true, true, false, false, false] rfl rfl rfl rfl (two_of HT_.out (by kernel_rfl)) (by decide) (by decide) (fun K hK => ?_) (fun K hK => ?_)
          ·
           skip
           refine goes_ Try.func32 (by kernel_rfl) rfl #[.agg #[.int .i64 x249000_1, .int .i64 x249001_1], .agg #[.int .i64 t258, .int .i64 t259], .agg #[.int .i64 t244, .int .i64 t245], .int .i64 t262] (by rfl) rfl rfl (by (try simp only [List.map_toArray, List.map_cons, List.map_nil]); first | done | rfl | (simp only [List.length_drop, List.length_take]; rfl)) ?_
           with_reducible refine (rounding_Carry.calls k1 x249000_1 x249001_1 t258 t259 t244 t245 t262 t263 t264 t265 t266 t267 _ A30.out).mono ?_
           rintro e w49 ⟨rfl, hb⟩
           refine ⟨_, rfl, ?_⟩
           replace HO255 := rb_ HO255 hb
           replace BK247 := tb_ BK247 hb
           replace BK248 := tb_ BK248 hb
           replace BK249 := tb_ BK249 hb
           replace BK250 := tb_ BK250 hb
           replace BK261 := tb_ BK261 hb
           replace BK268 := tb_ BK268 hb
           replace HB := IsS53.ts_ HI243 HB hb
           replace HI243 := IsS53.tb_ HI243 hb
           (try clear hb)
           (try clear hb2)
           (try clear hk)
           (try clear hi)
           refine hK.out _ _ ⟨(blk_cell BK248.out 0).trans rfl, (blk_cell BK248.out 1).trans rfl, (blk_cell BK261.out 0).trans rfl, (blk_cell BK261.out 1).trans rfl, (blk_cell BK247.out 0).trans rfl, (blk_cell BK247.out 1).trans rfl⟩ (fun hHeld => ?_)
           clear hK K
           refine norm_ (a' := ?_) ?_ ?_
           rotate_left
           ·
            show Act.put _ (some 45) _ = _
            simp only [Act.put, List.setIfInBounds_toArray, List.set_cons_zero, List.set_cons_succ, i64_w, i32_w]
            rfl
           refine pure_ (i := 6) (N := some 39) (v := ?_) (a' := ?_) #[true, true, true, true, true, true, true, false, false, false, true, false, false, false, false] rfl rfl (any_of HT_.out (by kernel_rfl)) (fun _ _ _ h => h) (Or.inl ⟨by rfl, ?_⟩) ?_ ?_
           rotate_left
           ·
            intro w'
            go_simp
            with_reducible rfl
           rotate_left
           ·
            simp only [Act.put, List.setIfInBounds_toArray, List.set_cons_zero, List.set_cons_succ, i64_w, i32_w]
            rfl
           refine pure_ (i := 7) (N := some 46) (v := ?_) (a' := ?_) #[true, true, true, true, true, true, true, true, false, false, true, false, false, false, false] rfl rfl (any_of HT_.out (by kernel_rfl)) (fun _ _ _ h => h) (Or.inl ⟨by rfl, ?_⟩) ?_ ?_
           rotate_left
           ·
            intro w'
            go_simp
            with_reducible rfl
           rotate_left
           ·
            simp only [Act.put, List.setIfInBounds_toArray, List.set_cons_zero, List.set_cons_succ, i64_w, i32_w]
            rfl
           refine pure_ (i := 8) (N := some 47) (v := ?_) (a' := ?_) #[true, true, true, true, true, true, true, true, true, false, true, false, false, false, false] rfl rfl (any_of HT_.out (by kernel_rfl)) (fun _ _ _ h => h) (Or.inl ⟨by rfl, ?_⟩) ?_ ?_
           rotate_left
           ·
            intro w'
            go_simp
            with_reducible rfl
           rotate_left
           ·
            simp only [Act.put, List.setIfInBounds_toArray, List.set_cons_zero, List.set_cons_succ, i64_w, i32_w]
            rfl
           refine pure_ (i := 9) (N := some 48) (v := ?_) (a' := ?_) #[true, true, true, true, true, true, true, true, true, true, true, false, false, false, false] rfl rfl (any_of HT_.out (by kernel_rfl)) (fun _ _ _ h => h) (Or.inl ⟨by rfl, ?_⟩) ?_ ?_
           rotate_left
           ·
            intro w'
            go_simp
            with_reducible rfl
           rotate_left
           ·
            simp only [Act.put, List.setIfInBounds_toArray, List.set_cons_zero, List.set_cons_succ, i64_w, i32_w]
            rfl
           exact norm_ (by first | (simp only [putAll, Act.put, List.setIfInBounds_toArray, List.set_cons_zero, List.set_cons_succ]; done) | (simp only [putAll, Act.put, List.setIfInBounds_toArray, List.set_cons_zero, List.set_cons_succ]; rfl)) (hJ4_5_10 (gb268) _ ⟨hHeld, (re_ HO255), (by (with_reducible repeat (first | refine blk_drewN ?_ _ | refine blk_drew ?_ | refine blk_alloc ?_ _)); exact BK247.out), (by (with_reducible repeat (first | refine blk_drewN ?_ _ | refine blk_drew ?_ | refine blk_alloc ?_ _)); exact BK248.out), (by (with_reducible repeat (first | refine blk_drewN ?_ _ | refine blk_drew ?_ | refine blk_alloc ?_ _)); exact BK249.out), (by (with_reducible repeat (first | refine blk_drewN ?_ _ | refine blk_drew ?_ | refine blk_alloc ?_ _)); exact BK250.out), (by (with_reducible repeat (first | refine blk_drewN ?_ _ | refine blk_drew ?_ | refine blk_alloc ?_ _)); exact BK261.out), (by (with_reducible repeat (first | refine blk_drewN ?_ _ | refine blk_drew ?_ | refine blk_alloc ?_ _)); exact BK268.out), GW268.out, GE268.out, NB243_268.out, NB268_243.out, NB247_268.out, NB268_247.out, NB248_268.out, NB268_248.out, NB249_268.out, NB268_249.out, NB250_268.out, NB268_250.out, NB261_268.out, NB268_261.out, (by repeat (first | (with_reducible first | exact HI243.out | apply IsS53.alloc | apply IsS53.drewN | apply IsS53.drew | apply IsS53.set_1 | refine IsS53.far ?_ NB243_247.out _ | refine IsS53.far ?_ NB243_248.out _ | refine IsS53.far ?_ NB243_249.out _ | refine IsS53.far ?_ NB243_250.out _ | refine IsS53.far ?_ NB243_261.out _ | refine IsS53.far ?_ NB243_268.out _) | exact HI243.out)), (by repeat (first | (with_reducible first | exact HB.out | apply below_alloc | apply pw_below_drewN | apply below_drew1 | refine below_set ?_ (IsS53.ge HI243.out) | refine below_set ?_ GE247.out | refine below_set ?_ GE248.out | refine below_set ?_ GE249.out | refine below_set ?_ GE250.out | refine below_set ?_ GE261.out | refine below_set ?_ GE268.out) | exact HB.out))⟩)
          ·
           skip
           refine box_step ?hg (N := 14) ?hd (cs := #[.int .i64 0, .int .i64 0]) (t := 41) ?hr ?_; (case hd => rfl); (case hg => rfl); (case hr => first | (go_simp; done) | (go_simp; rfl))
           intro gb269 hg w49 hbox hb
           have BK269 := Aside0.mk (hbox)
           have GW269 := IsS53.sz_ HI243 HB hg
           have GE269 := IsS53.sz_ HI243 HB hg
           have NB247_269 := nl_ BK247 hg
           have NB269_247 := nr_ BK247 hg
           have NB248_269 := nl_ BK248 hg
           have NB269_248 := nr_ BK248 hg
           have NB249_269 := nl_ BK249 hg
           have NB269_249 := nr_ BK249 hg
           have NB250_269 := nl_ BK250 hg
           have NB269_250 := nr_ BK250 hg
           have NB261_269 := nl_ BK261 hg
           have NB269_261 := nr_ BK261 hg
           have NB268_269 := nl_ BK268 hg
           have NB269_268 := nr_ BK268 hg
           have NB243_269 := IsS53.nl_ HI243 hg
           have NB269_243 := IsS53.nr_ HI243 hg
           replace HO255 := rb_ HO255 hb
           replace BK247 := tb_ BK247 hb
           replace BK248 := tb_ BK248 hb
           replace BK249 := tb_ BK249 hb
           replace BK250 := tb_ BK250 hb
           replace BK261 := tb_ BK261 hb
           replace BK268 := tb_ BK268 hb
           replace HB := IsS53.ts_ HI243 HB hb
           replace HI243 := IsS53.tb_ HI243 hb
           clear hb hbox hg
           refine hK.out _ _ ⟨(blk_cell BK248.out 0).trans rfl, (blk_cell BK248.out 1).trans rfl, (blk_cell BK261.out 0).trans rfl, (blk_cell BK261.out 1).trans rfl, (blk_cell BK247.out 0).trans rfl, (blk_cell BK247.out 1).trans rfl⟩ (fun hHeld => ?_)
           clear hK K
           refine norm_ (a' := ?_) ?_ ?_
           rotate_left
           ·
            show Act.put _ (some 14) _ = _
            simp only [Act.put, List.setIfInBounds_toArray, List.set_cons_zero, List.set_cons_succ, i64_w, i32_w]
            rfl
           exact norm_ (by first | (simp only [putAll, Act.put, List.setIfInBounds_toArray, List.set_cons_zero, List.set_cons_succ]; done) | (simp only [putAll, Act.put, List.setIfInBounds_toArray, List.set_cons_zero, List.set_cons_succ]; rfl)) (hJ4_10_11 (gb268, gb269) _ ⟨hHeld, (re_ HO255), (by (with_reducible repeat (first | refine blk_drewN ?_ _ | refine blk_drew ?_ | refine blk_alloc ?_ _)); exact BK247.out), (by (with_reducible repeat (first | refine blk_drewN ?_ _ | refine blk_drew ?_ | refine blk_alloc ?_ _)); exact BK248.out), (by (with_reducible repeat (first | refine blk_drewN ?_ _ | refine blk_drew ?_ | refine blk_alloc ?_ _)); exact BK249.out), (by (with_reducible repeat (first | refine blk_drewN ?_ _ | refine blk_drew ?_ | refine blk_alloc ?_ _)); exact BK250.out), (by (with_reducible repeat (first | refine blk_drewN ?_ _ | refine blk_drew ?_ | refine blk_alloc ?_ _)); exact BK261.out), (by (with_reducible repeat (first | refine blk_drewN ?_ _ | refine blk_drew ?_ | refine blk_alloc ?_ _)); exact BK268.out), (by (with_reducible repeat (first | refine blk_drewN ?_ _ | refine blk_drew ?_ | refine blk_alloc ?_ _)); exact BK269.out), GW268.out, GE268.out, NB243_268.out, NB268_243.out, NB247_268.out, NB268_247.out, NB248_268.out, NB268_248.out, NB249_268.out, NB268_249.out, NB250_268.out, NB268_250.out, NB261_268.out, NB268_261.out, NB269_268.out, NB268_269.out, GW269.out, GE269.out, NB243_269.out, NB269_243.out, NB247_269.out, NB269_247.out, NB248_269.out, NB269_248.out, NB249_269.out, NB269_249.out, NB250_269.out, NB269_250.out, NB261_269.out, NB269_261.out, (by repeat (first | (with_reducible first | exact HI243.out | apply IsS53.alloc | apply IsS53.drewN | apply IsS53.drew | apply IsS53.set_1 | refine IsS53.far ?_ NB243_247.out _ | refine IsS53.far ?_ NB243_248.out _ | refine IsS53.far ?_ NB243_249.out _ | refine IsS53.far ?_ NB243_250.out _ | refine IsS53.far ?_ NB243_261.out _ | refine IsS53.far ?_ NB243_268.out _ | refine IsS53.far ?_ NB243_269.out _) | exact HI243.out)), (by repeat (first | (with_reducible first | exact HB.out | apply below_alloc | apply pw_below_drewN | apply below_drew1 | refine below_set ?_ (IsS53.ge HI243.out) | refine below_set ?_ GE247.out | refine below_set ?_ GE248.out | refine below_set ?_ GE249.out | refine below_set ?_ GE250.out | refine below_set ?_ GE261.out | refine below_set ?_ GE268.out | refine below_set ?_ GE269.out) | exact HB.out))⟩)
        ·
         skip
         rintro _ w48 ⟨hS_, h0_, h1_, h2_, h3_, h4_, h5_, h6_, h7_⟩
         have n0_ : Aside0 (Kd.R (Kd.int .i64) 3 w48 w.heap.size (fun _ => True) (.slice Ao35 y253.length co35) y253) := ⟨h0_⟩
         have n1_ : Aside0 (w48.heap[gb247]? = some (.cells #[.int .i64 t244, .int .i64 t245] 41 (0, 0))) := ⟨h1_⟩
         have n2_ : Aside0 (w48.heap[gb248]? = some (.cells #[.int .i64 x249000_1, .int .i64 x249001_1] 41 (0, 0))) := ⟨h2_⟩
         have n3_ : Aside0 (w48.heap[gb249]? = some (.cells #[.int .i64 x250000_1, .int .i64 x250001_1] 41 (0, 0))) := ⟨h3_⟩
         have n4_ : Aside0 (w48.heap[gb250]? = some (.cells #[.int .i64 x251000_1, .int .i64 x251001_1] 41 (0, 0))) := ⟨h4_⟩
         have n5_ : Aside0 (w48.heap[gb261]? = some (.cells #[.int .i64 t258, .int .i64 t259] 41 (0, 0))) := ⟨h5_⟩
         have n6_ : Aside0 (IsS53 w w48 g243 t241 t257) := ⟨h6_⟩
         have n7_ : Aside0 (Below w.heap.size w w48) := ⟨h7_⟩
         clear HO255
         clear BK247
         clear BK248
         clear BK249
         clear BK250
         clear BK261
         clear HI243
         clear HB
         clear h0_ h1_ h2_ h3_ h4_ h5_ h6_ h7_
         have HO255 := n0_
         have BK247 := n1_
         have BK248 := n2_
         have BK249 := n3_
         have BK250 := n4_
         have BK261 := n5_
         have HI243 := n6_
         have HB := n7_
         clear n0_ n1_ n2_ n3_ n4_ n5_ n6_ n7_
         have hHeld : w48.cell? ⟨gb248, 0, none⟩ = some (.int .i64 x249000_1) ∧ w48.cell? ⟨gb248, 1, none⟩ = some (.int .i64 x249001_1) ∧ w48.cell? ⟨gb261, 0, none⟩ = some (.int .i64 t258) ∧ w48.cell? ⟨gb261, 1, none⟩ = some (.int .i64 t259) ∧ w48.cell? ⟨gb247, 0, none⟩ = some (.int .i64 t244) ∧ w48.cell? ⟨gb247, 1, none⟩ = some (.int .i64 t245) := hS_
         refine norm_ (a' := ?_) ?_ ?_
         rotate_left
         ·
          simp only [putAll, Act.put, List.setIfInBounds_toArray, List.set_cons_zero, List.set_cons_succ]
          rfl
         refine two_ (i := 10) (j := 11) (Ni := some 13) (Nj := some 14) #[true, true, true, true, true, true, true, true, true, true, true, false, false, false, false] #[true, true, true, true, true, true, true, true, true, true, false, true, false, false, false] rfl rfl rfl rfl (two_of HT_.out (by kernel_rfl)) (by decide) (by decide) (fun K hK => ?_) (fun K hK => ?_)
         ·
          skip
          refine box_step ?hg (N := 13) ?hd (cs := #[.int .i64 0, .int .i64 0]) (t := 41) ?hr ?_; (case hd => rfl); (case hg => rfl); (case hr => first | (go_simp; done) | (go_simp; rfl))
          intro gb268 hg w49 hbox hb
          have BK268 := Aside0.mk (hbox)
          have GW268 := IsS53.sz_ HI243 HB hg
          have GE268 := IsS53.sz_ HI243 HB hg
          have NB247_268 := nl_ BK247 hg
          have NB268_247 := nr_ BK247 hg
          have NB248_268 := nl_ BK248 hg
          have NB268_248 := nr_ BK248 hg
          have NB249_268 := nl_ BK249 hg
          have NB268_249 := nr_ BK249 hg
          have NB250_268 := nl_ BK250 hg
          have NB268_250 := nr_ BK250 hg
          have NB261_268 := nl_ BK261 hg
          have NB268_261 := nr_ BK261 hg
          have NB243_268 := IsS53.nl_ HI243 hg
          have NB268_243 := IsS53.nr_ HI243 hg
          replace HO255 := rb_ HO255 hb
          replace BK247 := tb_ BK247 hb
          replace BK248 := tb_ BK248 hb
          replace BK249 := tb_ BK249 hb
          replace BK250 := tb_ BK250 hb
          replace BK261 := tb_ BK261 hb
          replace HB := IsS53.ts_ HI243 HB hb
          replace HI243 := IsS53.tb_ HI243 hb
          clear hb hbox hg
          refine hK.out _ _ ⟨(blk_cell BK248.out 0).trans rfl, (blk_cell BK248.out 1).trans rfl, (blk_cell BK261.out 0).trans rfl, (blk_cell BK261.out 1).trans rfl, (blk_cell BK247.out 0).trans rfl, (blk_cell BK247.out 1).trans rfl⟩ (fun hHeld => ?_)
          clear hK K
          refine norm_ (a' := ?_) ?_ ?_
          rotate_left
          ·
           show Act.put _ (some 13) _ = _
           simp only [Act.put, List.setIfInBounds_toArray, List.set_cons_zero, List.set_cons_succ, i64_w, i32_w]
           rfl
          exact norm_ (by first | (simp only [putAll, Act.put, List.setIfInBounds_toArray, List.set_cons_zero, List.set_cons_succ]; done) | (simp only [putAll, Act.put, List.setIfInBounds_toArray, List.set_cons_zero, List.set_cons_succ]; rfl)) (hJ4_5_10 (gb268) _ ⟨hHeld, (re_ HO255), (by (with_reducible repeat (first | refine blk_drewN ?_ _ | refine blk_drew ?_ | refine blk_alloc ?_ _)); exact BK247.out), (by (with_reducible repeat (first | refine blk_drewN ?_ _ | refine blk_drew ?_ | refine blk_alloc ?_ _)); exact BK248.out), (by (with_reducible repeat (first | refine blk_drewN ?_ _ | refine blk_drew ?_ | refine blk_alloc ?_ _)); exact BK249.out), (by (with_reducible repeat (first | refine blk_drewN ?_ _ | refine blk_drew ?_ | refine blk_alloc ?_ _)); exact BK250.out), (by (with_reducible repeat (first | refine blk_drewN ?_ _ | refine blk_drew ?_ | refine blk_alloc ?_ _)); exact BK261.out), (by (with_reducible repeat (first | refine blk_drewN ?_ _ | refine blk_drew ?_ | refine blk_alloc ?_ _)); exact BK268.out), GW268.out, GE268.out, NB243_268.out, NB268_243.out, NB247_268.out, NB268_247.out, NB248_268.out, NB268_248.out, NB249_268.out, NB268_249.out, NB250_268.out, NB268_250.out, NB261_268.out, NB268_261.out, (by repeat (first | (with_reducible first | exact HI243.out | apply IsS53.alloc | apply IsS53.drewN | apply IsS53.drew | apply IsS53.set_1 | refine IsS53.far ?_ NB243_247.out _ | refine IsS53.far ?_ NB243_248.out _ | refine IsS53.far ?_ NB243_249.out _ | refine IsS53.far ?_ NB243_250.out _ | refine IsS53.far ?_ NB243_261.out _ | refine IsS53.far ?_ NB243_268.out _) | exact HI243.out)), (by repeat (first | (with_reducible first | exact HB.out | apply below_alloc | apply pw_below_drewN | apply below_drew1 | refine below_set ?_ (IsS53.ge HI243.out) | refine below_set ?_ GE247.out | refine below_set ?_ GE248.out | refine below_set ?_ GE249.out | refine below_set ?_ GE250.out | refine below_set ?_ GE261.out | refine below_set ?_ GE268.out) | exact HB.out))⟩)
         ·
          skip
          refine box_step ?hg (N := 14) ?hd (cs := #[.int .i64 0, .int .i64 0]) (t := 41) ?hr ?_; (case hd => rfl); (case hg => rfl); (case hr => first | (go_simp; done) | (go_simp; rfl))
          intro gb269 hg w49 hbox hb
          have BK269 := Aside0.mk (hbox)
          have GW269 := IsS53.sz_ HI243 HB hg
          have GE269 := IsS53.sz_ HI243 HB hg
          have NB247_269 := nl_ BK247 hg
          have NB269_247 := nr_ BK247 hg
          have NB248_269 := nl_ BK248 hg
          have NB269_248 := nr_ BK248 hg
          have NB249_269 := nl_ BK249 hg
          have NB269_249 := nr_ BK249 hg
          have NB250_269 := nl_ BK250 hg
          have NB269_250 := nr_ BK250 hg
          have NB261_269 := nl_ BK261 hg
          have NB269_261 := nr_ BK261 hg
          have NB243_269 := IsS53.nl_ HI243 hg
          have NB269_243 := IsS53.nr_ HI243 hg
          replace HO255 := rb_ HO255 hb
          replace BK247 := tb_ BK247 hb
          replace BK248 := tb_ BK248 hb
          replace BK249 := tb_ BK249 hb
          replace BK250 := tb_ BK250 hb
          replace BK261 := tb_ BK261 hb
          replace HB := IsS53.ts_ HI243 HB hb
          replace HI243 := IsS53.tb_ HI243 hb
          clear hb hbox hg
          refine hK.out _ _ ⟨(blk_cell BK248.out 0).trans rfl, (blk_cell BK248.out 1).trans rfl, (blk_cell BK261.out 0).trans rfl, (blk_cell BK261.out 1).trans rfl, (blk_cell BK247.out 0).trans rfl, (blk_cell BK247.out 1).trans rfl⟩ (fun hHeld => ?_)
          clear hK K
          refine norm_ (a' := ?_) ?_ ?_
          rotate_left
          ·
           show Act.put _ (some 14) _ = _
           simp only [Act.put, List.setIfInBounds_toArray, List.set_cons_zero, List.set_cons_succ, i64_w, i32_w]
           rfl
          exact norm_ (by first | (simp only [putAll, Act.put, List.setIfInBounds_toArray, List.set_cons_zero, List.set_cons_succ]; done) | (simp only [putAll, Act.put, List.setIfInBounds_toArray, List.set_cons_zero, List.set_cons_succ]; rfl)) (hJ4_5_11 (gb269) _ ⟨hHeld, (re_ HO255), (by (with_reducible repeat (first | refine blk_drewN ?_ _ | refine blk_drew ?_ | refine blk_alloc ?_ _)); exact BK247.out), (by (with_reducible repeat (first | refine blk_drewN ?_ _ | refine blk_drew ?_ | refine blk_alloc ?_ _)); exact BK248.out), (by (with_reducible repeat (first | refine blk_drewN ?_ _ | refine blk_drew ?_ | refine blk_alloc ?_ _)); exact BK249.out), (by (with_reducible repeat (first | refine blk_drewN ?_ _ | refine blk_drew ?_ | refine blk_alloc ?_ _)); exact BK250.out), (by (with_reducible repeat (first | refine blk_drewN ?_ _ | refine blk_drew ?_ | refine blk_alloc ?_ _)); exact BK261.out), (by (with_reducible repeat (first | refine blk_drewN ?_ _ | refine blk_drew ?_ | refine blk_alloc ?_ _)); exact BK269.out), GW269.out, GE269.out, NB243_269.out, NB269_243.out, NB247_269.out, NB269_247.out, NB248_269.out, NB269_248.out, NB249_269.out, NB269_249.out, NB250_269.out, NB269_250.out, NB261_269.out, NB269_261.out, (by repeat (first | (with_reducible first | exact HI243.out | apply IsS53.alloc | apply IsS53.drewN | apply IsS53.drew | apply IsS53.set_1 | refine IsS53.far ?_ NB243_247.out _ | refine IsS53.far ?_ NB243_248.out _ | refine IsS53.far ?_ NB243_249.out _ | refine IsS53.far ?_ NB243_250.out _ | refine IsS53.far ?_ NB243_261.out _ | refine IsS53.far ?_ NB243_269.out _) | exact HI243.out)), (by repeat (first | (with_reducible first | exact HB.out | apply below_alloc | apply pw_below_drewN | apply below_drew1 | refine below_set ?_ (IsS53.ge HI243.out) | refine below_set ?_ GE247.out | refine below_set ?_ GE248.out | refine below_set ?_ GE249.out | refine below_set ?_ GE250.out | refine below_set ?_ GE261.out | refine below_set ?_ GE269.out) | exact HB.out))⟩)
       ·
        skip
        rintro ⟨gb268, gb269⟩ w49 ⟨hS_, h0_, h1_, h2_, h3_, h4_, h5_, h6_, h7_, h8_, h9_, h10_, h11_, h12_, h13_, h14_, h15_, h16_, h17_, h18_, h19_, h20_, h21_, h22_, h23_, h24_, h25_, h26_, h27_, h28_, h29_, h30_, h31_, h32_, h33_, h34_, h35_, h36_, h37_, h38_, h39_⟩
        have n0_ : Aside0 (Kd.R (Kd.int .i64) 3 w49 w.heap.size (fun _ => True) (.slice Ao35 y253.length co35) y253) := ⟨h0_⟩
        have n1_ : Aside0 (w49.heap[gb247]? = some (.cells #[.int .i64 t244, .int .i64 t245] 41 (0, 0))) := ⟨h1_⟩
        have n2_ : Aside0 (w49.heap[gb248]? = some (.cells #[.int .i64 x249000_1, .int .i64 x249001_1] 41 (0, 0))) := ⟨h2_⟩
        have n3_ : Aside0 (w49.heap[gb249]? = some (.cells #[.int .i64 x250000_1, .int .i64 x250001_1] 41 (0, 0))) := ⟨h3_⟩
        have n4_ : Aside0 (w49.heap[gb250]? = some (.cells #[.int .i64 x251000_1, .int .i64 x251001_1] 41 (0, 0))) := ⟨h4_⟩
        have n5_ : Aside0 (w49.heap[gb261]? = some (.cells #[.int .i64 t258, .int .i64 t259] 41 (0, 0))) := ⟨h5_⟩
        have n6_ : Aside0 (w49.heap[gb268]? = some (.cells #[.int .i64 0, .int .i64 0] 41 (0, 0))) := ⟨h6_⟩
        have n7_ : Aside0 (w49.heap[gb269]? = some (.cells #[.int .i64 0, .int .i64 0] 41 (0, 0))) := ⟨h7_⟩
        have n8_ : Aside0 (w.heap.size ≤ gb268) := ⟨h8_⟩
        have n9_ : Aside0 (w.heap.size ≤ gb268) := ⟨h9_⟩
        have n10_ : Aside0 (g243 ≠ gb268) := ⟨h10_⟩
        have n11_ : Aside0 (gb268 ≠ g243) := ⟨h11_⟩
        have n12_ : Aside0 (gb247 ≠ gb268) := ⟨h12_⟩
        have n13_ : Aside0 (gb268 ≠ gb247) := ⟨h13_⟩
        have n14_ : Aside0 (gb248 ≠ gb268) := ⟨h14_⟩
        have n15_ : Aside0 (gb268 ≠ gb248) := ⟨h15_⟩
        have n16_ : Aside0 (gb249 ≠ gb268) := ⟨h16_⟩
        have n17_ : Aside0 (gb268 ≠ gb249) := ⟨h17_⟩
        have n18_ : Aside0 (gb250 ≠ gb268) := ⟨h18_⟩
        have n19_ : Aside0 (gb268 ≠ gb250) := ⟨h19_⟩
        have n20_ : Aside0 (gb261 ≠ gb268) := ⟨h20_⟩
        have n21_ : Aside0 (gb268 ≠ gb261) := ⟨h21_⟩
        have n22_ : Aside0 (gb269 ≠ gb268) := ⟨h22_⟩
        have n23_ : Aside0 (gb268 ≠ gb269) := ⟨h23_⟩
        have n24_ : Aside0 (w.heap.size ≤ gb269) := ⟨h24_⟩
        have n25_ : Aside0 (w.heap.size ≤ gb269) := ⟨h25_⟩
        have n26_ : Aside0 (g243 ≠ gb269) := ⟨h26_⟩
        have n27_ : Aside0 (gb269 ≠ g243) := ⟨h27_⟩
        have n28_ : Aside0 (gb247 ≠ gb269) := ⟨h28_⟩
        have n29_ : Aside0 (gb269 ≠ gb247) := ⟨h29_⟩
        have n30_ : Aside0 (gb248 ≠ gb269) := ⟨h30_⟩
        have n31_ : Aside0 (gb269 ≠ gb248) := ⟨h31_⟩
        have n32_ : Aside0 (gb249 ≠ gb269) := ⟨h32_⟩
        have n33_ : Aside0 (gb269 ≠ gb249) := ⟨h33_⟩
        have n34_ : Aside0 (gb250 ≠ gb269) := ⟨h34_⟩
        have n35_ : Aside0 (gb269 ≠ gb250) := ⟨h35_⟩
        have n36_ : Aside0 (gb261 ≠ gb269) := ⟨h36_⟩
        have n37_ : Aside0 (gb269 ≠ gb261) := ⟨h37_⟩
        have n38_ : Aside0 (IsS53 w w49 g243 t241 t257) := ⟨h38_⟩
        have n39_ : Aside0 (Below w.heap.size w w49) := ⟨h39_⟩
        clear HO255
        clear BK247
        clear BK248
        clear BK249
        clear BK250
        clear BK261
        clear HI243
        clear HB
        clear h0_ h1_ h2_ h3_ h4_ h5_ h6_ h7_ h8_ h9_ h10_ h11_ h12_ h13_ h14_ h15_ h16_ h17_ h18_ h19_ h20_ h21_ h22_ h23_ h24_ h25_ h26_ h27_ h28_ h29_ h30_ h31_ h32_ h33_ h34_ h35_ h36_ h37_ h38_ h39_
        have HO255 := n0_
        have BK247 := n1_
        have BK248 := n2_
        have BK249 := n3_
        have BK250 := n4_
        have BK261 := n5_
        have BK268 := n6_
        have BK269 := n7_
        have GW268 := n8_
        have GE268 := n9_
        have NB243_268 := n10_
        have NB268_243 := n11_
        have NB247_268 := n12_
        have NB268_247 := n13_
        have NB248_268 := n14_
        have NB268_248 := n15_
        have NB249_268 := n16_
        have NB268_249 := n17_
        have NB250_268 := n18_
        have NB268_250 := n19_
        have NB261_268 := n20_
        have NB268_261 := n21_
        have NB269_268 := n22_
        have NB268_269 := n23_
        have GW269 := n24_
        have GE269 := n25_
        have NB243_269 := n26_
        have NB269_243 := n27_
        have NB247_269 := n28_
        have NB269_247 := n29_
        have NB248_269 := n30_
        have NB269_248 := n31_
        have NB249_269 := n32_
        have NB269_249 := n33_
        have NB250_269 := n34_
        have NB269_250 := n35_
        have NB261_269 := n36_
        have NB269_261 := n37_
        have HI243 := n38_
        have HB := n39_
        clear n0_ n1_ n2_ n3_ n4_ n5_ n6_ n7_ n8_ n9_ n10_ n11_ n12_ n13_ n14_ n15_ n16_ n17_ n18_ n19_ n20_ n21_ n22_ n23_ n24_ n25_ n26_ n27_ n28_ n29_ n30_ n31_ n32_ n33_ n34_ n35_ n36_ n37_ n38_ n39_
        have hHeld : w49.cell? ⟨gb248, 0, none⟩ = some (.int .i64 x249000_1) ∧ w49.cell? ⟨gb248, 1, none⟩ = some (.int .i64 x249001_1) ∧ w49.cell? ⟨gb261, 0, none⟩ = some (.int .i64 t258) ∧ w49.cell? ⟨gb261, 1, none⟩ = some (.int .i64 t259) ∧ w49.cell? ⟨gb247, 0, none⟩ = some (.int .i64 t244) ∧ w49.cell? ⟨gb247, 1, none⟩ = some (.int .i64 t245) := hS_
        refine norm_ (a' := ?_) ?_ ?_
        rotate_left
        ·
         simp only [putAll, Act.put, List.setIfInBounds_toArray, List.set_cons_zero, List.set_cons_succ]
         rfl
        refine one_ (i := 5) (N := some 45) #[true, true, true, true, true, true, false, false, false, false, true, true, false, false, false] rfl rfl (one_of HT_.out (by kernel_rfl)) (by decide) (fun K hK => ?_)
        refine goes_ Try.func32 (by kernel_rfl) rfl #[.agg #[.int .i64 x249000_1, .int .i64 x249001_1], .agg #[.int .i64 t258, .int .i64 t259], .agg #[.int .i64 t244, .int .i64 t245], .int .i64 t262] (by rfl) rfl rfl (by (try simp only [List.map_toArray, List.map_cons, List.map_nil]); first | done | rfl | (simp only [List.length_drop, List.length_take]; rfl)) ?_
        with_reducible refine (rounding_Carry.calls k1 x249000_1 x249001_1 t258 t259 t244 t245 t262 t263 t264 t265 t266 t267 _ A30.out).mono ?_
        rintro e w50 ⟨rfl, hb⟩
        refine ⟨_, rfl, ?_⟩
        replace HO255 := rb_ HO255 hb
        replace BK247 := tb_ BK247 hb
        replace BK248 := tb_ BK248 hb
        replace BK249 := tb_ BK249 hb
        replace BK250 := tb_ BK250 hb
        replace BK261 := tb_ BK261 hb
        replace BK268 := tb_ BK268 hb
        replace BK269 := tb_ BK269 hb
        replace HB := IsS53.ts_ HI243 HB hb
        replace HI243 := IsS53.tb_ HI243 hb
        (try clear hb)
        (try clear hb2)
        (try clear hk)
        (try clear hi)
        refine hK.out _ _ ⟨(blk_cell BK248.out 0).trans rfl, (blk_cell BK248.out 1).trans rfl, (blk_cell BK261.out 0).trans rfl, (blk_cell BK261.out 1).trans rfl, (blk_cell BK247.out 0).trans rfl, (blk_cell BK247.out 1).trans rfl⟩ (fun hHeld => ?_)
        clear hK K
        refine norm_ (a' := ?_) ?_ ?_
        rotate_left
        ·
         show Act.put _ (some 45) _ = _
         simp only [Act.put, List.setIfInBounds_toArray, List.set_cons_zero, List.set_cons_succ, i64_w, i32_w]
         rfl
        refine pure_ (i := 6) (N := some 39) (v := ?_) (a' := ?_) #[true, true, true, true, true, true, true, false, false, false, true, true, false, false, false] rfl rfl (any_of HT_.out (by kernel_rfl)) (fun _ _ _ h => h) (Or.inl ⟨by rfl, ?_⟩) ?_ ?_
        rotate_left
        ·
         intro w'
         go_simp
         with_reducible rfl
        rotate_left
        ·
         simp only [Act.put, List.setIfInBounds_toArray, List.set_cons_zero, List.set_cons_succ, i64_w, i32_w]
         rfl
        refine pure_ (i := 7) (N := some 46) (v := ?_) (a' := ?_) #[true, true, true, true, true, true, true, true, false, false, true, true, false, false, false] rfl rfl (any_of HT_.out (by kernel_rfl)) (fun _ _ _ h => h) (Or.inl ⟨by rfl, ?_⟩) ?_ ?_
        rotate_left
        ·
         intro w'
         go_simp
         with_reducible rfl
        rotate_left
        ·
         simp only [Act.put, List.setIfInBounds_toArray, List.set_cons_zero, List.set_cons_succ, i64_w, i32_w]
         rfl
        refine pure_ (i := 8) (N := some 47) (v := ?_) (a' := ?_) #[true, true, true, true, true, true, true, true, true, false, true, true, false, false, false] rfl rfl (any_of HT_.out (by kernel_rfl)) (fun _ _ _ h => h) (Or.inl ⟨by rfl, ?_⟩) ?_ ?_
        rotate_left
        ·
         intro w'
         go_simp
         with_reducible rfl
        rotate_left
        ·
         simp only [Act.put, List.setIfInBounds_toArray, List.set_cons_zero, List.set_cons_succ, i64_w, i32_w]
         rfl
        refine pure_ (i := 9) (N := some 48) (v := ?_) (a' := ?_) #[true, true, true, true, true, true, true, true, true, true, true, true, false, false, false] rfl rfl (any_of HT_.out (by kernel_rfl)) (fun _ _ _ h => h) (Or.inl ⟨by rfl, ?_⟩) ?_ ?_
        rotate_left
        ·
         intro w'
         go_simp
         with_reducible rfl
        rotate_left
        ·
         simp only [Act.put, List.setIfInBounds_toArray, List.set_cons_zero, List.set_cons_succ, i64_w, i32_w]
         rfl
        exact norm_ (by first | (simp only [putAll, Act.put, List.setIfInBounds_toArray, List.set_cons_zero, List.set_cons_succ]; done) | (simp only [putAll, Act.put, List.setIfInBounds_toArray, List.set_cons_zero, List.set_cons_succ]; rfl)) (hJ4_5_10_11 (gb268, gb269) _ ⟨hHeld, (re_ HO255), (by (with_reducible repeat (first | refine blk_drewN ?_ _ | refine blk_drew ?_ | refine blk_alloc ?_ _)); exact BK247.out), (by (with_reducible repeat (first | refine blk_drewN ?_ _ | refine blk_drew ?_ | refine blk_alloc ?_ _)); exact BK248.out), (by (with_reducible repeat (first | refine blk_drewN ?_ _ | refine blk_drew ?_ | refine blk_alloc ?_ _)); exact BK249.out), (by (with_reducible repeat (first | refine blk_drewN ?_ _ | refine blk_drew ?_ | refine blk_alloc ?_ _)); exact BK250.out), (by (with_reducible repeat (first | refine blk_drewN ?_ _ | refine blk_drew ?_ | refine blk_alloc ?_ _)); exact BK261.out), (by (with_reducible repeat (first | refine blk_drewN ?_ _ | refine blk_drew ?_ | refine blk_alloc ?_ _)); exact BK268.out), (by (with_reducible repeat (first | refine blk_drewN ?_ _ | refine blk_drew ?_ | refine blk_alloc ?_ _)); exact BK269.out), GW268.out, GE268.out, NB243_268.out, NB268_243.out, NB247_268.out, NB268_247.out, NB248_268.out, NB268_248.out, NB249_268.out, NB268_249.out, NB250_268.out, NB268_250.out, NB261_268.out, NB268_261.out, NB269_268.out, NB268_269.out, GW269.out, GE269.out, NB243_269.out, NB269_243.out, NB247_269.out, NB269_247.out, NB248_269.out, NB269_248.out, NB249_269.out, NB269_249.out, NB250_269.out, NB269_250.out, NB261_269.out, NB269_261.out, (by repeat (first | (with_reducible first | exact HI243.out | apply IsS53.alloc | apply IsS53.drewN | apply IsS53.drew | apply IsS53.set_1 | refine IsS53.far ?_ NB243_247.out _ | refine IsS53.far ?_ NB243_248.out _ | refine IsS53.far ?_ NB243_249.out _ | refine IsS53.far ?_ NB243_250.out _ | refine IsS53.far ?_ NB243_261.out _ | refine IsS53.far ?_ NB243_268.out _ | refine IsS53.far ?_ NB243_269.out _) | exact HI243.out)), (by repeat (first | (with_reducible first | exact HB.out | apply below_alloc | apply pw_below_drewN | apply below_drew1 | refine below_set ?_ (IsS53.ge HI243.out) | refine below_set ?_ GE247.out | refine below_set ?_ GE248.out | refine below_set ?_ GE249.out | refine below_set ?_ GE250.out | refine below_set ?_ GE261.out | refine below_set ?_ GE268.out | refine below_set ?_ GE269.out) | exact HB.out))⟩)
      ·
       skip
       rintro gb269 w49 ⟨hS_, h0_, h1_, h2_, h3_, h4_, h5_, h6_, h7_, h8_, h9_, h10_, h11_, h12_, h13_, h14_, h15_, h16_, h17_, h18_, h19_, h20_, h21_, h22_⟩
       have n0_ : Aside0 (Kd.R (Kd.int .i64) 3 w49 w.heap.size (fun _ => True) (.slice Ao35 y253.length co35) y253) := ⟨h0_⟩
       have n1_ : Aside0 (w49.heap[gb247]? = some (.cells #[.int .i64 t244, .int .i64 t245] 41 (0, 0))) := ⟨h1_⟩
       have n2_ : Aside0 (w49.heap[gb248]? = some (.cells #[.int .i64 x249000_1, .int .i64 x249001_1] 41 (0, 0))) := ⟨h2_⟩
       have n3_ : Aside0 (w49.heap[gb249]? = some (.cells #[.int .i64 x250000_1, .int .i64 x250001_1] 41 (0, 0))) := ⟨h3_⟩
       have n4_ : Aside0 (w49.heap[gb250]? = some (.cells #[.int .i64 x251000_1, .int .i64 x251001_1] 41 (0, 0))) := ⟨h4_⟩
       have n5_ : Aside0 (w49.heap[gb261]? = some (.cells #[.int .i64 t258, .int .i64 t259] 41 (0, 0))) := ⟨h5_⟩
       have n6_ : Aside0 (w49.heap[gb269]? = some (.cells #[.int .i64 0, .int .i64 0] 41 (0, 0))) := ⟨h6_⟩
       have n7_ : Aside0 (w.heap.size ≤ gb269) := ⟨h7_⟩
       have n8_ : Aside0 (w.heap.size ≤ gb269) := ⟨h8_⟩
       have n9_ : Aside0 (g243 ≠ gb269) := ⟨h9_⟩
       have n10_ : Aside0 (gb269 ≠ g243) := ⟨h10_⟩
       have n11_ : Aside0 (gb247 ≠ gb269) := ⟨h11_⟩
       have n12_ : Aside0 (gb269 ≠ gb247) := ⟨h12_⟩
       have n13_ : Aside0 (gb248 ≠ gb269) := ⟨h13_⟩
       have n14_ : Aside0 (gb269 ≠ gb248) := ⟨h14_⟩
       have n15_ : Aside0 (gb249 ≠ gb269) := ⟨h15_⟩
       have n16_ : Aside0 (gb269 ≠ gb249) := ⟨h16_⟩
       have n17_ : Aside0 (gb250 ≠ gb269) := ⟨h17_⟩
       have n18_ : Aside0 (gb269 ≠ gb250) := ⟨h18_⟩
       have n19_ : Aside0 (gb261 ≠ gb269) := ⟨h19_⟩
       have n20_ : Aside0 (gb269 ≠ gb261) := ⟨h20_⟩
       have n21_ : Aside0 (IsS53 w w49 g243 t241 t257) := ⟨h21_⟩
       have n22_ : Aside0 (Below w.heap.size w w49) := ⟨h22_⟩
       clear HO255
       clear BK247
       clear BK248
       clear BK249
       clear BK250
       clear BK261
       clear HI243
       clear HB
       clear h0_ h1_ h2_ h3_ h4_ h5_ h6_ h7_ h8_ h9_ h10_ h11_ h12_ h13_ h14_ h15_ h16_ h17_ h18_ h19_ h20_ h21_ h22_
       have HO255 := n0_
       have BK247 := n1_
       have BK248 := n2_
       have BK249 := n3_
       have BK250 := n4_
       have BK261 := n5_
       have BK269 := n6_
       have GW269 := n7_
       have GE269 := n8_
       have NB243_269 := n9_
       have NB269_243 := n10_
       have NB247_269 := n11_
       have NB269_247 := n12_
       have NB248_269 := n13_
       have NB269_248 := n14_
       have NB249_269 := n15_
       have NB269_249 := n16_
       have NB250_269 := n17_
       have NB269_250 := n18_
       have NB261_269 := n19_
       have NB269_261 := n20_
       have HI243 := n21_
       have HB := n22_
       clear n0_ n1_ n2_ n3_ n4_ n5_ n6_ n7_ n8_ n9_ n10_ n11_ n12_ n13_ n14_ n15_ n16_ n17_ n18_ n19_ n20_ n21_ n22_
       have hHeld : w49.cell? ⟨gb248, 0, none⟩ = some (.int .i64 x249000_1) ∧ w49.cell? ⟨gb248, 1, none⟩ = some (.int .i64 x249001_1) ∧ w49.cell? ⟨gb261, 0, none⟩ = some (.int .i64 t258) ∧ w49.cell? ⟨gb261, 1, none⟩ = some (.int .i64 t259) ∧ w49.cell? ⟨gb247, 0, none⟩ = some (.int .i64 t244) ∧ w49.cell? ⟨gb247, 1, none⟩ = some (.int .i64 t245) := hS_
       refine norm_ (a' := ?_) ?_ ?_
       rotate_left
       ·
        simp only [putAll, Act.put, List.setIfInBounds_toArray, List.set_cons_zero, List.set_cons_succ]
        rfl
       refine one_ (i := 10) (N := some 13) #[true, true, true, true, true, true, true, true, true, true, true, true, false, false, false] rfl rfl (one_of HT_.out (by kernel_rfl)) (by decide) (fun K hK => ?_)
       refine box_step ?hg (N := 13) ?hd (cs := #[.int .i64 0, .int .i64 0]) (t := 41) ?hr ?_; (case hd => rfl); (case hg => rfl); (case hr => first | (go_simp; done) | (go_simp; rfl))
       intro gb268 hg w50 hbox hb
       have BK268 := Aside0.mk (hbox)
       have GW268 := IsS53.sz_ HI243 HB hg
       have GE268 := IsS53.sz_ HI243 HB hg
       have NB247_268 := nl_ BK247 hg
       have NB268_247 := nr_ BK247 hg
       have NB248_268 := nl_ BK248 hg
       have NB268_248 := nr_ BK248 hg
       have NB249_268 := nl_ BK249 hg
       have NB268_249 := nr_ BK249 hg
       have NB250_268 := nl_ BK250 hg
       have NB268_250 := nr_ BK250 hg
       have NB261_268 := nl_ BK261 hg
       have NB268_261 := nr_ BK261 hg
       have NB269_268 := nl_ BK269 hg
       have NB268_269 := nr_ BK269 hg
       have NB243_268 := IsS53.nl_ HI243 hg
       have NB268_243 := IsS53.nr_ HI243 hg
       replace HO255 := rb_ HO255 hb
       replace BK247 := tb_ BK247 hb
       replace BK248 := tb_ BK248 hb
       replace BK249 := tb_ BK249 hb
       replace BK250 := tb_ BK250 hb
       replace BK261 := tb_ BK261 hb
       replace BK269 := tb_ BK269 hb
       replace HB := IsS53.ts_ HI243 HB hb
       replace HI243 := IsS53.tb_ HI243 hb
       clear hb hbox hg
       refine hK.out _ _ ⟨(blk_cell BK248.out 0).trans rfl, (blk_cell BK248.out 1).trans rfl, (blk_cell BK261.out 0).trans rfl, (blk_cell BK261.out 1).trans rfl, (blk_cell BK247.out 0).trans rfl, (blk_cell BK247.out 1).trans rfl⟩ (fun hHeld => ?_)
       clear hK K
       refine norm_ (a' := ?_) ?_ ?_
       rotate_left
       ·
        show Act.put _ (some 13) _ = _
        simp only [Act.put, List.setIfInBounds_toArray, List.set_cons_zero, List.set_cons_succ, i64_w, i32_w]
        rfl
       exact norm_ (by first | (simp only [putAll, Act.put, List.setIfInBounds_toArray, List.set_cons_zero, List.set_cons_succ]; done) | (simp only [putAll, Act.put, List.setIfInBounds_toArray, List.set_cons_zero, List.set_cons_succ]; rfl)) (hJ4_5_10_11 (gb268, gb269) _ ⟨hHeld, (re_ HO255), (by (with_reducible repeat (first | refine blk_drewN ?_ _ | refine blk_drew ?_ | refine blk_alloc ?_ _)); exact BK247.out), (by (with_reducible repeat (first | refine blk_drewN ?_ _ | refine blk_drew ?_ | refine blk_alloc ?_ _)); exact BK248.out), (by (with_reducible repeat (first | refine blk_drewN ?_ _ | refine blk_drew ?_ | refine blk_alloc ?_ _)); exact BK249.out), (by (with_reducible repeat (first | refine blk_drewN ?_ _ | refine blk_drew ?_ | refine blk_alloc ?_ _)); exact BK250.out), (by (with_reducible repeat (first | refine blk_drewN ?_ _ | refine blk_drew ?_ | refine blk_alloc ?_ _)); exact BK261.out), (by (with_reducible repeat (first | refine blk_drewN ?_ _ | refine blk_drew ?_ | refine blk_alloc ?_ _)); exact BK268.out), (by (with_reducible repeat (first | refine blk_drewN ?_ _ | refine blk_drew ?_ | refine blk_alloc ?_ _)); exact BK269.out), GW268.out, GE268.out, NB243_268.out, NB268_243.out, NB247_268.out, NB268_247.out, NB248_268.out, NB268_248.out, NB249_268.out, NB268_249.out, NB250_268.out, NB268_250.out, NB261_268.out, NB268_261.out, NB269_268.out, NB268_269.out, GW269.out, GE269.out, NB243_269.out, NB269_243.out, NB247_269.out, NB269_247.out, NB248_269.out, NB269_248.out, NB249_269.out, NB269_249.out, NB250_269.out, NB269_250.out, NB261_269.out, NB269_261.out, (by repeat (first | (with_reducible first | exact HI243.out | apply IsS53.alloc | apply IsS53.drewN | apply IsS53.drew | apply IsS53.set_1 | refine IsS53.far ?_ NB243_247.out _ | refine IsS53.far ?_ NB243_248.out _ | refine IsS53.far ?_ NB243_249.out _ | refine IsS53.far ?_ NB243_250.out _ | refine IsS53.far ?_ NB243_261.out _ | refine IsS53.far ?_ NB243_269.out _ | refine IsS53.far ?_ NB243_268.out _) | exact HI243.out)), (by repeat (first | (with_reducible first | exact HB.out | apply below_alloc | apply pw_below_drewN | apply below_drew1 | refine below_set ?_ (IsS53.ge HI243.out) | refine below_set ?_ GE247.out | refine below_set ?_ GE248.out | refine below_set ?_ GE249.out | refine below_set ?_ GE250.out | refine below_set ?_ GE261.out | refine below_set ?_ GE269.out | refine below_set ?_ GE268.out) | exact HB.out))⟩)
     ·
      skip
      rintro gb268 w49 ⟨hS_, h0_, h1_, h2_, h3_, h4_, h5_, h6_, h7_, h8_, h9_, h10_, h11_, h12_, h13_, h14_, h15_, h16_, h17_, h18_, h19_, h20_, h21_, h22_⟩
      have n0_ : Aside0 (Kd.R (Kd.int .i64) 3 w49 w.heap.size (fun _ => True) (.slice Ao35 y253.length co35) y253) := ⟨h0_⟩
      have n1_ : Aside0 (w49.heap[gb247]? = some (.cells #[.int .i64 t244, .int .i64 t245] 41 (0, 0))) := ⟨h1_⟩
      have n2_ : Aside0 (w49.heap[gb248]? = some (.cells #[.int .i64 x249000_1, .int .i64 x249001_1] 41 (0, 0))) := ⟨h2_⟩
      have n3_ : Aside0 (w49.heap[gb249]? = some (.cells #[.int .i64 x250000_1, .int .i64 x250001_1] 41 (0, 0))) := ⟨h3_⟩
      have n4_ : Aside0 (w49.heap[gb250]? = some (.cells #[.int .i64 x251000_1, .int .i64 x251001_1] 41 (0, 0))) := ⟨h4_⟩
      have n5_ : Aside0 (w49.heap[gb261]? = some (.cells #[.int .i64 t258, .int .i64 t259] 41 (0, 0))) := ⟨h5_⟩
      have n6_ : Aside0 (w49.heap[gb268]? = some (.cells #[.int .i64 0, .int .i64 0] 41 (0, 0))) := ⟨h6_⟩
      have n7_ : Aside0 (w.heap.size ≤ gb268) := ⟨h7_⟩
      have n8_ : Aside0 (w.heap.size ≤ gb268) := ⟨h8_⟩
      have n9_ : Aside0 (g243 ≠ gb268) := ⟨h9_⟩
      have n10_ : Aside0 (gb268 ≠ g243) := ⟨h10_⟩
      have n11_ : Aside0 (gb247 ≠ gb268) := ⟨h11_⟩
      have n12_ : Aside0 (gb268 ≠ gb247) := ⟨h12_⟩
      have n13_ : Aside0 (gb248 ≠ gb268) := ⟨h13_⟩
      have n14_ : Aside0 (gb268 ≠ gb248) := ⟨h14_⟩
      have n15_ : Aside0 (gb249 ≠ gb268) := ⟨h15_⟩
      have n16_ : Aside0 (gb268 ≠ gb249) := ⟨h16_⟩
      have n17_ : Aside0 (gb250 ≠ gb268) := ⟨h17_⟩
      have n18_ : Aside0 (gb268 ≠ gb250) := ⟨h18_⟩
      have n19_ : Aside0 (gb261 ≠ gb268) := ⟨h19_⟩
      have n20_ : Aside0 (gb268 ≠ gb261) := ⟨h20_⟩
      have n21_ : Aside0 (IsS53 w w49 g243 t241 t257) := ⟨h21_⟩
      have n22_ : Aside0 (Below w.heap.size w w49) := ⟨h22_⟩
      clear HO255
      clear BK247
      clear BK248
      clear BK249
      clear BK250
      clear BK261
      clear HI243
      clear HB
      clear h0_ h1_ h2_ h3_ h4_ h5_ h6_ h7_ h8_ h9_ h10_ h11_ h12_ h13_ h14_ h15_ h16_ h17_ h18_ h19_ h20_ h21_ h22_
      have HO255 := n0_
      have BK247 := n1_
      have BK248 := n2_
      have BK249 := n3_
      have BK250 := n4_
      have BK261 := n5_
      have BK268 := n6_
      have GW268 := n7_
      have GE268 := n8_
      have NB243_268 := n9_
      have NB268_243 := n10_
      have NB247_268 := n11_
      have NB268_247 := n12_
      have NB248_268 := n13_
      have NB268_248 := n14_
      have NB249_268 := n15_
      have NB268_249 := n16_
      have NB250_268 := n17_
      have NB268_250 := n18_
      have NB261_268 := n19_
      have NB268_261 := n20_
      have HI243 := n21_
      have HB := n22_
      clear n0_ n1_ n2_ n3_ n4_ n5_ n6_ n7_ n8_ n9_ n10_ n11_ n12_ n13_ n14_ n15_ n16_ n17_ n18_ n19_ n20_ n21_ n22_
      have hHeld : w49.cell? ⟨gb248, 0, none⟩ = some (.int .i64 x249000_1) ∧ w49.cell? ⟨gb248, 1, none⟩ = some (.int .i64 x249001_1) ∧ w49.cell? ⟨gb261, 0, none⟩ = some (.int .i64 t258) ∧ w49.cell? ⟨gb261, 1, none⟩ = some (.int .i64 t259) ∧ w49.cell? ⟨gb247, 0, none⟩ = some (.int .i64 t244) ∧ w49.cell? ⟨gb247, 1, none⟩ = some (.int .i64 t245) := hS_
      refine norm_ (a' := ?_) ?_ ?_
      rotate_left
      ·
       simp only [putAll, Act.put, List.setIfInBounds_toArray, List.set_cons_zero, List.set_cons_succ]
       rfl
      refine one_ (i := 11) (N := some 14) #[true, true, true, true, true, true, true, true, true, true, true, true, false, false, false] rfl rfl (one_of HT_.out (by kernel_rfl)) (by decide) (fun K hK => ?_)
      refine box_step ?hg (N := 14) ?hd (cs := #[.int .i64 0, .int .i64 0]) (t := 41) ?hr ?_; (case hd => rfl); (case hg => rfl); (case hr => first | (go_simp; done) | (go_simp; rfl))
      intro gb269 hg w50 hbox hb
      have BK269 := Aside0.mk (hbox)
      have GW269 := IsS53.sz_ HI243 HB hg
      have GE269 := IsS53.sz_ HI243 HB hg
      have NB247_269 := nl_ BK247 hg
      have NB269_247 := nr_ BK247 hg
      have NB248_269 := nl_ BK248 hg
      have NB269_248 := nr_ BK248 hg
      have NB249_269 := nl_ BK249 hg
      have NB269_249 := nr_ BK249 hg
      have NB250_269 := nl_ BK250 hg
      have NB269_250 := nr_ BK250 hg
      have NB261_269 := nl_ BK261 hg
      have NB269_261 := nr_ BK261 hg
      have NB268_269 := nl_ BK268 hg
      have NB269_268 := nr_ BK268 hg
      have NB243_269 := IsS53.nl_ HI243 hg
      have NB269_243 := IsS53.nr_ HI243 hg
      replace HO255 := rb_ HO255 hb
      replace BK247 := tb_ BK247 hb
      replace BK248 := tb_ BK248 hb
      replace BK249 := tb_ BK249 hb
      replace BK250 := tb_ BK250 hb
      replace BK261 := tb_ BK261 hb
      replace BK268 := tb_ BK268 hb
      replace HB := IsS53.ts_ HI243 HB hb
      replace HI243 := IsS53.tb_ HI243 hb
      clear hb hbox hg
      refine hK.out _ _ ⟨(blk_cell BK248.out 0).trans rfl, (blk_cell BK248.out 1).trans rfl, (blk_cell BK261.out 0).trans rfl, (blk_cell BK261.out 1).trans rfl, (blk_cell BK247.out 0).trans rfl, (blk_cell BK247.out 1).trans rfl⟩ (fun hHeld => ?_)
      clear hK K
      refine norm_ (a' := ?_) ?_ ?_
      rotate_left
      ·
       show Act.put _ (some 14) _ = _
       simp only [Act.put, List.setIfInBounds_toArray, List.set_cons_zero, List.set_cons_succ, i64_w, i32_w]
       rfl
      exact norm_ (by first | (simp only [putAll, Act.put, List.setIfInBounds_toArray, List.set_cons_zero, List.set_cons_succ]; done) | (simp only [putAll, Act.put, List.setIfInBounds_toArray, List.set_cons_zero, List.set_cons_succ]; rfl)) (hJ4_5_10_11 (gb268, gb269) _ ⟨hHeld, (re_ HO255), (by (with_reducible repeat (first | refine blk_drewN ?_ _ | refine blk_drew ?_ | refine blk_alloc ?_ _)); exact BK247.out), (by (with_reducible repeat (first | refine blk_drewN ?_ _ | refine blk_drew ?_ | refine blk_alloc ?_ _)); exact BK248.out), (by (with_reducible repeat (first | refine blk_drewN ?_ _ | refine blk_drew ?_ | refine blk_alloc ?_ _)); exact BK249.out), (by (with_reducible repeat (first | refine blk_drewN ?_ _ | refine blk_drew ?_ | refine blk_alloc ?_ _)); exact BK250.out), (by (with_reducible repeat (first | refine blk_drewN ?_ _ | refine blk_drew ?_ | refine blk_alloc ?_ _)); exact BK261.out), (by (with_reducible repeat (first | refine blk_drewN ?_ _ | refine blk_drew ?_ | refine blk_alloc ?_ _)); exact BK268.out), (by (with_reducible repeat (first | refine blk_drewN ?_ _ | refine blk_drew ?_ | refine blk_alloc ?_ _)); exact BK269.out), GW268.out, GE268.out, NB243_268.out, NB268_243.out, NB247_268.out, NB268_247.out, NB248_268.out, NB268_248.out, NB249_268.out, NB268_249.out, NB250_268.out, NB268_250.out, NB261_268.out, NB268_261.out, NB269_268.out, NB268_269.out, GW269.out, GE269.out, NB243_269.out, NB269_243.out, NB247_269.out, NB269_247.out, NB248_269.out, NB269_248.out, NB249_269.out, NB269_249.out, NB250_269.out, NB269_250.out, NB261_269.out, NB269_261.out, (by repeat (first | (with_reducible first | exact HI243.out | apply IsS53.alloc | apply IsS53.drewN | apply IsS53.drew | apply IsS53.set_1 | refine IsS53.far ?_ NB243_247.out _ | refine IsS53.far ?_ NB243_248.out _ | refine IsS53.far ?_ NB243_249.out _ | refine IsS53.far ?_ NB243_250.out _ | refine IsS53.far ?_ NB243_261.out _ | refine IsS53.far ?_ NB243_268.out _ | refine IsS53.far ?_ NB243_269.out _) | exact HI243.out)), (by repeat (first | (with_reducible first | exact HB.out | apply below_alloc | apply pw_below_drewN | apply below_drew1 | refine below_set ?_ (IsS53.ge HI243.out) | refine below_set ?_ GE247.out | refine below_set ?_ GE248.out | refine below_set ?_ GE249.out | refine below_set ?_ GE250.out | refine below_set ?_ GE261.out | refine below_set ?_ GE268.out | refine below_set ?_ GE269.out) | exact HB.out))⟩)
    rintro ⟨gb268, gb269⟩ w50 ⟨hS_, h0_, h1_, h2_, h3_, h4_, h5_, h6_, h7_, h8_, h9_, h10_, h11_, h12_, h13_, h14_, h15_, h16_, h17_, h18_, h19_, h20_, h21_, h22_, h23_, h24_, h25_, h26_, h27_, h28_, h29_, h30_, h31_, h32_, h33_, h34_, h35_, h36_, h37_, h38_, h39_⟩
    have n0_ : Aside0 (Kd.R (Kd.int .i64) 3 w50 w.heap.size (fun _ => True) (.slice Ao35 y253.length co35) y253) := ⟨h0_⟩
    have n1_ : Aside0 (w50.heap[gb247]? = some (.cells #[.int .i64 t244, .int .i64 t245] 41 (0, 0))) := ⟨h1_⟩
    have n2_ : Aside0 (w50.heap[gb248]? = some (.cells #[.int .i64 x249000_1, .int .i64 x249001_1] 41 (0, 0))) := ⟨h2_⟩
    have n3_ : Aside0 (w50.heap[gb249]? = some (.cells #[.int .i64 x250000_1, .int .i64 x250001_1] 41 (0, 0))) := ⟨h3_⟩
    have n4_ : Aside0 (w50.heap[gb250]? = some (.cells #[.int .i64 x251000_1, .int .i64 x251001_1] 41 (0, 0))) := ⟨h4_⟩
    have n5_ : Aside0 (w50.heap[gb261]? = some (.cells #[.int .i64 t258, .int .i64 t259] 41 (0, 0))) := ⟨h5_⟩
    have n6_ : Aside0 (w50.heap[gb268]? = some (.cells #[.int .i64 0, .int .i64 0] 41 (0, 0))) := ⟨h6_⟩
    have n7_ : Aside0 (w50.heap[gb269]? = some (.cells #[.int .i64 0, .int .i64 0] 41 (0, 0))) := ⟨h7_⟩
    have n8_ : Aside0 (w.heap.size ≤ gb268) := ⟨h8_⟩
    have n9_ : Aside0 (w.heap.size ≤ gb268) := ⟨h9_⟩
    have n10_ : Aside0 (g243 ≠ gb268) := ⟨h10_⟩
    have n11_ : Aside0 (gb268 ≠ g243) := ⟨h11_⟩
    have n12_ : Aside0 (gb247 ≠ gb268) := ⟨h12_⟩
    have n13_ : Aside0 (gb268 ≠ gb247) := ⟨h13_⟩
    have n14_ : Aside0 (gb248 ≠ gb268) := ⟨h14_⟩
    have n15_ : Aside0 (gb268 ≠ gb248) := ⟨h15_⟩
    have n16_ : Aside0 (gb249 ≠ gb268) := ⟨h16_⟩
    have n17_ : Aside0 (gb268 ≠ gb249) := ⟨h17_⟩
    have n18_ : Aside0 (gb250 ≠ gb268) := ⟨h18_⟩
    have n19_ : Aside0 (gb268 ≠ gb250) := ⟨h19_⟩
    have n20_ : Aside0 (gb261 ≠ gb268) := ⟨h20_⟩
    have n21_ : Aside0 (gb268 ≠ gb261) := ⟨h21_⟩
    have n22_ : Aside0 (gb269 ≠ gb268) := ⟨h22_⟩
    have n23_ : Aside0 (gb268 ≠ gb269) := ⟨h23_⟩
    have n24_ : Aside0 (w.heap.size ≤ gb269) := ⟨h24_⟩
    have n25_ : Aside0 (w.heap.size ≤ gb269) := ⟨h25_⟩
    have n26_ : Aside0 (g243 ≠ gb269) := ⟨h26_⟩
    have n27_ : Aside0 (gb269 ≠ g243) := ⟨h27_⟩
    have n28_ : Aside0 (gb247 ≠ gb269) := ⟨h28_⟩
    have n29_ : Aside0 (gb269 ≠ gb247) := ⟨h29_⟩
    have n30_ : Aside0 (gb248 ≠ gb269) := ⟨h30_⟩
    have n31_ : Aside0 (gb269 ≠ gb248) := ⟨h31_⟩
    have n32_ : Aside0 (gb249 ≠ gb269) := ⟨h32_⟩
    have n33_ : Aside0 (gb269 ≠ gb249) := ⟨h33_⟩
    have n34_ : Aside0 (gb250 ≠ gb269) := ⟨h34_⟩
    have n35_ : Aside0 (gb269 ≠ gb250) := ⟨h35_⟩
    have n36_ : Aside0 (gb261 ≠ gb269) := ⟨h36_⟩
    have n37_ : Aside0 (gb269 ≠ gb261) := ⟨h37_⟩
    have n38_ : Aside0 (IsS53 w w50 g243 t241 t257) := ⟨h38_⟩
    have n39_ : Aside0 (Below w.heap.size w w50) := ⟨h39_⟩
    clear HO255
    clear BK247
    clear BK248
    clear BK249
    clear BK250
    clear BK261
    clear HI243
    clear HB
    clear h0_ h1_ h2_ h3_ h4_ h5_ h6_ h7_ h8_ h9_ h10_ h11_ h12_ h13_ h14_ h15_ h16_ h17_ h18_ h19_ h20_ h21_ h22_ h23_ h24_ h25_ h26_ h27_ h28_ h29_ h30_ h31_ h32_ h33_ h34_ h35_ h36_ h37_ h38_ h39_
    have HO255 := n0_
    have BK247 := n1_
    have BK248 := n2_
    have BK249 := n3_
    have BK250 := n4_
    have BK261 := n5_
    have BK268 := n6_
    have BK269 := n7_
    have GW268 := n8_
    have GE268 := n9_
    have NB243_268 := n10_
    have NB268_243 := n11_
    have NB247_268 := n12_
    have NB268_247 := n13_
    have NB248_268 := n14_
    have NB268_248 := n15_
    have NB249_268 := n16_
    have NB268_249 := n17_
    have NB250_268 := n18_
    have NB268_250 := n19_
    have NB261_268 := n20_
    have NB268_261 := n21_
    have NB269_268 := n22_
    have NB268_269 := n23_
    have GW269 := n24_
    have GE269 := n25_
    have NB243_269 := n26_
    have NB269_243 := n27_
    have NB247_269 := n28_
    have NB269_247 := n29_
    have NB248_269 := n30_
    have NB269_248 := n31_
    have NB249_269 := n32_
    have NB269_249 := n33_
    have NB250_269 := n34_
    have NB269_250 := n35_
    have NB261_269 := n36_
    have NB269_261 := n37_
    have HI243 := n38_
    have HB := n39_
    clear n0_ n1_ n2_ n3_ n4_ n5_ n6_ n7_ n8_ n9_ n10_ n11_ n12_ n13_ n14_ n15_ n16_ n17_ n18_ n19_ n20_ n21_ n22_ n23_ n24_ n25_ n26_ n27_ n28_ n29_ n30_ n31_ n32_ n33_ n34_ n35_ n36_ n37_ n38_ n39_
    have hHeld : w50.cell? ⟨gb248, 0, none⟩ = some (.int .i64 x249000_1) ∧ w50.cell? ⟨gb248, 1, none⟩ = some (.int .i64 x249001_1) ∧ w50.cell? ⟨gb261, 0, none⟩ = some (.int .i64 t258) ∧ w50.cell? ⟨gb261, 1, none⟩ = some (.int .i64 t259) ∧ w50.cell? ⟨gb247, 0, none⟩ = some (.int .i64 t244) ∧ w50.cell? ⟨gb247, 1, none⟩ = some (.int .i64 t245) := hS_
    refine norm_ (a' := ?_) ?_ ?_
    rotate_left
    ·
     simp only [putAll, Act.put, List.setIfInBounds_toArray, List.set_cons_zero, List.set_cons_succ]
     rfl
    refine one_ (i := 12) (N := none) #[true, true, true, true, true, true, true, true, true, true, true, true, true, false, false] rfl rfl (one_of HT_.out (by kernel_rfl)) (by decide) (fun K hK => ?_)
    have hs51 : w50.cell? ⟨gb268, 0, none⟩ = some (.int .i64 0) := (blk_cell BK268.out 0).trans rfl
    have hfs51 := blk_frozen BK268.out 0
    have hns51_0 := NB247_268.out
    have hns51_1 := NB248_268.out
    have hns51_2 := NB249_268.out
    have hns51_3 := NB250_268.out
    have hns51_4 := NB261_268.out
    have hns51_6 := NB269_268.out
    have hms51_0 := NB268_247.out
    have hms51_1 := NB268_248.out
    have hms51_2 := NB268_249.out
    have hms51_3 := NB268_250.out
    have hms51_4 := NB268_261.out
    have hms51_6 := NB268_269.out
    have hs52 : w50.cell? ⟨gb268, 1, none⟩ = some (.int .i64 0) := (blk_cell BK268.out 1).trans rfl
    have hfs52 := blk_frozen BK268.out 1
    have hns52_0 := NB247_268.out
    have hns52_1 := NB248_268.out
    have hns52_2 := NB249_268.out
    have hns52_3 := NB250_268.out
    have hns52_4 := NB261_268.out
    have hns52_6 := NB269_268.out
    have hms52_0 := NB268_247.out
    have hms52_1 := NB268_248.out
    have hms52_2 := NB268_249.out
    have hms52_3 := NB268_250.out
    have hms52_4 := NB268_261.out
    have hms52_6 := NB268_269.out
    refine skip_ (w1 := ?_) (by rfl) rfl ?_ ?_
    rotate_left
    ·
     go_simp
     rfl
    refine hK.out _ _ ⟨((cell_far (p := ⟨gb268, _, none⟩) NB248_268.out _).trans (((cell_far (p := ⟨gb268, _, none⟩) NB248_268.out _).trans (hHeld.1)))), ((cell_far (p := ⟨gb268, _, none⟩) NB248_268.out _).trans (((cell_far (p := ⟨gb268, _, none⟩) NB248_268.out _).trans (hHeld.2.1)))), ((cell_far (p := ⟨gb268, _, none⟩) NB261_268.out _).trans (((cell_far (p := ⟨gb268, _, none⟩) NB261_268.out _).trans (hHeld.2.2.1)))), ((cell_far (p := ⟨gb268, _, none⟩) NB261_268.out _).trans (((cell_far (p := ⟨gb268, _, none⟩) NB261_268.out _).trans (hHeld.2.2.2.1)))), ((cell_far (p := ⟨gb268, _, none⟩) NB247_268.out _).trans (((cell_far (p := ⟨gb268, _, none⟩) NB247_268.out _).trans (hHeld.2.2.2.2.1)))), ((cell_far (p := ⟨gb268, _, none⟩) NB247_268.out _).trans (((cell_far (p := ⟨gb268, _, none⟩) NB247_268.out _).trans (hHeld.2.2.2.2.2))))⟩ (fun hHeld => ?_)
    clear hK K
    refine one_ (i := 13) (N := none) #[true, true, true, true, true, true, true, true, true, true, true, true, true, true, false] rfl rfl (one_of HT_.out (by kernel_rfl)) (by decide) (fun K hK => ?_)
    have hs53 : w50.cell? ⟨gb269, 0, none⟩ = some (.int .i64 0) := (blk_cell BK269.out 0).trans rfl
    have hfs53 := blk_frozen BK269.out 0
    have hns53_0 := NB247_269.out
    have hns53_1 := NB248_269.out
    have hns53_2 := NB249_269.out
    have hns53_3 := NB250_269.out
    have hns53_4 := NB261_269.out
    have hns53_5 := NB268_269.out
    have hms53_0 := NB269_247.out
    have hms53_1 := NB269_248.out
    have hms53_2 := NB269_249.out
    have hms53_3 := NB269_250.out
    have hms53_4 := NB269_261.out
    have hms53_5 := NB269_268.out
    have hs54 : w50.cell? ⟨gb269, 1, none⟩ = some (.int .i64 0) := (blk_cell BK269.out 1).trans rfl
    have hfs54 := blk_frozen BK269.out 1
    have hns54_0 := NB247_269.out
    have hns54_1 := NB248_269.out
    have hns54_2 := NB249_269.out
    have hns54_3 := NB250_269.out
    have hns54_4 := NB261_269.out
    have hns54_5 := NB268_269.out
    have hms54_0 := NB269_247.out
    have hms54_1 := NB269_248.out
    have hms54_2 := NB269_249.out
    have hms54_3 := NB269_250.out
    have hms54_4 := NB269_261.out
    have hms54_5 := NB269_268.out
    refine skip_ (w1 := ?_) (by rfl) rfl ?_ ?_
    rotate_left
    ·
     go_simp
     rfl
    refine hK.out _ _ ⟨((cell_far (p := ⟨gb269, _, none⟩) NB248_269.out _).trans (((cell_far (p := ⟨gb269, _, none⟩) NB248_269.out _).trans (hHeld.1)))), ((cell_far (p := ⟨gb269, _, none⟩) NB248_269.out _).trans (((cell_far (p := ⟨gb269, _, none⟩) NB248_269.out _).trans (hHeld.2.1)))), ((cell_far (p := ⟨gb269, _, none⟩) NB261_269.out _).trans (((cell_far (p := ⟨gb269, _, none⟩) NB261_269.out _).trans (hHeld.2.2.1)))), ((cell_far (p := ⟨gb269, _, none⟩) NB261_269.out _).trans (((cell_far (p := ⟨gb269, _, none⟩) NB261_269.out _).trans (hHeld.2.2.2.1)))), ((cell_far (p := ⟨gb269, _, none⟩) NB247_269.out _).trans (((cell_far (p := ⟨gb269, _, none⟩) NB247_269.out _).trans (hHeld.2.2.2.2.1)))), ((cell_far (p := ⟨gb269, _, none⟩) NB247_269.out _).trans (((cell_far (p := ⟨gb269, _, none⟩) NB247_269.out _).trans (hHeld.2.2.2.2.2))))⟩ (fun hHeld => ?_)
    clear hK K
    refine pure_ (i := 14) (N := some 15) (v := ?_) (a' := ?_) #[true, true, true, true, true, true, true, true, true, true, true, true, true, true, true] rfl rfl (any_of HT_.out (by kernel_rfl)) (fun _ _ _ h => h) (Or.inl ⟨by rfl, ?_⟩) ?_ ?_
    rotate_left
    ·
     intro w'
     go_simp
     with_reducible rfl
    rotate_left
    ·
     simp only [Act.put, List.setIfInBounds_toArray, List.set_cons_zero, List.set_cons_succ, i64_w, i32_w]
     rfl
    refine done_ (done_of HT_.out (by kernel_rfl)) ?_
    go_upto_region 9 with (fail)
    go_cut [67] (fun v67 wc => ∃ (kq : Nat) (x67_30 : Bool), v67 = .bool x67_30 ∧ Aside0 (payrolllaw2_RoundingCarries.j1 kq a1 x10_1 x67_30 t241 t257 t244 t245 x250000_1 x250001_1 x251000_1 x251001_1 t258 t259 t263 t264 t265 t266 = some r) ∧ Aside0 (kq ≤ k1) ∧ Aside0 (wc.heap[gb247]? = some (.cells #[.int .i64 t244, .int .i64 t245] 41 (0, 0))) ∧ Aside0 (wc.heap[gb248]? = some (.cells #[.int .i64 x249000_1, .int .i64 x249001_1] 41 (0, 0))) ∧ Aside0 (wc.heap[gb249]? = some (.cells #[.int .i64 x250000_1, .int .i64 x250001_1] 41 (0, 0))) ∧ Aside0 (wc.heap[gb250]? = some (.cells #[.int .i64 x251000_1, .int .i64 x251001_1] 41 (0, 0))) ∧ Aside0 (wc.heap[gb261]? = some (.cells #[.int .i64 t258, .int .i64 t259] 41 (0, 0))) ∧ Aside0 (wc.heap[gb268]? = some (.cells #[.int .i64 t263, .int .i64 t264] 41 (0, 0))) ∧ Aside0 (wc.heap[gb269]? = some (.cells #[.int .i64 t265, .int .i64 t266] 41 (0, 0))) ∧ Aside0 (IsS53 w wc g243 t241 t257) ∧ Aside0 (Below w.heap.size w wc))
    case first =>
     have H := HC31.out
     clear HC31
     by_cases c55 : t267 = 0
     ·
      rw [if_pos c55] at H
      have c55b0 : (t267 == 0) = true := beq_iff_eq.mpr c55
      have c55b1 : (t267 != 0) = false := bne_eq_false_iff_eq.mpr c55
      clear c55
      (first | rw [c55b0] | (simp only [i64_w, i32_w]; rw [c55b0]) | skip)
      replace H := Option.bind_eq_some_iff.mp H
      obtain ⟨t270, A560, H⟩ := H
      replace H : (if t270 ≥ 0 then (payrolllaw2_RoundingCarries.j1 k1 a1 x10_1 true t241 t257 t244 t245 x250000_1 x250001_1 x251000_1 x251001_1 t258 t259 t263 t264 t265 t266) else ((ratio_Compare.f k1 (wrap64 (-t244)) t245 t265 t266).bind fun t271 => (payrolllaw2_RoundingCarries.j1 k1 a1 x10_1 (decide (t271 ≥ 0)) t241 t257 t244 t245 x250000_1 x250001_1 x251000_1 x251001_1 t258 t259 t263 t264 t265 t266))) = some r := H
      have A56 := Aside0.mk A560
      clear A560
      by_cases c57 : t270 ≥ 0
      ·
       rw [if_pos c57] at H
       have c57b0 : decide (0 ≤ t270) = true := decide_eq_true c57
       clear c57
       have H' := Aside0.mk H
       clear H
       have hnb58 := NB269_247.out
       have hnc58 := NB247_269.out
       have hnb59 := NB269_248.out
       have hnc59 := NB248_269.out
       have hnb60 := NB269_249.out
       have hnc60 := NB249_269.out
       have hnb61 := NB269_250.out
       have hnc61 := NB250_269.out
       have hnb62 := NB269_261.out
       have hnc62 := NB261_269.out
       have hnb63 := NB269_268.out
       have hnc63 := NB268_269.out
       have hnb64 := NB269_243.out
       have hnc64 := NB243_269.out
       have hcz65_0 : w50.cell? ⟨gb269, 0, none⟩ = some (.int .i64 0) := (blk_cell BK269.out 0).trans rfl
       have hcz65_1 : w50.cell? ⟨gb269, 1, none⟩ = some (.int .i64 0) := (blk_cell BK269.out 1).trans rfl
       have hfz65_0 := blk_frozen BK269.out 0
       have hfz65_1 := blk_frozen BK269.out 1
       have hnb66 := NB247_248.out
       have hnc66 := NB248_247.out
       have hnb67 := NB247_249.out
       have hnc67 := NB249_247.out
       have hnb68 := NB247_250.out
       have hnc68 := NB250_247.out
       have hnb69 := NB247_261.out
       have hnc69 := NB261_247.out
       have hnb70 := NB247_268.out
       have hnc70 := NB268_247.out
       have hnb71 := NB247_243.out
       have hnc71 := NB243_247.out
       have hcz72_0 : w50.cell? ⟨gb247, 0, none⟩ = some (.int .i64 t244) := (blk_cell BK247.out 0).trans rfl
       have hcz72_1 : w50.cell? ⟨gb247, 1, none⟩ = some (.int .i64 t245) := (blk_cell BK247.out 1).trans rfl
       have hfz72_0 := blk_frozen BK247.out 0
       have hfz72_1 := blk_frozen BK247.out 1
       go_wp2_with (first | (go_at_call 24; (with_reducible refine (ratio_Compare.calls k1 t265 t266 t244 t245 t270 _ A56.out).mono ?_); rintro e w73 ⟨rfl, hb⟩; replace HO255 := Aside0.mk (Kd.R_below (by (with_reducible repeat (first | apply Kd.R_alloc | apply Kd.R_drewN | apply Kd.R_drew)); exact (Kd.R_mono (Kd.R_mono (Kd.R_far (p := ⟨gb269, 1, none⟩) (Kd.R_far (p := ⟨gb269, 0, none⟩) (Kd.R_far (p := ⟨gb268, 1, none⟩) (Kd.R_far (p := ⟨gb268, 0, none⟩) (Kd.R_types (Kd.R_types HO255.out BK268.out (by decide)) BK269.out (by decide)) (fun _ hk => hk.1.2) (.int .i64 t263)) (fun _ hk => hk.1.2) (.int .i64 t264)) (fun _ hk => hk.2) (.int .i64 t265)) (fun _ hk => hk.2) (.int .i64 t266)) (fun _ h_ => h_.1)) (fun _ h_ => h_.1))) hb); replace BK247 := tb_ BK247 hb; replace BK248 := tb_ BK248 hb; replace BK249 := tb_ BK249 hb; replace BK250 := tb_ BK250 hb; replace BK261 := tb_ BK261 hb; replace BK268 := tb_ (o' := .cells #[.int .i64 t263, .int .i64 t264] 41 (0, 0)) BK268 hb; replace BK269 := tb_ (o' := .cells #[.int .i64 t265, .int .i64 t266] 41 (0, 0)) BK269 hb; replace HB := IsS53.ts_ HI243 HB hb; replace HI243 := IsS53.tb_ HI243 hb; (try clear hb); (try clear hb2); (try clear hk); (try clear hi)))
       go_meet
       case rel => exact ⟨_, (true), (by first | rfl | (simp; done) | (simp [*]; done)), H', ⟨by have := HK1.out; first | omega | exact Nat.le_refl _⟩, ⟨by (with_reducible repeat (first | refine blk_drewN ?_ _ | refine blk_drew ?_ | refine blk_alloc ?_ _)); exact BK247.out⟩, ⟨by (with_reducible repeat (first | refine blk_drewN ?_ _ | refine blk_drew ?_ | refine blk_alloc ?_ _)); exact BK248.out⟩, ⟨by (with_reducible repeat (first | refine blk_drewN ?_ _ | refine blk_drew ?_ | refine blk_alloc ?_ _)); exact BK249.out⟩, ⟨by (with_reducible repeat (first | refine blk_drewN ?_ _ | refine blk_drew ?_ | refine blk_alloc ?_ _)); exact BK250.out⟩, ⟨by (with_reducible repeat (first | refine blk_drewN ?_ _ | refine blk_drew ?_ | refine blk_alloc ?_ _)); exact BK261.out⟩, ⟨by (with_reducible repeat (first | refine blk_drewN ?_ _ | refine blk_drew ?_ | refine blk_alloc ?_ _)); exact BK268.out⟩, ⟨by (with_reducible repeat (first | refine blk_drewN ?_ _ | refine blk_drew ?_ | refine blk_alloc ?_ _)); exact BK269.out⟩, ⟨by repeat (first | (with_reducible first | exact HI243.out | apply IsS53.alloc | apply IsS53.drewN | apply IsS53.drew | apply IsS53.set_1 | refine IsS53.far ?_ NB243_247.out _ | refine IsS53.far ?_ NB243_248.out _ | refine IsS53.far ?_ NB243_249.out _ | refine IsS53.far ?_ NB243_250.out _ | refine IsS53.far ?_ NB243_261.out _ | refine IsS53.far ?_ NB243_268.out _ | refine IsS53.far ?_ NB243_269.out _) | exact HI243.out)⟩, ⟨by repeat (first | (with_reducible first | exact HB.out | apply below_alloc | apply pw_below_drewN | apply below_drew1 | refine below_set ?_ (IsS53.ge HI243.out) | refine below_set ?_ GE247.out | refine below_set ?_ GE248.out | refine below_set ?_ GE249.out | refine below_set ?_ GE250.out | refine below_set ?_ GE261.out | refine below_set ?_ GE268.out | refine below_set ?_ GE269.out) | exact HB.out)⟩⟩
      ·
       rw [if_neg c57] at H
       have c57b0 : decide (0 ≤ t270) = false := decide_eq_false c57
       clear c57
       replace H := Option.bind_eq_some_iff.mp H
       obtain ⟨t271, A740, H⟩ := H
       replace H : (payrolllaw2_RoundingCarries.j1 k1 a1 x10_1 (decide (t271 ≥ 0)) t241 t257 t244 t245 x250000_1 x250001_1 x251000_1 x251001_1 t258 t259 t263 t264 t265 t266) = some r := H
       have A74 := Aside0.mk A740
       clear A740
       have H' := Aside0.mk H
       clear H
       have hnb75 := NB269_247.out
       have hnc75 := NB247_269.out
       have hnb76 := NB269_248.out
       have hnc76 := NB248_269.out
       have hnb77 := NB269_249.out
       have hnc77 := NB249_269.out
       have hnb78 := NB269_250.out
       have hnc78 := NB250_269.out
       have hnb79 := NB269_261.out
       have hnc79 := NB261_269.out
       have hnb80 := NB269_268.out
       have hnc80 := NB268_269.out
       have hnb81 := NB269_243.out
       have hnc81 := NB243_269.out
       have hcz82_0 : w50.cell? ⟨gb269, 0, none⟩ = some (.int .i64 0) := (blk_cell BK269.out 0).trans rfl
       have hcz82_1 : w50.cell? ⟨gb269, 1, none⟩ = some (.int .i64 0) := (blk_cell BK269.out 1).trans rfl
       have hfz82_0 := blk_frozen BK269.out 0
       have hfz82_1 := blk_frozen BK269.out 1
       have hnb83 := NB247_248.out
       have hnc83 := NB248_247.out
       have hnb84 := NB247_249.out
       have hnc84 := NB249_247.out
       have hnb85 := NB247_250.out
       have hnc85 := NB250_247.out
       have hnb86 := NB247_261.out
       have hnc86 := NB261_247.out
       have hnb87 := NB247_268.out
       have hnc87 := NB268_247.out
       have hnb88 := NB247_243.out
       have hnc88 := NB243_247.out
       have hcz89_0 : w50.cell? ⟨gb247, 0, none⟩ = some (.int .i64 t244) := (blk_cell BK247.out 0).trans rfl
       have hcz89_1 : w50.cell? ⟨gb247, 1, none⟩ = some (.int .i64 t245) := (blk_cell BK247.out 1).trans rfl
       have hfz89_0 := blk_frozen BK247.out 0
       have hfz89_1 := blk_frozen BK247.out 1
       go_wp2_with (first | (go_at_call 24; (with_reducible refine (ratio_Compare.calls k1 t265 t266 t244 t245 t270 _ A56.out).mono ?_); rintro e w90 ⟨rfl, hb⟩; replace HO255 := Aside0.mk (Kd.R_below (by (with_reducible repeat (first | apply Kd.R_alloc | apply Kd.R_drewN | apply Kd.R_drew)); exact (Kd.R_mono (Kd.R_mono (Kd.R_far (p := ⟨gb269, 1, none⟩) (Kd.R_far (p := ⟨gb269, 0, none⟩) (Kd.R_far (p := ⟨gb268, 1, none⟩) (Kd.R_far (p := ⟨gb268, 0, none⟩) (Kd.R_types (Kd.R_types HO255.out BK268.out (by decide)) BK269.out (by decide)) (fun _ hk => hk.1.2) (.int .i64 t263)) (fun _ hk => hk.1.2) (.int .i64 t264)) (fun _ hk => hk.2) (.int .i64 t265)) (fun _ hk => hk.2) (.int .i64 t266)) (fun _ h_ => h_.1)) (fun _ h_ => h_.1))) hb); replace BK247 := tb_ BK247 hb; replace BK248 := tb_ BK248 hb; replace BK249 := tb_ BK249 hb; replace BK250 := tb_ BK250 hb; replace BK261 := tb_ BK261 hb; replace BK268 := tb_ (o' := .cells #[.int .i64 t263, .int .i64 t264] 41 (0, 0)) BK268 hb; replace BK269 := tb_ (o' := .cells #[.int .i64 t265, .int .i64 t266] 41 (0, 0)) BK269 hb; replace HB := IsS53.ts_ HI243 HB hb; replace HI243 := IsS53.tb_ HI243 hb; (try clear hb); (try clear hb2); (try clear hk); (try clear hi); have hcz91_0 : w90.cell? ⟨gb247, 0, none⟩ = some (.int .i64 t244) := (blk_cell BK247.out 0).trans rfl; have hcz91_1 : w90.cell? ⟨gb247, 1, none⟩ = some (.int .i64 t245) := (blk_cell BK247.out 1).trans rfl; have hfz91_0 := blk_frozen BK247.out 0; have hfz91_1 := blk_frozen BK247.out 1; have hcz92_0 : w90.cell? ⟨gb269, 0, none⟩ = some (.int .i64 t265) := (blk_cell BK269.out 0).trans rfl; have hcz92_1 : w90.cell? ⟨gb269, 1, none⟩ = some (.int .i64 t266) := (blk_cell BK269.out 1).trans rfl; have hfz92_0 := blk_frozen BK269.out 0; have hfz92_1 := blk_frozen BK269.out 1) | (go_at_call 24; (with_reducible refine (ratio_Compare.calls k1 (wrap64 (-t244)) t245 t265 t266 t271 _ A74.out).mono ?_); rintro e w93 ⟨rfl, hb⟩; replace HO255 := rb_ HO255 hb; replace BK247 := tb_ BK247 hb; replace BK248 := tb_ BK248 hb; replace BK249 := tb_ BK249 hb; replace BK250 := tb_ BK250 hb; replace BK261 := tb_ BK261 hb; replace BK268 := tb_ BK268 hb; replace BK269 := tb_ BK269 hb; replace HB := IsS53.ts_ HI243 HB hb; replace HI243 := IsS53.tb_ HI243 hb; (try clear hb); (try clear hb2); (try clear hk); (try clear hi)))
       go_meet
       case rel => exact ⟨_, (decide (t271 ≥ 0)), (by first | rfl | (simp; done) | (simp [*]; done)), H', ⟨by have := HK1.out; first | omega | exact Nat.le_refl _⟩, ⟨by (with_reducible repeat (first | refine blk_drewN ?_ _ | refine blk_drew ?_ | refine blk_alloc ?_ _)); exact BK247.out⟩, ⟨by (with_reducible repeat (first | refine blk_drewN ?_ _ | refine blk_drew ?_ | refine blk_alloc ?_ _)); exact BK248.out⟩, ⟨by (with_reducible repeat (first | refine blk_drewN ?_ _ | refine blk_drew ?_ | refine blk_alloc ?_ _)); exact BK249.out⟩, ⟨by (with_reducible repeat (first | refine blk_drewN ?_ _ | refine blk_drew ?_ | refine blk_alloc ?_ _)); exact BK250.out⟩, ⟨by (with_reducible repeat (first | refine blk_drewN ?_ _ | refine blk_drew ?_ | refine blk_alloc ?_ _)); exact BK261.out⟩, ⟨by (with_reducible repeat (first | refine blk_drewN ?_ _ | refine blk_drew ?_ | refine blk_alloc ?_ _)); exact BK268.out⟩, ⟨by (with_reducible repeat (first | refine blk_drewN ?_ _ | refine blk_drew ?_ | refine blk_alloc ?_ _)); exact BK269.out⟩, ⟨by repeat (first | (with_reducible first | exact HI243.out | apply IsS53.alloc | apply IsS53.drewN | apply IsS53.drew | apply IsS53.set_1 | refine IsS53.far ?_ NB243_247.out _ | refine IsS53.far ?_ NB243_248.out _ | refine IsS53.far ?_ NB243_249.out _ | refine IsS53.far ?_ NB243_250.out _ | refine IsS53.far ?_ NB243_261.out _ | refine IsS53.far ?_ NB243_268.out _ | refine IsS53.far ?_ NB243_269.out _) | exact HI243.out)⟩, ⟨by repeat (first | (with_reducible first | exact HB.out | apply below_alloc | apply pw_below_drewN | apply below_drew1 | refine below_set ?_ (IsS53.ge HI243.out) | refine below_set ?_ GE247.out | refine below_set ?_ GE248.out | refine below_set ?_ GE249.out | refine below_set ?_ GE250.out | refine below_set ?_ GE261.out | refine below_set ?_ GE268.out | refine below_set ?_ GE269.out) | exact HB.out)⟩⟩
     ·
      rw [if_neg c55] at H
      have c55b0 : (t267 == 0) = false := beq_eq_false_iff_ne.mpr c55
      have c55b1 : (t267 != 0) = true := bne_iff_ne.mpr c55
      (first | rw [c55b0] | (simp only [i64_w, i32_w]; rw [c55b0]) | skip)
      have H' := Aside0.mk H
      clear H
      go_wp2
      go_meet
      case rel => exact ⟨_, (true), (by first | rfl | (simp; done) | (simp [*]; done)), H', ⟨by have := HK1.out; first | omega | exact Nat.le_refl _⟩, ⟨by (with_reducible repeat (first | refine blk_drewN ?_ _ | refine blk_drew ?_ | refine blk_alloc ?_ _)); refine blk_far ?_ NB247_269.out _; (with_reducible repeat (first | refine blk_drewN ?_ _ | refine blk_drew ?_ | refine blk_alloc ?_ _)); refine blk_far ?_ NB247_269.out _; (with_reducible repeat (first | refine blk_drewN ?_ _ | refine blk_drew ?_ | refine blk_alloc ?_ _)); refine blk_far ?_ NB247_268.out _; (with_reducible repeat (first | refine blk_drewN ?_ _ | refine blk_drew ?_ | refine blk_alloc ?_ _)); refine blk_far ?_ NB247_268.out _; (with_reducible repeat (first | refine blk_drewN ?_ _ | refine blk_drew ?_ | refine blk_alloc ?_ _)); exact BK247.out⟩, ⟨by (with_reducible repeat (first | refine blk_drewN ?_ _ | refine blk_drew ?_ | refine blk_alloc ?_ _)); refine blk_far ?_ NB248_269.out _; (with_reducible repeat (first | refine blk_drewN ?_ _ | refine blk_drew ?_ | refine blk_alloc ?_ _)); refine blk_far ?_ NB248_269.out _; (with_reducible repeat (first | refine blk_drewN ?_ _ | refine blk_drew ?_ | refine blk_alloc ?_ _)); refine blk_far ?_ NB248_268.out _; (with_reducible repeat (first | refine blk_drewN ?_ _ | refine blk_drew ?_ | refine blk_alloc ?_ _)); refine blk_far ?_ NB248_268.out _; (with_reducible repeat (first | refine blk_drewN ?_ _ | refine blk_drew ?_ | refine blk_alloc ?_ _)); exact BK248.out⟩, ⟨by (with_reducible repeat (first | refine blk_drewN ?_ _ | refine blk_drew ?_ | refine blk_alloc ?_ _)); refine blk_far ?_ NB249_269.out _; (with_reducible repeat (first | refine blk_drewN ?_ _ | refine blk_drew ?_ | refine blk_alloc ?_ _)); refine blk_far ?_ NB249_269.out _; (with_reducible repeat (first | refine blk_drewN ?_ _ | refine blk_drew ?_ | refine blk_alloc ?_ _)); refine blk_far ?_ NB249_268.out _; (with_reducible repeat (first | refine blk_drewN ?_ _ | refine blk_drew ?_ | refine blk_alloc ?_ _)); refine blk_far ?_ NB249_268.out _; (with_reducible repeat (first | refine blk_drewN ?_ _ | refine blk_drew ?_ | refine blk_alloc ?_ _)); exact BK249.out⟩, ⟨by (with_reducible repeat (first | refine blk_drewN ?_ _ | refine blk_drew ?_ | refine blk_alloc ?_ _)); refine blk_far ?_ NB250_269.out _; (with_reducible repeat (first | refine blk_drewN ?_ _ | refine blk_drew ?_ | refine blk_alloc ?_ _)); refine blk_far ?_ NB250_269.out _; (with_reducible repeat (first | refine blk_drewN ?_ _ | refine blk_drew ?_ | refine blk_alloc ?_ _)); refine blk_far ?_ NB250_268.out _; (with_reducible repeat (first | refine blk_drewN ?_ _ | refine blk_drew ?_ | refine blk_alloc ?_ _)); refine blk_far ?_ NB250_268.out _; (with_reducible repeat (first | refine blk_drewN ?_ _ | refine blk_drew ?_ | refine blk_alloc ?_ _)); exact BK250.out⟩, ⟨by (with_reducible repeat (first | refine blk_drewN ?_ _ | refine blk_drew ?_ | refine blk_alloc ?_ _)); refine blk_far ?_ NB261_269.out _; (with_reducible repeat (first | refine blk_drewN ?_ _ | refine blk_drew ?_ | refine blk_alloc ?_ _)); refine blk_far ?_ NB261_269.out _; (with_reducible repeat (first | refine blk_drewN ?_ _ | refine blk_drew ?_ | refine blk_alloc ?_ _)); refine blk_far ?_ NB261_268.out _; (with_reducible repeat (first | refine blk_drewN ?_ _ | refine blk_drew ?_ | refine blk_alloc ?_ _)); refine blk_far ?_ NB261_268.out _; (with_reducible repeat (first | refine blk_drewN ?_ _ | refine blk_drew ?_ | refine blk_alloc ?_ _)); exact BK261.out⟩, ⟨by (with_reducible repeat (first | refine blk_drewN ?_ _ | refine blk_drew ?_ | refine blk_alloc ?_ _)); refine blk_far ?_ NB268_269.out _; (with_reducible repeat (first | refine blk_drewN ?_ _ | refine blk_drew ?_ | refine blk_alloc ?_ _)); refine blk_far ?_ NB268_269.out _; (with_reducible repeat (first | refine blk_drewN ?_ _ | refine blk_drew ?_ | refine blk_alloc ?_ _)); refine blk_put (cs := #[.int .i64 t263, .int .i64 0]) ?_ 1 _ rfl; (with_reducible repeat (first | refine blk_drewN ?_ _ | refine blk_drew ?_ | refine blk_alloc ?_ _)); refine blk_put (cs := #[.int .i64 0, .int .i64 0]) ?_ 0 _ rfl; (with_reducible repeat (first | refine blk_drewN ?_ _ | refine blk_drew ?_ | refine blk_alloc ?_ _)); exact BK268.out⟩, ⟨by (with_reducible repeat (first | refine blk_drewN ?_ _ | refine blk_drew ?_ | refine blk_alloc ?_ _)); refine blk_put (cs := #[.int .i64 t265, .int .i64 0]) ?_ 1 _ rfl; (with_reducible repeat (first | refine blk_drewN ?_ _ | refine blk_drew ?_ | refine blk_alloc ?_ _)); refine blk_put (cs := #[.int .i64 0, .int .i64 0]) ?_ 0 _ rfl; (with_reducible repeat (first | refine blk_drewN ?_ _ | refine blk_drew ?_ | refine blk_alloc ?_ _)); refine blk_far ?_ NB269_268.out _; (with_reducible repeat (first | refine blk_drewN ?_ _ | refine blk_drew ?_ | refine blk_alloc ?_ _)); refine blk_far ?_ NB269_268.out _; (with_reducible repeat (first | refine blk_drewN ?_ _ | refine blk_drew ?_ | refine blk_alloc ?_ _)); exact BK269.out⟩, ⟨by repeat (first | (with_reducible first | exact HI243.out | apply IsS53.alloc | apply IsS53.drewN | apply IsS53.drew | apply IsS53.set_1 | refine IsS53.far ?_ NB243_247.out _ | refine IsS53.far ?_ NB243_248.out _ | refine IsS53.far ?_ NB243_249.out _ | refine IsS53.far ?_ NB243_250.out _ | refine IsS53.far ?_ NB243_261.out _ | refine IsS53.far ?_ NB243_268.out _ | refine IsS53.far ?_ NB243_269.out _) | exact HI243.out)⟩, ⟨by repeat (first | (with_reducible first | exact HB.out | apply below_alloc | apply pw_below_drewN | apply below_drew1 | refine below_set ?_ (IsS53.ge HI243.out) | refine below_set ?_ GE247.out | refine below_set ?_ GE248.out | refine below_set ?_ GE249.out | refine below_set ?_ GE250.out | refine below_set ?_ GE261.out | refine below_set ?_ GE268.out | refine below_set ?_ GE269.out) | exact HB.out)⟩⟩
    case rest =>
     clear HC31
     try clear p2
     try clear c5
     try clear c6
     try clear p6
     try clear c7
     try clear c8
     try clear c55
     try clear c55b0
     try clear c55b1
     try clear c57
     try clear c57b0
     try clear c58
     try clear c59
     try clear c60
     try clear c61
     try clear c62
     try clear c63
     try clear c64
     try clear p64
     try clear c66
     try clear c67
     try clear c68
     try clear c69
     try clear c70
     try clear c71
     try clear c75
     try clear c76
     try clear c77
     try clear c78
     try clear c79
     try clear c80
     try clear c81
     try clear c83
     try clear c84
     try clear c85
     try clear c86
     try clear c87
     try clear c88
     try clear hcz65_0
     try clear hcz65_1
     try clear hcz72_0
     try clear hcz72_1
     try clear hcz82_0
     try clear hcz82_1
     try clear hcz89_0
     try clear hcz89_1
     try clear hcz91_0
     try clear hcz91_1
     try clear hcz92_0
     try clear hcz92_1
     try clear hfz65_0
     try clear hfz65_1
     try clear hfz72_0
     try clear hfz72_1
     try clear hfz82_0
     try clear hfz82_1
     try clear hfz89_0
     try clear hfz89_1
     try clear hfz91_0
     try clear hfz91_1
     try clear hfz92_0
     try clear hfz92_1
     obtain ⟨kq, x67_30, rfl, HA, HJ30, BK247, BK248, BK249, BK250, BK261, BK268, BK269, HI243, HB⟩ := hcut
     cases kq with
     | zero => exact absurd HA.out (by simp [payrolllaw2_RoundingCarries.j1])
     | succ kj30 =>
      have H := HA.out
      clear HA
      simp only [payrolllaw2_RoundingCarries.j1] at H
      by_cases c94 : x67_30 = true
      ·
       subst c94
       have H1 : (some false) = some r := by rw [if_pos rfl] at H; exact H
       clear H
       have H := H1
       clear H1
       obtain rfl := Option.some.inj H
       go_wp2
       go_ret
       exact ⟨by first | rfl | (simp [errW_none, errW_some] <;> rfl) | (simp [*, errW_none, errW_some] <;> rfl), IsS53.bs_ HI243 HB⟩
      ·
       replace c94 := Bool.eq_false_iff.mpr c94
       subst c94
       have H1 : ((payrollref1_Add.f kj30 x250000_1 x250001_1 t263 t264).bind fun bt272 => ((payrollref1_Add.f kj30 x251000_1 x251001_1 t258 t259).bind fun bt275 => (payrolllaw2_RoundingCarries.l0 kj30 a1 (wrap64 (x10_1 + 1)) t241 t257 t244 t245 t265 t266 bt272.1 bt272.2.1 bt275.1 bt275.2.1))) = some r := by rw [if_neg (show ¬ (false = true) by decide)] at H; exact H
       clear H
       have H := H1
       clear H1
       replace H := Option.bind_eq_some_iff.mp H
       obtain ⟨⟨t272, t273, t274⟩, A950, H⟩ := H
       replace H : ((payrollref1_Add.f kj30 x251000_1 x251001_1 t258 t259).bind fun bt275 => (payrolllaw2_RoundingCarries.l0 kj30 a1 (wrap64 (x10_1 + 1)) t241 t257 t244 t245 t265 t266 t272 t273 bt275.1 bt275.2.1)) = some r := H
       have A95 := Aside0.mk A950
       clear A950
       replace H := Option.bind_eq_some_iff.mp H
       obtain ⟨⟨t275, t276, t277⟩, A960, H⟩ := H
       replace H : (payrolllaw2_RoundingCarries.l0 kj30 a1 (wrap64 (x10_1 + 1)) t241 t257 t244 t245 t265 t266 t272 t273 t275 t276) = some r := H
       have A96 := Aside0.mk A960
       clear A960
       have H' := Aside0.mk H
       clear H
       have hnb97 := NB269_247.out
       have hnc97 := NB247_269.out
       have hnb98 := NB269_248.out
       have hnc98 := NB248_269.out
       have hnb99 := NB269_249.out
       have hnc99 := NB249_269.out
       have hnb100 := NB269_250.out
       have hnc100 := NB250_269.out
       have hnb101 := NB269_261.out
       have hnc101 := NB261_269.out
       have hnb102 := NB269_268.out
       have hnc102 := NB268_269.out
       have hnb103 := NB269_243.out
       have hnc103 := NB243_269.out
       have hcz104_0 : wc.cell? ⟨gb269, 0, none⟩ = some (.int .i64 t265) := (blk_cell BK269.out 0).trans rfl
       have hcz104_1 : wc.cell? ⟨gb269, 1, none⟩ = some (.int .i64 t266) := (blk_cell BK269.out 1).trans rfl
       have hfz104_0 := blk_frozen BK269.out 0
       have hfz104_1 := blk_frozen BK269.out 1
       have hnb105 := NB248_247.out
       have hnc105 := NB247_248.out
       have hnb106 := NB248_249.out
       have hnc106 := NB249_248.out
       have hnb107 := NB248_250.out
       have hnc107 := NB250_248.out
       have hnb108 := NB248_261.out
       have hnc108 := NB261_248.out
       have hnb109 := NB248_268.out
       have hnc109 := NB268_248.out
       have hnb110 := NB248_243.out
       have hnc110 := NB243_248.out
       have hcz111_0 : wc.cell? ⟨gb248, 0, none⟩ = some (.int .i64 x249000_1) := (blk_cell BK248.out 0).trans rfl
       have hcz111_1 : wc.cell? ⟨gb248, 1, none⟩ = some (.int .i64 x249001_1) := (blk_cell BK248.out 1).trans rfl
       have hfz111_0 := blk_frozen BK248.out 0
       have hfz111_1 := blk_frozen BK248.out 1
       have hnb112 := NB249_247.out
       have hnc112 := NB247_249.out
       have hnb113 := NB249_250.out
       have hnc113 := NB250_249.out
       have hnb114 := NB249_261.out
       have hnc114 := NB261_249.out
       have hnb115 := NB249_268.out
       have hnc115 := NB268_249.out
       have hnb116 := NB249_243.out
       have hnc116 := NB243_249.out
       have hcz117_0 : wc.cell? ⟨gb249, 0, none⟩ = some (.int .i64 x250000_1) := (blk_cell BK249.out 0).trans rfl
       have hcz117_1 : wc.cell? ⟨gb249, 1, none⟩ = some (.int .i64 x250001_1) := (blk_cell BK249.out 1).trans rfl
       have hfz117_0 := blk_frozen BK249.out 0
       have hfz117_1 := blk_frozen BK249.out 1
       have hnb118 := NB268_247.out
       have hnc118 := NB247_268.out
       have hnb119 := NB268_250.out
       have hnc119 := NB250_268.out
       have hnb120 := NB268_261.out
       have hnc120 := NB261_268.out
       have hnb121 := NB268_243.out
       have hnc121 := NB243_268.out
       have hcz122_0 : wc.cell? ⟨gb268, 0, none⟩ = some (.int .i64 t263) := (blk_cell BK268.out 0).trans rfl
       have hcz122_1 : wc.cell? ⟨gb268, 1, none⟩ = some (.int .i64 t264) := (blk_cell BK268.out 1).trans rfl
       have hfz122_0 := blk_frozen BK268.out 0
       have hfz122_1 := blk_frozen BK268.out 1
       go_wp2_with (first | ((with_reducible refine gate_callee (f := 33) rfl ?_); refine gq_ (some 72) rfl rfl Try.func33 #[.agg #[.int .i64 x250000_1, .int .i64 x250001_1], .agg #[.int .i64 t263, .int .i64 t264]] rfl ?_; (with_reducible refine (payrollref1_Add.calls kj30 x250000_1 x250001_1 t263 t264 t272 t273 t274 _ A95.out).mono ?_); rintro e w123 ⟨rfl, hb⟩; refine ⟨_, rfl, ?_⟩; replace BK247 := tb_ BK247 hb; replace BK248 := tb_ (o' := .cells #[.int .i64 t265, .int .i64 t266] 41 (0, 0)) BK248 hb; replace BK249 := tb_ BK249 hb; replace BK250 := tb_ BK250 hb; replace BK261 := tb_ BK261 hb; replace BK268 := tb_ BK268 hb; replace BK269 := tb_ BK269 hb; replace HB := IsS53.ts_ HI243 HB hb; replace HI243 := IsS53.tb_ HI243 hb; (try clear hb); (try clear hb2); (try clear hk); (try clear hi); have hcz124_0 : w123.cell? ⟨gb249, 0, none⟩ = some (.int .i64 x250000_1) := (blk_cell BK249.out 0).trans rfl; have hcz124_1 : w123.cell? ⟨gb249, 1, none⟩ = some (.int .i64 x250001_1) := (blk_cell BK249.out 1).trans rfl; have hfz124_0 := blk_frozen BK249.out 0; have hfz124_1 := blk_frozen BK249.out 1; have hnb125 := NB250_247.out; have hnc125 := NB247_250.out; have hnb126 := NB250_261.out; have hnc126 := NB261_250.out; have hnb127 := NB250_243.out; have hnc127 := NB243_250.out; have hcz128_0 : w123.cell? ⟨gb250, 0, none⟩ = some (.int .i64 x251000_1) := (blk_cell BK250.out 0).trans rfl; have hcz128_1 : w123.cell? ⟨gb250, 1, none⟩ = some (.int .i64 x251001_1) := (blk_cell BK250.out 1).trans rfl; have hfz128_0 := blk_frozen BK250.out 0; have hfz128_1 := blk_frozen BK250.out 1; have hnb129 := NB261_247.out; have hnc129 := NB247_261.out; have hnb130 := NB261_243.out; have hnc130 := NB243_261.out; have hcz131_0 : w123.cell? ⟨gb261, 0, none⟩ = some (.int .i64 t258) := (blk_cell BK261.out 0).trans rfl; have hcz131_1 : w123.cell? ⟨gb261, 1, none⟩ = some (.int .i64 t259) := (blk_cell BK261.out 1).trans rfl; have hfz131_0 := blk_frozen BK261.out 0; have hfz131_1 := blk_frozen BK261.out 1) | ((with_reducible refine gate_callee (f := 33) rfl ?_); refine gq_ (some 78) rfl rfl Try.func33 #[.agg #[.int .i64 x251000_1, .int .i64 x251001_1], .agg #[.int .i64 t258, .int .i64 t259]] rfl ?_; (with_reducible refine (payrollref1_Add.calls kj30 x251000_1 x251001_1 t258 t259 t275 t276 t277 _ A96.out).mono ?_); rintro e w132 ⟨rfl, hb⟩; refine ⟨_, rfl, ?_⟩; replace BK247 := tb_ BK247 hb; replace BK248 := tb_ BK248 hb; replace BK249 := tb_ (o' := .cells #[.int .i64 t272, .int .i64 t273] 41 (0, 0)) BK249 hb; replace BK250 := tb_ BK250 hb; replace BK261 := tb_ BK261 hb; replace BK268 := tb_ BK268 hb; replace BK269 := tb_ BK269 hb; replace HB := IsS53.ts_ HI243 HB hb; replace HI243 := IsS53.tb_ HI243 hb; (try clear hb); (try clear hb2); (try clear hk); (try clear hi); have hcz133_0 : w132.cell? ⟨gb250, 0, none⟩ = some (.int .i64 x251000_1) := (blk_cell BK250.out 0).trans rfl; have hcz133_1 : w132.cell? ⟨gb250, 1, none⟩ = some (.int .i64 x251001_1) := (blk_cell BK250.out 1).trans rfl; have hfz133_0 := blk_frozen BK250.out 0; have hfz133_1 := blk_frozen BK250.out 1))
       go_roundg kj30
       case measure => have := HK1.out; have := HJ30.out; omega
       case rel => exact ⟨(wrap64 (x10_1 + 1)), (t257), (t265), (t266), (t272), (t273), (t275), (t276), (by first | rfl | (simp; done) | (simp [*]; done)), H', ⟨by have := HK1.out; have := HJ30.out; omega⟩, ⟨by (with_reducible repeat (first | refine blk_drewN ?_ _ | refine blk_drew ?_ | refine blk_alloc ?_ _)); refine blk_far ?_ NB247_250.out _; (with_reducible repeat (first | refine blk_drewN ?_ _ | refine blk_drew ?_ | refine blk_alloc ?_ _)); refine blk_far ?_ NB247_250.out _; (with_reducible repeat (first | refine blk_drewN ?_ _ | refine blk_drew ?_ | refine blk_alloc ?_ _)); exact BK247.out⟩, ⟨by (with_reducible repeat (first | refine blk_drewN ?_ _ | refine blk_drew ?_ | refine blk_alloc ?_ _)); refine blk_far ?_ NB248_250.out _; (with_reducible repeat (first | refine blk_drewN ?_ _ | refine blk_drew ?_ | refine blk_alloc ?_ _)); refine blk_far ?_ NB248_250.out _; (with_reducible repeat (first | refine blk_drewN ?_ _ | refine blk_drew ?_ | refine blk_alloc ?_ _)); exact BK248.out⟩, ⟨by (with_reducible repeat (first | refine blk_drewN ?_ _ | refine blk_drew ?_ | refine blk_alloc ?_ _)); refine blk_far ?_ NB249_250.out _; (with_reducible repeat (first | refine blk_drewN ?_ _ | refine blk_drew ?_ | refine blk_alloc ?_ _)); refine blk_far ?_ NB249_250.out _; (with_reducible repeat (first | refine blk_drewN ?_ _ | refine blk_drew ?_ | refine blk_alloc ?_ _)); exact BK249.out⟩, ⟨by (with_reducible repeat (first | refine blk_drewN ?_ _ | refine blk_drew ?_ | refine blk_alloc ?_ _)); refine blk_put (cs := #[.int .i64 t275, .int .i64 x251001_1]) ?_ 1 _ rfl; (with_reducible repeat (first | refine blk_drewN ?_ _ | refine blk_drew ?_ | refine blk_alloc ?_ _)); refine blk_put (cs := #[.int .i64 x251000_1, .int .i64 x251001_1]) ?_ 0 _ rfl; (with_reducible repeat (first | refine blk_drewN ?_ _ | refine blk_drew ?_ | refine blk_alloc ?_ _)); exact BK250.out⟩, ⟨by repeat (first | (with_reducible first | exact HI243.out | apply IsS53.alloc | apply IsS53.drewN | apply IsS53.drew | apply IsS53.set_1 | refine IsS53.far ?_ NB243_247.out _ | refine IsS53.far ?_ NB243_248.out _ | refine IsS53.far ?_ NB243_249.out _ | refine IsS53.far ?_ NB243_250.out _ | refine IsS53.far ?_ NB243_261.out _ | refine IsS53.far ?_ NB243_268.out _ | refine IsS53.far ?_ NB243_269.out _) | exact HI243.out)⟩, ⟨by repeat (first | (with_reducible first | exact HB.out | apply below_alloc | apply pw_below_drewN | apply below_drew1 | refine below_set ?_ (IsS53.ge HI243.out) | refine below_set ?_ GE247.out | refine below_set ?_ GE248.out | refine below_set ?_ GE249.out | refine below_set ?_ GE250.out | refine below_set ?_ GE261.out | refine below_set ?_ GE268.out | refine below_set ?_ GE269.out) | exact HB.out)⟩⟩
   ·
    rw [if_neg c25] at H
    have c25b0 : decide (x10_1 < 6) = false := decide_eq_false c25
    clear c25
    replace H := Option.bind_eq_some_iff.mp H
    obtain ⟨⟨t278, t279, t280⟩, A1340, H⟩ := H
    replace H : (if t280 = 0 then (if (t278 == x251000_1 && (t279 == x251001_1)) = true then ((payrolllaw2_sane.f k1).bind fun t282 => (some t282)) else (some false)) else (some false)) = some r := H
    have A134 := Aside0.mk A1340
    clear A1340
    by_cases c135 : t280 = 0
    ·
     rw [if_pos c135] at H
     have c135b0 : (t280 == 0) = true := beq_iff_eq.mpr c135
     have c135b1 : (t280 != 0) = false := bne_eq_false_iff_eq.mpr c135
     clear c135
     by_cases c136 : (t278 == x251000_1 && (t279 == x251001_1)) = true
     ·
      rw [if_pos c136] at H
      have c136b0 : (t278 == x251000_1 && (t279 == x251001_1)) = true := c136
      (try (have c136b1 : decide (t278 = x251000_1 && (t279 == x251001_1)) = true := by simpa using c136))
      (try (have c136b2 : (t278 == x251000_1 && (t279 == x251001_1)) = true := by simpa using c136))
      clear c136
      replace H := Option.bind_eq_some_iff.mp H
      obtain ⟨t282, A1370, H⟩ := H
      replace H : (some t282) = some r := H
      have A137 := Aside0.mk A1370
      clear A1370
      obtain rfl := Option.some.inj H
      have hnb138 := NB249_247.out
      have hnc138 := NB247_249.out
      have hnb139 := NB249_248.out
      have hnc139 := NB248_249.out
      have hnb140 := NB249_250.out
      have hnc140 := NB250_249.out
      have hnb141 := NB249_243.out
      have hnc141 := NB243_249.out
      have hcz142_0 : wr.cell? ⟨gb249, 0, none⟩ = some (.int .i64 x250000_1) := (blk_cell BK249.out 0).trans rfl
      have hcz142_1 : wr.cell? ⟨gb249, 1, none⟩ = some (.int .i64 x250001_1) := (blk_cell BK249.out 1).trans rfl
      have hfz142_0 := blk_frozen BK249.out 0
      have hfz142_1 := blk_frozen BK249.out 1
      have hnb143 := NB248_247.out
      have hnc143 := NB247_248.out
      have hnb144 := NB248_250.out
      have hnc144 := NB250_248.out
      have hnb145 := NB248_243.out
      have hnc145 := NB243_248.out
      have hcz146_0 : wr.cell? ⟨gb248, 0, none⟩ = some (.int .i64 x249000_1) := (blk_cell BK248.out 0).trans rfl
      have hcz146_1 : wr.cell? ⟨gb248, 1, none⟩ = some (.int .i64 x249001_1) := (blk_cell BK248.out 1).trans rfl
      have hfz146_0 := blk_frozen BK248.out 0
      have hfz146_1 := blk_frozen BK248.out 1
      go_wp2_with (first | ((with_reducible refine gate_callee (f := 33) rfl ?_); refine gq_ (some 84) rfl rfl Try.func33 #[.agg #[.int .i64 x250000_1, .int .i64 x250001_1], .agg #[.int .i64 x249000_1, .int .i64 x249001_1]] rfl ?_; (with_reducible refine (payrollref1_Add.calls k1 x250000_1 x250001_1 x249000_1 x249001_1 t278 t279 t280 _ A134.out).mono ?_); rintro e w147 ⟨rfl, hb⟩; refine ⟨_, rfl, ?_⟩; replace BK247 := tb_ BK247 hb; replace BK248 := tb_ BK248 hb; replace BK249 := tb_ BK249 hb; replace BK250 := tb_ BK250 hb; replace HB := IsS53.ts_ HI243 HB hb; replace HI243 := IsS53.tb_ HI243 hb; (try clear hb); (try clear hb2); (try clear hk); (try clear hi)) | ((with_reducible refine gate_dst (N := 16) rfl ?_); refine bx_ (N := 16) (cs := #[.int .i64 0, .int .i64 0]) (t := 41) ?_; intro gb281 hg w148 hbox hb; have BK281 := Aside0.mk (hbox); have GW281 := IsS53.sz_ HI243 HB hg; have GE281 := IsS53.sz_ HI243 HB hg; have NB247_281 := nl_ BK247 hg; have NB281_247 := nr_ BK247 hg; have NB248_281 := nl_ BK248 hg; have NB281_248 := nr_ BK248 hg; have NB249_281 := nl_ BK249 hg; have NB281_249 := nr_ BK249 hg; have NB250_281 := nl_ BK250 hg; have NB281_250 := nr_ BK250 hg; have NB243_281 := IsS53.nl_ HI243 hg; have NB281_243 := IsS53.nr_ HI243 hg; replace BK247 := tb_ BK247 hb; replace BK248 := tb_ BK248 hb; replace BK249 := tb_ BK249 hb; replace BK250 := tb_ BK250 hb; replace HB := IsS53.ts_ HI243 HB hb; replace HI243 := IsS53.tb_ HI243 hb; clear hb hbox hg; have hnb149 := NB281_247.out; have hnc149 := NB247_281.out; have hnb150 := NB281_248.out; have hnc150 := NB248_281.out; have hnb151 := NB281_249.out; have hnc151 := NB249_281.out; have hnb152 := NB281_250.out; have hnc152 := NB250_281.out; have hnb153 := NB281_243.out; have hnc153 := NB243_281.out; have hcz154_0 : w148.cell? ⟨gb281, 0, none⟩ = some (.int .i64 0) := (blk_cell BK281.out 0).trans rfl; have hcz154_1 : w148.cell? ⟨gb281, 1, none⟩ = some (.int .i64 0) := (blk_cell BK281.out 1).trans rfl; have hfz154_0 := blk_frozen BK281.out 0; have hfz154_1 := blk_frozen BK281.out 1; have hnb155 := NB250_247.out; have hnc155 := NB247_250.out; have hnb156 := NB250_243.out; have hnc156 := NB243_250.out; have hcz157_0 : w148.cell? ⟨gb250, 0, none⟩ = some (.int .i64 x251000_1) := (blk_cell BK250.out 0).trans rfl; have hcz157_1 : w148.cell? ⟨gb250, 1, none⟩ = some (.int .i64 x251001_1) := (blk_cell BK250.out 1).trans rfl; have hfz157_0 := blk_frozen BK250.out 0; have hfz157_1 := blk_frozen BK250.out 1) | (go_at_call 17; (with_reducible refine (payrolllaw2_sane.calls k1  t282 _ A137.out).mono ?_); rintro e w158 ⟨rfl, hb⟩; replace BK247 := tb_ BK247 hb; replace BK248 := tb_ BK248 hb; replace BK249 := tb_ BK249 hb; replace BK250 := tb_ BK250 hb; replace BK281 := tb_ (o' := .cells #[.int .i64 t278, .int .i64 t279] 41 (0, 0)) BK281 hb; replace HB := IsS53.ts_ HI243 HB hb; replace HI243 := IsS53.tb_ HI243 hb; (try clear hb); (try clear hb2); (try clear hk); (try clear hi)))
      go_ret
      exact ⟨by first | rfl | (simp [errW_none, errW_some] <;> rfl) | (simp [*, errW_none, errW_some] <;> rfl), IsS53.bs_ HI243 HB⟩
     ·
      rw [if_neg c136] at H
      have c136b0 : (t278 == x251000_1 && (t279 == x251001_1)) = false := by simpa using c136
      (try (have c136b1 : decide (t278 = x251000_1 && (t279 == x251001_1)) = false := by simpa using c136))
      (try (have c136b2 : (t278 == x251000_1 && (t279 == x251001_1)) = false := by simpa using c136))
      (try (have c136b3 : ¬ (t278 = x251000_1 && (t279 == x251001_1)) := by simpa using c136))
      clear c136
      obtain rfl := Option.some.inj H
      have hnb159 := NB249_247.out
      have hnc159 := NB247_249.out
      have hnb160 := NB249_248.out
      have hnc160 := NB248_249.out
      have hnb161 := NB249_250.out
      have hnc161 := NB250_249.out
      have hnb162 := NB249_243.out
      have hnc162 := NB243_249.out
      have hcz163_0 : wr.cell? ⟨gb249, 0, none⟩ = some (.int .i64 x250000_1) := (blk_cell BK249.out 0).trans rfl
      have hcz163_1 : wr.cell? ⟨gb249, 1, none⟩ = some (.int .i64 x250001_1) := (blk_cell BK249.out 1).trans rfl
      have hfz163_0 := blk_frozen BK249.out 0
      have hfz163_1 := blk_frozen BK249.out 1
      have hnb164 := NB248_247.out
      have hnc164 := NB247_248.out
      have hnb165 := NB248_250.out
      have hnc165 := NB250_248.out
      have hnb166 := NB248_243.out
      have hnc166 := NB243_248.out
      have hcz167_0 : wr.cell? ⟨gb248, 0, none⟩ = some (.int .i64 x249000_1) := (blk_cell BK248.out 0).trans rfl
      have hcz167_1 : wr.cell? ⟨gb248, 1, none⟩ = some (.int .i64 x249001_1) := (blk_cell BK248.out 1).trans rfl
      have hfz167_0 := blk_frozen BK248.out 0
      have hfz167_1 := blk_frozen BK248.out 1
      go_wp2_with (first | ((with_reducible refine gate_callee (f := 33) rfl ?_); refine gq_ (some 84) rfl rfl Try.func33 #[.agg #[.int .i64 x250000_1, .int .i64 x250001_1], .agg #[.int .i64 x249000_1, .int .i64 x249001_1]] rfl ?_; (with_reducible refine (payrollref1_Add.calls k1 x250000_1 x250001_1 x249000_1 x249001_1 t278 t279 t280 _ A134.out).mono ?_); rintro e w168 ⟨rfl, hb⟩; refine ⟨_, rfl, ?_⟩; replace BK247 := tb_ BK247 hb; replace BK248 := tb_ BK248 hb; replace BK249 := tb_ BK249 hb; replace BK250 := tb_ BK250 hb; replace HB := IsS53.ts_ HI243 HB hb; replace HI243 := IsS53.tb_ HI243 hb; (try clear hb); (try clear hb2); (try clear hk); (try clear hi)) | ((with_reducible refine gate_dst (N := 16) rfl ?_); refine bx_ (N := 16) (cs := #[.int .i64 0, .int .i64 0]) (t := 41) ?_; intro gb281 hg w169 hbox hb; have BK281 := Aside0.mk (hbox); have GW281 := IsS53.sz_ HI243 HB hg; have GE281 := IsS53.sz_ HI243 HB hg; have NB247_281 := nl_ BK247 hg; have NB281_247 := nr_ BK247 hg; have NB248_281 := nl_ BK248 hg; have NB281_248 := nr_ BK248 hg; have NB249_281 := nl_ BK249 hg; have NB281_249 := nr_ BK249 hg; have NB250_281 := nl_ BK250 hg; have NB281_250 := nr_ BK250 hg; have NB243_281 := IsS53.nl_ HI243 hg; have NB281_243 := IsS53.nr_ HI243 hg; replace BK247 := tb_ BK247 hb; replace BK248 := tb_ BK248 hb; replace BK249 := tb_ BK249 hb; replace BK250 := tb_ BK250 hb; replace HB := IsS53.ts_ HI243 HB hb; replace HI243 := IsS53.tb_ HI243 hb; clear hb hbox hg; have hnb170 := NB281_247.out; have hnc170 := NB247_281.out; have hnb171 := NB281_248.out; have hnc171 := NB248_281.out; have hnb172 := NB281_249.out; have hnc172 := NB249_281.out; have hnb173 := NB281_250.out; have hnc173 := NB250_281.out; have hnb174 := NB281_243.out; have hnc174 := NB243_281.out; have hcz175_0 : w169.cell? ⟨gb281, 0, none⟩ = some (.int .i64 0) := (blk_cell BK281.out 0).trans rfl; have hcz175_1 : w169.cell? ⟨gb281, 1, none⟩ = some (.int .i64 0) := (blk_cell BK281.out 1).trans rfl; have hfz175_0 := blk_frozen BK281.out 0; have hfz175_1 := blk_frozen BK281.out 1; have hnb176 := NB250_247.out; have hnc176 := NB247_250.out; have hnb177 := NB250_243.out; have hnc177 := NB243_250.out; have hcz178_0 : w169.cell? ⟨gb250, 0, none⟩ = some (.int .i64 x251000_1) := (blk_cell BK250.out 0).trans rfl; have hcz178_1 : w169.cell? ⟨gb250, 1, none⟩ = some (.int .i64 x251001_1) := (blk_cell BK250.out 1).trans rfl; have hfz178_0 := blk_frozen BK250.out 0; have hfz178_1 := blk_frozen BK250.out 1))
      go_ret
      exact ⟨by first | rfl | (simp [errW_none, errW_some] <;> rfl) | (simp [*, errW_none, errW_some] <;> rfl), IsS53.bs_ HI243 HB⟩
    ·
     rw [if_neg c135] at H
     have c135b0 : (t280 == 0) = false := beq_eq_false_iff_ne.mpr c135
     have c135b1 : (t280 != 0) = true := bne_iff_ne.mpr c135
     obtain rfl := Option.some.inj H
     have hnb179 := NB249_247.out
     have hnc179 := NB247_249.out
     have hnb180 := NB249_248.out
     have hnc180 := NB248_249.out
     have hnb181 := NB249_250.out
     have hnc181 := NB250_249.out
     have hnb182 := NB249_243.out
     have hnc182 := NB243_249.out
     have hcz183_0 : wr.cell? ⟨gb249, 0, none⟩ = some (.int .i64 x250000_1) := (blk_cell BK249.out 0).trans rfl
     have hcz183_1 : wr.cell? ⟨gb249, 1, none⟩ = some (.int .i64 x250001_1) := (blk_cell BK249.out 1).trans rfl
     have hfz183_0 := blk_frozen BK249.out 0
     have hfz183_1 := blk_frozen BK249.out 1
     have hnb184 := NB248_247.out
     have hnc184 := NB247_248.out
     have hnb185 := NB248_250.out
     have hnc185 := NB250_248.out
     have hnb186 := NB248_243.out
     have hnc186 := NB243_248.out
     have hcz187_0 : wr.cell? ⟨gb248, 0, none⟩ = some (.int .i64 x249000_1) := (blk_cell BK248.out 0).trans rfl
     have hcz187_1 : wr.cell? ⟨gb248, 1, none⟩ = some (.int .i64 x249001_1) := (blk_cell BK248.out 1).trans rfl
     have hfz187_0 := blk_frozen BK248.out 0
     have hfz187_1 := blk_frozen BK248.out 1
     go_wp2_with (first | ((with_reducible refine gate_callee (f := 33) rfl ?_); refine gq_ (some 84) rfl rfl Try.func33 #[.agg #[.int .i64 x250000_1, .int .i64 x250001_1], .agg #[.int .i64 x249000_1, .int .i64 x249001_1]] rfl ?_; (with_reducible refine (payrollref1_Add.calls k1 x250000_1 x250001_1 x249000_1 x249001_1 t278 t279 t280 _ A134.out).mono ?_); rintro e w188 ⟨rfl, hb⟩; refine ⟨_, rfl, ?_⟩; replace BK247 := tb_ BK247 hb; replace BK248 := tb_ BK248 hb; replace BK249 := tb_ BK249 hb; replace BK250 := tb_ BK250 hb; replace HB := IsS53.ts_ HI243 HB hb; replace HI243 := IsS53.tb_ HI243 hb; (try clear hb); (try clear hb2); (try clear hk); (try clear hi)) | ((with_reducible refine gate_dst (N := 16) rfl ?_); refine bx_ (N := 16) (cs := #[.int .i64 0, .int .i64 0]) (t := 41) ?_; intro gb281 hg w189 hbox hb; have BK281 := Aside0.mk (hbox); have GW281 := IsS53.sz_ HI243 HB hg; have GE281 := IsS53.sz_ HI243 HB hg; have NB247_281 := nl_ BK247 hg; have NB281_247 := nr_ BK247 hg; have NB248_281 := nl_ BK248 hg; have NB281_248 := nr_ BK248 hg; have NB249_281 := nl_ BK249 hg; have NB281_249 := nr_ BK249 hg; have NB250_281 := nl_ BK250 hg; have NB281_250 := nr_ BK250 hg; have NB243_281 := IsS53.nl_ HI243 hg; have NB281_243 := IsS53.nr_ HI243 hg; replace BK247 := tb_ BK247 hb; replace BK248 := tb_ BK248 hb; replace BK249 := tb_ BK249 hb; replace BK250 := tb_ BK250 hb; replace HB := IsS53.ts_ HI243 HB hb; replace HI243 := IsS53.tb_ HI243 hb; clear hb hbox hg; have hnb190 := NB281_247.out; have hnc190 := NB247_281.out; have hnb191 := NB281_248.out; have hnc191 := NB248_281.out; have hnb192 := NB281_249.out; have hnc192 := NB249_281.out; have hnb193 := NB281_250.out; have hnc193 := NB250_281.out; have hnb194 := NB281_243.out; have hnc194 := NB243_281.out; have hcz195_0 : w189.cell? ⟨gb281, 0, none⟩ = some (.int .i64 0) := (blk_cell BK281.out 0).trans rfl; have hcz195_1 : w189.cell? ⟨gb281, 1, none⟩ = some (.int .i64 0) := (blk_cell BK281.out 1).trans rfl; have hfz195_0 := blk_frozen BK281.out 0; have hfz195_1 := blk_frozen BK281.out 1))
     go_ret
     exact ⟨by first | rfl | (simp [errW_none, errW_some] <;> rfl) | (simp [*, errW_none, errW_some] <;> rfl), IsS53.bs_ HI243 HB⟩

/-- THE ONE PURE STATEMENT of payrolllaw2_RoundingCarries: yours. -/
def payrolllaw2_RoundingCarries.Pure : Prop := ∀ (l0 : List Int) (a1 : Int), l0.length ≤ maxLen → l0.length * 8 ≤ 140737488351232 → (∀ x ∈ l0, (Lit.int .i64 x).wf = true) → (Lit.int .i64 a1).wf = true → ∃ k, payrolllaw2_RoundingCarries.f k l0 a1 = some true
theorem payrolllaw2_RoundingCarries.walk (P : payrolllaw2_RoundingCarries.Pure) (a0 : Option Addr) (len0 cap0 : Nat) (z0 : List Int) (a1 : Int) (w : World) (w0 : (a0 = none ∧ len0 = 0 ∧ cap0 = 0 ∧ z0 = []) ∨ ∃ x, a0 = some x ∧ len0 ≤ cap0 ∧ cap0 ≤ maxLen ∧ z0.length = cap0 ∧ (∀ i, i < z0.length → w.cell? (x.add i) = some (.int .i64 (z0.getD i 0))) ∧ ∀ n ∈ z0, (Lit.int .i64 n).wf = true) (y0 : len0 * 8 ≤ 140737488351232) (w1 : (Lit.int .i64 a1).wf = true) :
 Calls Try.prog 10 #[.slice a0 len0 cap0, .int .i64 a1] w fun e w' => e = .returned (.bool true) ∧ Below w.heap.size w w' := by
 obtain ⟨l0, rfl, hr0, hm0, hw0, hc0⟩ := ReadsInt.ofRowC w0
 obtain ⟨k, h⟩ := P l0 a1 hm0 y0 hw0 w1
 refine (payrolllaw2_RoundingCarries.calls k _ _ l0 a1 true w (Kd.C_of_reads (d := (0 : Int)) (h1 := fun _ => rfl) hr0) hc0 h).mono ?_
 rintro e w' ⟨rfl, hd⟩
 exact ⟨rfl, hd⟩

end Go.Proofs.Ytcipegkeoheikaa.PK
