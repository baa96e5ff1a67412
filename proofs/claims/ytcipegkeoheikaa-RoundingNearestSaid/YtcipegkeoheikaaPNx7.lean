-- Written by a program of this session: the machine side of the proofs, out of Lean's own print of the program. Lean checks it.
import Derived.Test.YtcipegkeoheikaaPNx0
import Derived.Test.YtcipegkeoheikaaPNx1
import Derived.Test.YtcipegkeoheikaaPNx4
import Derived.Test.YtcipegkeoheikaaPNx5
import Derived.Test.YtcipegkeoheikaaPNx6
namespace Go.Proofs.Ytcipegkeoheikaa.PN
open Go.RowKit Go.Proofs.YtcipegkeoheikaaW.PrintWords Go.Proofs.YtcipegkeoheikaaW.PrintLast Go.Proofs.YtcipegkeoheikaaW.PrintMore
attribute [local go_sem] max2_int min2_int max_two min_two max_three min_three max_four min_four   -- for this text's walks alone
set_option linter.unusedVariables false
set_option linter.unusedSimpArgs false

/-! ### payrolllaw2_RoundingNearest: function 9 -/
mutual
def payrolllaw2_RoundingNearest.j0 : Nat → Int → Bool → Int → Int → Int → Int → Int → Int → Int → Int → Option (Bool)
 | 0, _, _, _, _, _, _, _, _, _, _ => none
 | k + 1, x8, x59, x271000, x271001, x272000, x272001, x282000, x282001, x286000, x286001 => if x59 = true then ((payrolllaw2_sane.f k).bind fun t286 => (some t286)) else (if x286000 < 0 then (payrolllaw2_RoundingNearest.j1 k x8 x271000 x271001 x272000 x272001 x282000 x282001 x286000 x286001 (wrap64 (-x286000)) x286001) else (payrolllaw2_RoundingNearest.j1 k x8 x271000 x271001 x272000 x272001 x282000 x282001 x286000 x286001 x286000 x286001))
def payrolllaw2_RoundingNearest.j1 : Nat → Int → Int → Int → Int → Int → Int → Int → Int → Int → Int → Int → Option (Bool)
 | 0, _, _, _, _, _, _, _, _, _, _, _ => none
 | k + 1, x8, x271000, x271001, x272000, x272001, x282000, x282001, x286000, x286001, x288000, x288001 => if x282001 = 1 then ((ratio_Compare.f k x288000 x288001 x272000 x272001).bind fun t288 => (payrolllaw2_RoundingNearest.j2 k x8 (decide (t288 ≥ 0)) x271000 x271001 x272000 x272001 x282000 x282001 x286000 x286001 x288000 x288001)) else (payrolllaw2_RoundingNearest.j2 k x8 true x271000 x271001 x272000 x272001 x282000 x282001 x286000 x286001 x288000 x288001)
def payrolllaw2_RoundingNearest.j2 : Nat → Int → Bool → Int → Int → Int → Int → Int → Int → Int → Int → Int → Int → Option (Bool)
 | 0, _, _, _, _, _, _, _, _, _, _, _, _ => none
 | k + 1, x8, x77, x271000, x271001, x272000, x272001, x282000, x282001, x286000, x286001, x288000, x288001 => if x77 = true then (some false) else ((ratio_Add.f k x288000 x288001 x288000 x288001).bind fun bt289 => (if x8 = 2 then (if x286000 ≤ 0 then ((payrolllaw2_sane.f k).bind fun t293 => (some t293)) else (some false)) else (if x8 = 3 then (if x286000 ≥ 0 then ((payrolllaw2_sane.f k).bind fun t294 => (some t294)) else (some false)) else (if x8 = 0 then (if x286000 = 0 then ((payrolllaw2_sane.f k).bind fun t295 => (some t295)) else (if ((decide (x286000 < 0)) == (decide (x271000 > 0))) = true then ((payrolllaw2_sane.f k).bind fun t296 => (some t296)) else (some false))) else (if x8 = 1 then (if x286000 = 0 then ((payrolllaw2_sane.f k).bind fun t297 => (some t297)) else (if ((decide (x286000 > 0)) == (decide (x271000 > 0))) = true then ((payrolllaw2_sane.f k).bind fun t298 => (some t298)) else (some false))) else (if bt289.2.2 = 0 then ((ratio_Compare.f k bt289.1 bt289.2.1 x272000 x272001).bind fun t300 => (if x8 = 4 then (if ((decide (x286000 > 0)) == (decide (x271000 > 0))) = true then (payrolllaw2_RoundingNearest.j3 k t300 true) else (if x8 = 5 then (if ((decide (x286000 < 0)) == (decide (x271000 > 0))) = true then (payrolllaw2_RoundingNearest.j3 k t300 true) else (if x8 = 6 then (payrolllaw2_RoundingNearest.j3 k t300 ((Int.tmod x282000 2) == 0)) else (payrolllaw2_RoundingNearest.j3 k t300 false))) else (if x8 = 6 then (payrolllaw2_RoundingNearest.j3 k t300 ((Int.tmod x282000 2) == 0)) else (payrolllaw2_RoundingNearest.j3 k t300 false)))) else (if x8 = 5 then (if ((decide (x286000 < 0)) == (decide (x271000 > 0))) = true then (payrolllaw2_RoundingNearest.j3 k t300 true) else (if x8 = 6 then (payrolllaw2_RoundingNearest.j3 k t300 ((Int.tmod x282000 2) == 0)) else (payrolllaw2_RoundingNearest.j3 k t300 false))) else (if x8 = 6 then (payrolllaw2_RoundingNearest.j3 k t300 ((Int.tmod x282000 2) == 0)) else (payrolllaw2_RoundingNearest.j3 k t300 false))))) else ((payrolllaw2_sane.f k).bind fun t299 => (some t299))))))))
def payrolllaw2_RoundingNearest.j3 : Nat → Int → Bool → Option (Bool)
 | 0, _, _ => none
 | k + 1, x18, x19 => if x18 ≤ 0 then (if x18 < 0 then ((payrolllaw2_sane.f k).bind fun t301 => (some t301)) else (if x19 = true then ((payrolllaw2_sane.f k).bind fun t302 => (some t302)) else (some false))) else (some false)
end
def payrolllaw2_RoundingNearest.f (k : Nat) (l0 : List Int) (a1 : Int) : Option (Bool) := (payrollgen_New.f l0).bind fun bt261 => ((payrollgen_Tape_Ratio.f k bt261.1 bt261.2).bind fun bt264 => ((payrollgen_Tape_Step.f k bt261.1 bt264.2.2).bind fun bt267 => ((payrollgen_Mod.f a1 7).bind fun t272 => ((rounding_Round.f k bt264.1 bt264.2.1 bt267.1 bt267.2.1 t272).bind fun bt273 => (if bt273.2.2 = 0 then ((ratio_Div.f k bt273.1 bt273.2.1 bt267.1 bt267.2.1).bind fun bt278 => ((ratio_Sub.f k bt273.1 bt273.2.1 bt264.1 bt264.2.1).bind fun bt282 => (if bt278.2.2 = 0 then (payrolllaw2_RoundingNearest.j0 k t272 (bt282.2.2 != 0) bt264.1 bt264.2.1 bt267.1 bt267.2.1 bt278.1 bt278.2.1 bt282.1 bt282.2.1) else (payrolllaw2_RoundingNearest.j0 k t272 true bt264.1 bt264.2.1 bt267.1 bt267.2.1 bt278.1 bt278.2.1 bt282.1 bt282.2.1)))) else (if bt273.2.2 = 4 then ((payrolllaw2_sane.f k).bind fun t277 => (some t277)) else (some false)))))))
theorem payrolllaw2_RoundingNearest.mono_l : ∀ k, (∀ y0 y1 y2 y3 y4 y5 y6 y7 y8 y9, LeO (payrolllaw2_RoundingNearest.j0 k y0 y1 y2 y3 y4 y5 y6 y7 y8 y9) (payrolllaw2_RoundingNearest.j0 (k + 1) y0 y1 y2 y3 y4 y5 y6 y7 y8 y9)) ∧ (∀ y0 y1 y2 y3 y4 y5 y6 y7 y8 y9 y10, LeO (payrolllaw2_RoundingNearest.j1 k y0 y1 y2 y3 y4 y5 y6 y7 y8 y9 y10) (payrolllaw2_RoundingNearest.j1 (k + 1) y0 y1 y2 y3 y4 y5 y6 y7 y8 y9 y10)) ∧ (∀ y0 y1 y2 y3 y4 y5 y6 y7 y8 y9 y10 y11, LeO (payrolllaw2_RoundingNearest.j2 k y0 y1 y2 y3 y4 y5 y6 y7 y8 y9 y10 y11) (payrolllaw2_RoundingNearest.j2 (k + 1) y0 y1 y2 y3 y4 y5 y6 y7 y8 y9 y10 y11)) ∧ (∀ y0 y1, LeO (payrolllaw2_RoundingNearest.j3 k y0 y1) (payrolllaw2_RoundingNearest.j3 (k + 1) y0 y1))
 | 0 => ⟨fun _ _ _ _ _ _ _ _ _ _ r h => by simp [payrolllaw2_RoundingNearest.j0] at h, fun _ _ _ _ _ _ _ _ _ _ _ r h => by simp [payrolllaw2_RoundingNearest.j1] at h, fun _ _ _ _ _ _ _ _ _ _ _ _ r h => by simp [payrolllaw2_RoundingNearest.j2] at h, fun _ _ r h => by simp [payrolllaw2_RoundingNearest.j3] at h⟩
 | k + 1 => by
  obtain ⟨ih0, ih1, ih2, ih3⟩ := payrolllaw2_RoundingNearest.mono_l k
  refine ⟨?_, ?_, ?_, ?_⟩
  ·
   intro y0 y1 y2 y3 y4 y5 y6 y7 y8 y9
   unfold payrolllaw2_RoundingNearest.j0
   repeat' first
   | (with_reducible exact ih0 _ _ _ _ _ _ _ _ _ _)
   | (with_reducible exact ih1 _ _ _ _ _ _ _ _ _ _ _)
   | (with_reducible exact ih2 _ _ _ _ _ _ _ _ _ _ _ _)
   | (with_reducible exact ih3 _ _)
   | (with_reducible exact payrollgen_Tape_Ratio.mono _ _ _)
   | (with_reducible exact payrollgen_Tape_Step.mono _ _ _)
   | (with_reducible exact payrolllaw2_sane.mono _)
   | (with_reducible exact ratio_Add.mono _ _ _ _ _)
   | (with_reducible exact ratio_Compare.mono _ _ _ _ _)
   | (with_reducible exact ratio_Div.mono _ _ _ _ _)
   | (with_reducible exact ratio_Sub.mono _ _ _ _ _)
   | (with_reducible exact rounding_Round.mono _ _ _ _ _ _)
   | (with_reducible exact LeO.refl _)
   | (with_reducible exact LeO.none _)
   | (with_reducible refine LeO.ite ?_ ?_)
   | (with_reducible refine LeO.bind ?_ (fun _ => ?_))
   | exact ih0 _ _ _ _ _ _ _ _ _ _
   | exact ih1 _ _ _ _ _ _ _ _ _ _ _
   | exact ih2 _ _ _ _ _ _ _ _ _ _ _ _
   | exact ih3 _ _
   | exact payrollgen_Tape_Ratio.mono _ _ _
   | exact payrollgen_Tape_Step.mono _ _ _
   | exact payrolllaw2_sane.mono _
   | exact ratio_Add.mono _ _ _ _ _
   | exact ratio_Compare.mono _ _ _ _ _
   | exact ratio_Div.mono _ _ _ _ _
   | exact ratio_Sub.mono _ _ _ _ _
   | exact rounding_Round.mono _ _ _ _ _ _
   | exact LeO.none _
   | refine LeO.ite ?_ ?_
   | refine LeO.bind ?_ (fun _ => ?_)
  ·
   intro y0 y1 y2 y3 y4 y5 y6 y7 y8 y9 y10
   unfold payrolllaw2_RoundingNearest.j1
   repeat' first
   | (with_reducible exact ih0 _ _ _ _ _ _ _ _ _ _)
   | (with_reducible exact ih1 _ _ _ _ _ _ _ _ _ _ _)
   | (with_reducible exact ih2 _ _ _ _ _ _ _ _ _ _ _ _)
   | (with_reducible exact ih3 _ _)
   | (with_reducible exact payrollgen_Tape_Ratio.mono _ _ _)
   | (with_reducible exact payrollgen_Tape_Step.mono _ _ _)
   | (with_reducible exact payrolllaw2_sane.mono _)
   | (with_reducible exact ratio_Add.mono _ _ _ _ _)
   | (with_reducible exact ratio_Compare.mono _ _ _ _ _)
   | (with_reducible exact ratio_Div.mono _ _ _ _ _)
   | (with_reducible exact ratio_Sub.mono _ _ _ _ _)
   | (with_reducible exact rounding_Round.mono _ _ _ _ _ _)
   | (with_reducible exact LeO.refl _)
   | (with_reducible exact LeO.none _)
   | (with_reducible refine LeO.ite ?_ ?_)
   | (with_reducible refine LeO.bind ?_ (fun _ => ?_))
   | exact ih0 _ _ _ _ _ _ _ _ _ _
   | exact ih1 _ _ _ _ _ _ _ _ _ _ _
   | exact ih2 _ _ _ _ _ _ _ _ _ _ _ _
   | exact ih3 _ _
   | exact payrollgen_Tape_Ratio.mono _ _ _
   | exact payrollgen_Tape_Step.mono _ _ _
   | exact payrolllaw2_sane.mono _
   | exact ratio_Add.mono _ _ _ _ _
   | exact ratio_Compare.mono _ _ _ _ _
   | exact ratio_Div.mono _ _ _ _ _
   | exact ratio_Sub.mono _ _ _ _ _
   | exact rounding_Round.mono _ _ _ _ _ _
   | exact LeO.none _
   | refine LeO.ite ?_ ?_
   | refine LeO.bind ?_ (fun _ => ?_)
  ·
   intro y0 y1 y2 y3 y4 y5 y6 y7 y8 y9 y10 y11
   unfold payrolllaw2_RoundingNearest.j2
   repeat' first
   | (with_reducible exact ih0 _ _ _ _ _ _ _ _ _ _)
   | (with_reducible exact ih1 _ _ _ _ _ _ _ _ _ _ _)
   | (with_reducible exact ih2 _ _ _ _ _ _ _ _ _ _ _ _)
   | (with_reducible exact ih3 _ _)
   | (with_reducible exact payrollgen_Tape_Ratio.mono _ _ _)
   | (with_reducible exact payrollgen_Tape_Step.mono _ _ _)
   | (with_reducible exact payrolllaw2_sane.mono _)
   | (with_reducible exact ratio_Add.mono _ _ _ _ _)
   | (with_reducible exact ratio_Compare.mono _ _ _ _ _)
   | (with_reducible exact ratio_Div.mono _ _ _ _ _)
   | (with_reducible exact ratio_Sub.mono _ _ _ _ _)
   | (with_reducible exact rounding_Round.mono _ _ _ _ _ _)
   | (with_reducible exact LeO.refl _)
   | (with_reducible exact LeO.none _)
   | (with_reducible refine LeO.ite ?_ ?_)
   | (with_reducible refine LeO.bind ?_ (fun _ => ?_))
   | exact ih0 _ _ _ _ _ _ _ _ _ _
   | exact ih1 _ _ _ _ _ _ _ _ _ _ _
   | exact ih2 _ _ _ _ _ _ _ _ _ _ _ _
   | exact ih3 _ _
   | exact payrollgen_Tape_Ratio.mono _ _ _
   | exact payrollgen_Tape_Step.mono _ _ _
   | exact payrolllaw2_sane.mono _
   | exact ratio_Add.mono _ _ _ _ _
   | exact ratio_Compare.mono _ _ _ _ _
   | exact ratio_Div.mono _ _ _ _ _
   | exact ratio_Sub.mono _ _ _ _ _
   | exact rounding_Round.mono _ _ _ _ _ _
   | exact LeO.none _
   | refine LeO.ite ?_ ?_
   | refine LeO.bind ?_ (fun _ => ?_)
  ·
   intro y0 y1
   unfold payrolllaw2_RoundingNearest.j3
   repeat' first
   | (with_reducible exact ih0 _ _ _ _ _ _ _ _ _ _)
   | (with_reducible exact ih1 _ _ _ _ _ _ _ _ _ _ _)
   | (with_reducible exact ih2 _ _ _ _ _ _ _ _ _ _ _ _)
   | (with_reducible exact ih3 _ _)
   | (with_reducible exact payrollgen_Tape_Ratio.mono _ _ _)
   | (with_reducible exact payrollgen_Tape_Step.mono _ _ _)
   | (with_reducible exact payrolllaw2_sane.mono _)
   | (with_reducible exact ratio_Add.mono _ _ _ _ _)
   | (with_reducible exact ratio_Compare.mono _ _ _ _ _)
   | (with_reducible exact ratio_Div.mono _ _ _ _ _)
   | (with_reducible exact ratio_Sub.mono _ _ _ _ _)
   | (with_reducible exact rounding_Round.mono _ _ _ _ _ _)
   | (with_reducible exact LeO.refl _)
   | (with_reducible exact LeO.none _)
   | (with_reducible refine LeO.ite ?_ ?_)
   | (with_reducible refine LeO.bind ?_ (fun _ => ?_))
   | exact ih0 _ _ _ _ _ _ _ _ _ _
   | exact ih1 _ _ _ _ _ _ _ _ _ _ _
   | exact ih2 _ _ _ _ _ _ _ _ _ _ _ _
   | exact ih3 _ _
   | exact payrollgen_Tape_Ratio.mono _ _ _
   | exact payrollgen_Tape_Step.mono _ _ _
   | exact payrolllaw2_sane.mono _
   | exact ratio_Add.mono _ _ _ _ _
   | exact ratio_Compare.mono _ _ _ _ _
   | exact ratio_Div.mono _ _ _ _ _
   | exact ratio_Sub.mono _ _ _ _ _
   | exact rounding_Round.mono _ _ _ _ _ _
   | exact LeO.none _
   | refine LeO.ite ?_ ?_
   | refine LeO.bind ?_ (fun _ => ?_)
theorem payrolllaw2_RoundingNearest.mono : ∀ a0 a1 k, LeO (payrolllaw2_RoundingNearest.f k a0 a1) (payrolllaw2_RoundingNearest.f (k + 1) a0 a1) := by
 intro a0 a1 k
 obtain ⟨ih0, ih1, ih2, ih3⟩ := payrolllaw2_RoundingNearest.mono_l k
 unfold payrolllaw2_RoundingNearest.f
 repeat' first
  | (with_reducible exact ih0 _ _ _ _ _ _ _ _ _ _)
  | (with_reducible exact ih1 _ _ _ _ _ _ _ _ _ _ _)
  | (with_reducible exact ih2 _ _ _ _ _ _ _ _ _ _ _ _)
  | (with_reducible exact ih3 _ _)
  | (with_reducible exact payrollgen_Tape_Ratio.mono _ _ _)
  | (with_reducible exact payrollgen_Tape_Step.mono _ _ _)
  | (with_reducible exact payrolllaw2_sane.mono _)
  | (with_reducible exact ratio_Add.mono _ _ _ _ _)
  | (with_reducible exact ratio_Compare.mono _ _ _ _ _)
  | (with_reducible exact ratio_Div.mono _ _ _ _ _)
  | (with_reducible exact ratio_Sub.mono _ _ _ _ _)
  | (with_reducible exact rounding_Round.mono _ _ _ _ _ _)
  | (with_reducible exact LeO.refl _)
  | (with_reducible exact LeO.none _)
  | (with_reducible refine LeO.ite ?_ ?_)
  | (with_reducible refine LeO.bind ?_ (fun _ => ?_))
  | exact ih0 _ _ _ _ _ _ _ _ _ _
  | exact ih1 _ _ _ _ _ _ _ _ _ _ _
  | exact ih2 _ _ _ _ _ _ _ _ _ _ _ _
  | exact ih3 _ _
  | exact payrollgen_Tape_Ratio.mono _ _ _
  | exact payrollgen_Tape_Step.mono _ _ _
  | exact payrolllaw2_sane.mono _
  | exact ratio_Add.mono _ _ _ _ _
  | exact ratio_Compare.mono _ _ _ _ _
  | exact ratio_Div.mono _ _ _ _ _
  | exact ratio_Sub.mono _ _ _ _ _
  | exact rounding_Round.mono _ _ _ _ _ _
  | exact LeO.none _
  | refine LeO.ite ?_ ?_
  | refine LeO.bind ?_ (fun _ => ?_)
set_option maxHeartbeats 8000000 in
set_option maxRecDepth 100000 in
theorem payrolllaw2_RoundingNearest.calls (k : Nat) (A0 : Option Addr) (c0 : Nat) (l0 : List Int) (a1 : Int) (r : Bool) (w : World) (hr0 : Kd.C (Kd.int .i64) w A0 l0.length l0) (hc0 : l0.length ≤ c0) (h : payrolllaw2_RoundingNearest.f k l0 a1 = some r) :
 Calls Try.prog 9 #[.slice A0 l0.length c0, .int .i64 a1] w fun e w' => e = .returned (.bool r) ∧ Below w.heap.size w w' := by
 have hu41 := Try.underlying41
 have HR0 := Aside0.mk hr0
 have HC0 := Aside0.mk hc0
 clear hr0 hc0
 have HB := Aside0.mk (Below.refl w.heap.size w)
 have H : ((payrollgen_New.f l0).bind fun bt261 => ((payrollgen_Tape_Ratio.f k bt261.1 bt261.2).bind fun bt264 => ((payrollgen_Tape_Step.f k bt261.1 bt264.2.2).bind fun bt267 => ((payrollgen_Mod.f a1 7).bind fun t272 => ((rounding_Round.f k bt264.1 bt264.2.1 bt267.1 bt267.2.1 t272).bind fun bt273 => (if bt273.2.2 = 0 then ((ratio_Div.f k bt273.1 bt273.2.1 bt267.1 bt267.2.1).bind fun bt278 => ((ratio_Sub.f k bt273.1 bt273.2.1 bt264.1 bt264.2.1).bind fun bt282 => (if bt278.2.2 = 0 then (payrolllaw2_RoundingNearest.j0 k t272 (bt282.2.2 != 0) bt264.1 bt264.2.1 bt267.1 bt267.2.1 bt278.1 bt278.2.1 bt282.1 bt282.2.1) else (payrolllaw2_RoundingNearest.j0 k t272 true bt264.1 bt264.2.1 bt267.1 bt267.2.1 bt278.1 bt278.2.1 bt282.1 bt282.2.1)))) else (if bt273.2.2 = 4 then ((payrolllaw2_sane.f k).bind fun t277 => (some t277)) else (some false)))))))) = some r := h
 clear h
 replace H := Option.bind_eq_some_iff.mp H
 obtain ⟨⟨t261, t262⟩, A30, H⟩ := H
 replace H : ((payrollgen_Tape_Ratio.f k t261 t262).bind fun bt264 => ((payrollgen_Tape_Step.f k t261 bt264.2.2).bind fun bt267 => ((payrollgen_Mod.f a1 7).bind fun t272 => ((rounding_Round.f k bt264.1 bt264.2.1 bt267.1 bt267.2.1 t272).bind fun bt273 => (if bt273.2.2 = 0 then ((ratio_Div.f k bt273.1 bt273.2.1 bt267.1 bt267.2.1).bind fun bt278 => ((ratio_Sub.f k bt273.1 bt273.2.1 bt264.1 bt264.2.1).bind fun bt282 => (if bt278.2.2 = 0 then (payrolllaw2_RoundingNearest.j0 k t272 (bt282.2.2 != 0) bt264.1 bt264.2.1 bt267.1 bt267.2.1 bt278.1 bt278.2.1 bt282.1 bt282.2.1) else (payrolllaw2_RoundingNearest.j0 k t272 true bt264.1 bt264.2.1 bt267.1 bt267.2.1 bt278.1 bt278.2.1 bt282.1 bt282.2.1)))) else (if bt273.2.2 = 4 then ((payrolllaw2_sane.f k).bind fun t277 => (some t277)) else (some false))))))) = some r := H
 have A3 := Aside0.mk A30
 clear A30
 replace H := Option.bind_eq_some_iff.mp H
 obtain ⟨⟨t264, t265, t266⟩, A40, H⟩ := H
 replace H : ((payrollgen_Tape_Step.f k t261 t266).bind fun bt267 => ((payrollgen_Mod.f a1 7).bind fun t272 => ((rounding_Round.f k t264 t265 bt267.1 bt267.2.1 t272).bind fun bt273 => (if bt273.2.2 = 0 then ((ratio_Div.f k bt273.1 bt273.2.1 bt267.1 bt267.2.1).bind fun bt278 => ((ratio_Sub.f k bt273.1 bt273.2.1 t264 t265).bind fun bt282 => (if bt278.2.2 = 0 then (payrolllaw2_RoundingNearest.j0 k t272 (bt282.2.2 != 0) t264 t265 bt267.1 bt267.2.1 bt278.1 bt278.2.1 bt282.1 bt282.2.1) else (payrolllaw2_RoundingNearest.j0 k t272 true t264 t265 bt267.1 bt267.2.1 bt278.1 bt278.2.1 bt282.1 bt282.2.1)))) else (if bt273.2.2 = 4 then ((payrolllaw2_sane.f k).bind fun t277 => (some t277)) else (some false)))))) = some r := H
 have A4 := Aside0.mk A40
 clear A40
 replace H := Option.bind_eq_some_iff.mp H
 obtain ⟨⟨t267, t268, t269⟩, A50, H⟩ := H
 replace H : ((payrollgen_Mod.f a1 7).bind fun t272 => ((rounding_Round.f k t264 t265 t267 t268 t272).bind fun bt273 => (if bt273.2.2 = 0 then ((ratio_Div.f k bt273.1 bt273.2.1 t267 t268).bind fun bt278 => ((ratio_Sub.f k bt273.1 bt273.2.1 t264 t265).bind fun bt282 => (if bt278.2.2 = 0 then (payrolllaw2_RoundingNearest.j0 k t272 (bt282.2.2 != 0) t264 t265 t267 t268 bt278.1 bt278.2.1 bt282.1 bt282.2.1) else (payrolllaw2_RoundingNearest.j0 k t272 true t264 t265 t267 t268 bt278.1 bt278.2.1 bt282.1 bt282.2.1)))) else (if bt273.2.2 = 4 then ((payrolllaw2_sane.f k).bind fun t277 => (some t277)) else (some false))))) = some r := H
 have A5 := Aside0.mk A50
 clear A50
 replace H := Option.bind_eq_some_iff.mp H
 obtain ⟨t272, A60, H⟩ := H
 replace H : ((rounding_Round.f k t264 t265 t267 t268 t272).bind fun bt273 => (if bt273.2.2 = 0 then ((ratio_Div.f k bt273.1 bt273.2.1 t267 t268).bind fun bt278 => ((ratio_Sub.f k bt273.1 bt273.2.1 t264 t265).bind fun bt282 => (if bt278.2.2 = 0 then (payrolllaw2_RoundingNearest.j0 k t272 (bt282.2.2 != 0) t264 t265 t267 t268 bt278.1 bt278.2.1 bt282.1 bt282.2.1) else (payrolllaw2_RoundingNearest.j0 k t272 true t264 t265 t267 t268 bt278.1 bt278.2.1 bt282.1 bt282.2.1)))) else (if bt273.2.2 = 4 then ((payrolllaw2_sane.f k).bind fun t277 => (some t277)) else (some false)))) = some r := H
 have A6 := Aside0.mk A60
 clear A60
 replace H := Option.bind_eq_some_iff.mp H
 obtain ⟨⟨t273, t274, t275⟩, A70, H⟩ := H
 replace H : (if t275 = 0 then ((ratio_Div.f k t273 t274 t267 t268).bind fun bt278 => ((ratio_Sub.f k t273 t274 t264 t265).bind fun bt282 => (if bt278.2.2 = 0 then (payrolllaw2_RoundingNearest.j0 k t272 (bt282.2.2 != 0) t264 t265 t267 t268 bt278.1 bt278.2.1 bt282.1 bt282.2.1) else (payrolllaw2_RoundingNearest.j0 k t272 true t264 t265 t267 t268 bt278.1 bt278.2.1 bt282.1 bt282.2.1)))) else (if t275 = 4 then ((payrolllaw2_sane.f k).bind fun t277 => (some t277)) else (some false))) = some r := H
 have A7 := Aside0.mk A70
 clear A70
 by_cases c8 : t275 = 0
 ·
  as_aux_lemma =>
  rw [if_pos c8] at H
  have c8b0 : (t275 == 0) = true := beq_iff_eq.mpr c8
  have c8b1 : (t275 != 0) = false := bne_eq_false_iff_eq.mpr c8
  clear c8
  replace H := Option.bind_eq_some_iff.mp H
  obtain ⟨⟨t278, t279, t280⟩, A90, H⟩ := H
  replace H : ((ratio_Sub.f k t273 t274 t264 t265).bind fun bt282 => (if t280 = 0 then (payrolllaw2_RoundingNearest.j0 k t272 (bt282.2.2 != 0) t264 t265 t267 t268 t278 t279 bt282.1 bt282.2.1) else (payrolllaw2_RoundingNearest.j0 k t272 true t264 t265 t267 t268 t278 t279 bt282.1 bt282.2.1))) = some r := H
  have A9 := Aside0.mk A90
  clear A90
  replace H := Option.bind_eq_some_iff.mp H
  obtain ⟨⟨t282, t283, t284⟩, A100, H⟩ := H
  replace H : (if t280 = 0 then (payrolllaw2_RoundingNearest.j0 k t272 (t284 != 0) t264 t265 t267 t268 t278 t279 t282 t283) else (payrolllaw2_RoundingNearest.j0 k t272 true t264 t265 t267 t268 t278 t279 t282 t283)) = some r := H
  have A10 := Aside0.mk A100
  clear A100
  have HC11 := Aside0.mk H
  clear H
  go_enter Try.func9, Try.ntmps9
  go_upto_region 9 with (first | ((with_reducible refine gate_callee (f := 11) rfl ?_); refine gq_ (some 21) rfl rfl Try.func11 #[.slice A0 l0.length c0] rfl ?_; (with_reducible refine (payrollgen_New.calls _ _ l0 t261 t262 w _ ?side1 ?side2 ?side3 A3.out).mono ?_); (case side1 => exact be_ HB); (case side2 => exact HR0.out); (case side3 => exact HC0.out); rintro e w12 ⟨g263, rfl, hi, hb, hb2⟩; refine ⟨_, rfl, ?_⟩; have HI263 := Aside0.mk (hi); replace HB := Aside0.mk (hb); (try clear hb); (try clear hb2); (try clear hk); (try clear hi)) | ((with_reducible refine gate_callee (f := 21) rfl ?_); refine gq_ (some 23) rfl rfl Try.func21 #[.pointer (some ⟨g263, 0, none⟩)] rfl ?_; (with_reducible refine (payrollgen_Tape_Ratio.calls k g263 t261 t262 t264 t265 t266 w _ ?side1 ?side2 A4.out).mono ?_); (case side1 => exact IsS53.aq_ HI263); (case side2 => exact IsS53.bs_ HI263 HB); rintro e w13 ⟨rfl, hi, hb, hk⟩; refine ⟨_, rfl, ?_⟩; replace HB := Aside0.mk (hb); replace HI263 := Aside0.mk (hi); (try clear hb); (try clear hb2); (try clear hk); (try clear hi)) | ((with_reducible refine gate_callee (f := 22) rfl ?_); refine gq_ (some 25) rfl rfl Try.func22 #[.pointer (some ⟨g263, 0, none⟩)] rfl ?_; (with_reducible refine (payrollgen_Tape_Step.calls k g263 t261 t266 t267 t268 t269 w _ ?side1 ?side2 A5.out).mono ?_); (case side1 => exact IsS53.aq_ HI263); (case side2 => exact IsS53.bs_ HI263 HB); rintro e w14 ⟨rfl, hi, hb, hk⟩; refine ⟨_, rfl, ?_⟩; replace HB := Aside0.mk (hb); replace HI263 := Aside0.mk (hi); (try clear hb); (try clear hb2); (try clear hk); (try clear hi)) | ((with_reducible refine gate_dst (N := 6) rfl ?_); refine bx_ (N := 6) (cs := #[.int .i64 0, .int .i64 0]) (t := 41) ?_; intro gb270 hg w15 hbox hb; have BK270 := Aside0.mk (hbox); have GW270 := IsS53.sz_ HI263 HB hg; have GE270 := IsS53.sz_ HI263 HB hg; have NB263_270 := IsS53.nl_ HI263 hg; have NB270_263 := IsS53.nr_ HI263 hg; replace HB := IsS53.ts_ HI263 HB hb; replace HI263 := IsS53.tb_ HI263 hb; clear hb hbox hg) | ((with_reducible refine gate_dst (N := 7) rfl ?_); refine bx_ (N := 7) (cs := #[.int .i64 0, .int .i64 0]) (t := 41) ?_; intro gb271 hg w16 hbox hb; have BK271 := Aside0.mk (hbox); have GW271 := IsS53.sz_ HI263 HB hg; have GE271 := IsS53.sz_ HI263 HB hg; have NB270_271 := nl_ BK270 hg; have NB271_270 := nr_ BK270 hg; have NB263_271 := IsS53.nl_ HI263 hg; have NB271_263 := IsS53.nr_ HI263 hg; replace BK270 := tb_ BK270 hb; replace HB := IsS53.ts_ HI263 HB hb; replace HI263 := IsS53.tb_ HI263 hb; clear hb hbox hg; have hnb17 := NB270_271.out; have hnc17 := NB271_270.out; have hnb18 := NB270_263.out; have hnc18 := NB263_270.out; have hcz19_0 : w16.cell? ⟨gb270, 0, none⟩ = some (.int .i64 0) := (blk_cell BK270.out 0).trans rfl; have hcz19_1 : w16.cell? ⟨gb270, 1, none⟩ = some (.int .i64 0) := (blk_cell BK270.out 1).trans rfl; have hfz19_0 := blk_frozen BK270.out 0; have hfz19_1 := blk_frozen BK270.out 1; have hnb20 := NB271_263.out; have hnc20 := NB263_271.out; have hcz21_0 : w16.cell? ⟨gb271, 0, none⟩ = some (.int .i64 0) := (blk_cell BK271.out 0).trans rfl; have hcz21_1 : w16.cell? ⟨gb271, 1, none⟩ = some (.int .i64 0) := (blk_cell BK271.out 1).trans rfl; have hfz21_0 := blk_frozen BK271.out 0; have hfz21_1 := blk_frozen BK271.out 1) | ((with_reducible refine gate_callee (f := 12) rfl ?_); refine gq_ (some 27) rfl rfl Try.func12 #[.int .i64 a1, .int .i64 7] rfl ?_; (with_reducible refine (payrollgen_Mod.calls a1 7 t272 _ A6.out).mono ?_); rintro e w' ⟨rfl, ⟨nd, rfl⟩⟩; refine ⟨_, rfl, ?_⟩) | ((with_reducible refine gate_callee (f := 23) rfl ?_); refine gq_ (some 32) rfl rfl Try.func23 #[.agg #[.int .i64 t264, .int .i64 t265], .agg #[.int .i64 t267, .int .i64 t268], .int .i64 t272] rfl ?_; (with_reducible refine (rounding_Round.calls k t264 t265 t267 t268 t272 t273 t274 t275 _ A7.out).mono ?_); rintro e w22 ⟨rfl, hb⟩; refine ⟨_, rfl, ?_⟩; replace BK270 := tb_ (o' := .cells #[.int .i64 t264, .int .i64 t265] 41 (0, 0)) BK270 hb; replace BK271 := tb_ (o' := .cells #[.int .i64 t267, .int .i64 t268] 41 (0, 0)) BK271 hb; replace HB := IsS53.ts_ HI263 HB hb; replace HI263 := IsS53.tb_ HI263 hb; (try clear hb); (try clear hb2); (try clear hk); (try clear hi)) | ((with_reducible refine gate_dst (N := 9) rfl ?_); refine bx_ (N := 9) (cs := #[.int .i64 0, .int .i64 0]) (t := 41) ?_; intro gb276 hg w23 hbox hb; have BK276 := Aside0.mk (hbox); have GW276 := IsS53.sz_ HI263 HB hg; have GE276 := IsS53.sz_ HI263 HB hg; have NB270_276 := nl_ BK270 hg; have NB276_270 := nr_ BK270 hg; have NB271_276 := nl_ BK271 hg; have NB276_271 := nr_ BK271 hg; have NB263_276 := IsS53.nl_ HI263 hg; have NB276_263 := IsS53.nr_ HI263 hg; replace BK270 := tb_ BK270 hb; replace BK271 := tb_ BK271 hb; replace HB := IsS53.ts_ HI263 HB hb; replace HI263 := IsS53.tb_ HI263 hb; clear hb hbox hg; have hnb24 := NB276_270.out; have hnc24 := NB270_276.out; have hnb25 := NB276_271.out; have hnc25 := NB271_276.out; have hnb26 := NB276_263.out; have hnc26 := NB263_276.out; have hcz27_0 : w23.cell? ⟨gb276, 0, none⟩ = some (.int .i64 0) := (blk_cell BK276.out 0).trans rfl; have hcz27_1 : w23.cell? ⟨gb276, 1, none⟩ = some (.int .i64 0) := (blk_cell BK276.out 1).trans rfl; have hfz27_0 := blk_frozen BK276.out 0; have hfz27_1 := blk_frozen BK276.out 1; have hcz28_0 : w23.cell? ⟨gb271, 0, none⟩ = some (.int .i64 t267) := (blk_cell BK271.out 0).trans rfl; have hcz28_1 : w23.cell? ⟨gb271, 1, none⟩ = some (.int .i64 t268) := (blk_cell BK271.out 1).trans rfl; have hfz28_0 := blk_frozen BK271.out 0; have hfz28_1 := blk_frozen BK271.out 1) | ((with_reducible refine gate_callee (f := 28) rfl ?_); refine gq_ (some 45) rfl rfl Try.func28 #[.agg #[.int .i64 t273, .int .i64 t274], .agg #[.int .i64 t267, .int .i64 t268]] rfl ?_; (with_reducible refine (ratio_Div.calls k t273 t274 t267 t268 t278 t279 t280 _ A9.out).mono ?_); rintro e w29 ⟨rfl, hb⟩; refine ⟨_, rfl, ?_⟩; replace BK270 := tb_ BK270 hb; replace BK271 := tb_ BK271 hb; replace BK276 := tb_ (o' := .cells #[.int .i64 t273, .int .i64 t274] 41 (0, 0)) BK276 hb; replace HB := IsS53.ts_ HI263 HB hb; replace HI263 := IsS53.tb_ HI263 hb; (try clear hb); (try clear hb2); (try clear hk); (try clear hi)) | ((with_reducible refine gate_dst (N := 11) rfl ?_); refine bx_ (N := 11) (cs := #[.int .i64 0, .int .i64 0]) (t := 41) ?_; intro gb281 hg w30 hbox hb; have BK281 := Aside0.mk (hbox); have GW281 := IsS53.sz_ HI263 HB hg; have GE281 := IsS53.sz_ HI263 HB hg; have NB270_281 := nl_ BK270 hg; have NB281_270 := nr_ BK270 hg; have NB271_281 := nl_ BK271 hg; have NB281_271 := nr_ BK271 hg; have NB276_281 := nl_ BK276 hg; have NB281_276 := nr_ BK276 hg; have NB263_281 := IsS53.nl_ HI263 hg; have NB281_263 := IsS53.nr_ HI263 hg; replace BK270 := tb_ BK270 hb; replace BK271 := tb_ BK271 hb; replace BK276 := tb_ BK276 hb; replace HB := IsS53.ts_ HI263 HB hb; replace HI263 := IsS53.tb_ HI263 hb; clear hb hbox hg; have hnb31 := NB281_270.out; have hnc31 := NB270_281.out; have hnb32 := NB281_271.out; have hnc32 := NB271_281.out; have hnb33 := NB281_276.out; have hnc33 := NB276_281.out; have hnb34 := NB281_263.out; have hnc34 := NB263_281.out; have hcz35_0 : w30.cell? ⟨gb281, 0, none⟩ = some (.int .i64 0) := (blk_cell BK281.out 0).trans rfl; have hcz35_1 : w30.cell? ⟨gb281, 1, none⟩ = some (.int .i64 0) := (blk_cell BK281.out 1).trans rfl; have hfz35_0 := blk_frozen BK281.out 0; have hfz35_1 := blk_frozen BK281.out 1; have hcz36_0 : w30.cell? ⟨gb276, 0, none⟩ = some (.int .i64 t273) := (blk_cell BK276.out 0).trans rfl; have hcz36_1 : w30.cell? ⟨gb276, 1, none⟩ = some (.int .i64 t274) := (blk_cell BK276.out 1).trans rfl; have hfz36_0 := blk_frozen BK276.out 0; have hfz36_1 := blk_frozen BK276.out 1; have hcz37_0 : w30.cell? ⟨gb270, 0, none⟩ = some (.int .i64 t264) := (blk_cell BK270.out 0).trans rfl; have hcz37_1 : w30.cell? ⟨gb270, 1, none⟩ = some (.int .i64 t265) := (blk_cell BK270.out 1).trans rfl; have hfz37_0 := blk_frozen BK270.out 0; have hfz37_1 := blk_frozen BK270.out 1) | ((with_reducible refine gate_callee (f := 29) rfl ?_); refine gq_ (some 51) rfl rfl Try.func29 #[.agg #[.int .i64 t273, .int .i64 t274], .agg #[.int .i64 t264, .int .i64 t265]] rfl ?_; (with_reducible refine (ratio_Sub.calls k t273 t274 t264 t265 t282 t283 t284 _ A10.out).mono ?_); rintro e w38 ⟨rfl, hb⟩; refine ⟨_, rfl, ?_⟩; replace BK270 := tb_ BK270 hb; replace BK271 := tb_ BK271 hb; replace BK276 := tb_ BK276 hb; replace BK281 := tb_ (o' := .cells #[.int .i64 t278, .int .i64 t279] 41 (0, 0)) BK281 hb; replace HB := IsS53.ts_ HI263 HB hb; replace HI263 := IsS53.tb_ HI263 hb; (try clear hb); (try clear hb2); (try clear hk); (try clear hi)) | ((with_reducible refine gate_dst (N := 13) rfl ?_); refine bx_ (N := 13) (cs := #[.int .i64 0, .int .i64 0]) (t := 41) ?_; intro gb285 hg w39 hbox hb; have BK285 := Aside0.mk (hbox); have GW285 := IsS53.sz_ HI263 HB hg; have GE285 := IsS53.sz_ HI263 HB hg; have NB270_285 := nl_ BK270 hg; have NB285_270 := nr_ BK270 hg; have NB271_285 := nl_ BK271 hg; have NB285_271 := nr_ BK271 hg; have NB276_285 := nl_ BK276 hg; have NB285_276 := nr_ BK276 hg; have NB281_285 := nl_ BK281 hg; have NB285_281 := nr_ BK281 hg; have NB263_285 := IsS53.nl_ HI263 hg; have NB285_263 := IsS53.nr_ HI263 hg; replace BK270 := tb_ BK270 hb; replace BK271 := tb_ BK271 hb; replace BK276 := tb_ BK276 hb; replace BK281 := tb_ BK281 hb; replace HB := IsS53.ts_ HI263 HB hb; replace HI263 := IsS53.tb_ HI263 hb; clear hb hbox hg; have hnb40 := NB285_270.out; have hnc40 := NB270_285.out; have hnb41 := NB285_271.out; have hnc41 := NB271_285.out; have hnb42 := NB285_276.out; have hnc42 := NB276_285.out; have hnb43 := NB285_281.out; have hnc43 := NB281_285.out; have hnb44 := NB285_263.out; have hnc44 := NB263_285.out; have hcz45_0 : w39.cell? ⟨gb285, 0, none⟩ = some (.int .i64 0) := (blk_cell BK285.out 0).trans rfl; have hcz45_1 : w39.cell? ⟨gb285, 1, none⟩ = some (.int .i64 0) := (blk_cell BK285.out 1).trans rfl; have hfz45_0 := blk_frozen BK285.out 0; have hfz45_1 := blk_frozen BK285.out 1))
  (try simp only [Act.put, List.setIfInBounds_toArray, List.set_cons_zero, List.set_cons_succ])
  go_cut [59] (fun v59 wc => ∃ (kq : Nat) (x59_10 : Bool), v59 = .bool x59_10 ∧ Aside0 (payrolllaw2_RoundingNearest.j0 kq t272 x59_10 t264 t265 t267 t268 t278 t279 t282 t283 = some r) ∧ Aside0 (kq ≤ k) ∧ Aside0 (wc.heap[gb270]? = some (.cells #[.int .i64 t264, .int .i64 t265] 41 (0, 0))) ∧ Aside0 (wc.heap[gb271]? = some (.cells #[.int .i64 t267, .int .i64 t268] 41 (0, 0))) ∧ Aside0 (wc.heap[gb276]? = some (.cells #[.int .i64 t273, .int .i64 t274] 41 (0, 0))) ∧ Aside0 (wc.heap[gb281]? = some (.cells #[.int .i64 t278, .int .i64 t279] 41 (0, 0))) ∧ Aside0 (wc.heap[gb285]? = some (.cells #[.int .i64 t282, .int .i64 t283] 41 (0, 0))) ∧ Aside0 (Below w.heap.size w wc))
  case first =>
   have H := HC11.out
   clear HC11
   by_cases c46 : t280 = 0
   ·
    rw [if_pos c46] at H
    have c46b0 : (t280 == 0) = true := beq_iff_eq.mpr c46
    have c46b1 : (t280 != 0) = false := bne_eq_false_iff_eq.mpr c46
    clear c46
    (first | rw [c46b0] | (simp only [i64_w, i32_w]; rw [c46b0]) | skip)
    have H' := Aside0.mk H
    clear H
    go_wp2
    go_meet
    case rel => exact ⟨_, ((t284 != 0)), (by first | rfl | (simp; done) | (simp [*]; done)), H', ⟨by first | omega | exact Nat.le_refl _⟩, ⟨by (with_reducible repeat (first | refine blk_drewN ?_ _ | refine blk_drew ?_ | refine blk_alloc ?_ _)); refine blk_far ?_ NB270_285.out _; (with_reducible repeat (first | refine blk_drewN ?_ _ | refine blk_drew ?_ | refine blk_alloc ?_ _)); refine blk_far ?_ NB270_285.out _; (with_reducible repeat (first | refine blk_drewN ?_ _ | refine blk_drew ?_ | refine blk_alloc ?_ _)); exact BK270.out⟩, ⟨by (with_reducible repeat (first | refine blk_drewN ?_ _ | refine blk_drew ?_ | refine blk_alloc ?_ _)); refine blk_far ?_ NB271_285.out _; (with_reducible repeat (first | refine blk_drewN ?_ _ | refine blk_drew ?_ | refine blk_alloc ?_ _)); refine blk_far ?_ NB271_285.out _; (with_reducible repeat (first | refine blk_drewN ?_ _ | refine blk_drew ?_ | refine blk_alloc ?_ _)); exact BK271.out⟩, ⟨by (with_reducible repeat (first | refine blk_drewN ?_ _ | refine blk_drew ?_ | refine blk_alloc ?_ _)); refine blk_far ?_ NB276_285.out _; (with_reducible repeat (first | refine blk_drewN ?_ _ | refine blk_drew ?_ | refine blk_alloc ?_ _)); refine blk_far ?_ NB276_285.out _; (with_reducible repeat (first | refine blk_drewN ?_ _ | refine blk_drew ?_ | refine blk_alloc ?_ _)); exact BK276.out⟩, ⟨by (with_reducible repeat (first | refine blk_drewN ?_ _ | refine blk_drew ?_ | refine blk_alloc ?_ _)); refine blk_far ?_ NB281_285.out _; (with_reducible repeat (first | refine blk_drewN ?_ _ | refine blk_drew ?_ | refine blk_alloc ?_ _)); refine blk_far ?_ NB281_285.out _; (with_reducible repeat (first | refine blk_drewN ?_ _ | refine blk_drew ?_ | refine blk_alloc ?_ _)); exact BK281.out⟩, ⟨by (with_reducible repeat (first | refine blk_drewN ?_ _ | refine blk_drew ?_ | refine blk_alloc ?_ _)); refine blk_put (cs := #[.int .i64 t282, .int .i64 0]) ?_ 1 _ rfl; (with_reducible repeat (first | refine blk_drewN ?_ _ | refine blk_drew ?_ | refine blk_alloc ?_ _)); refine blk_put (cs := #[.int .i64 0, .int .i64 0]) ?_ 0 _ rfl; (with_reducible repeat (first | refine blk_drewN ?_ _ | refine blk_drew ?_ | refine blk_alloc ?_ _)); exact BK285.out⟩, ⟨by repeat (first | (with_reducible first | exact HB.out | apply below_alloc | apply pw_below_drewN | apply below_drew1 | refine below_set ?_ (IsS53.ge HI263.out) | refine below_set ?_ GE270.out | refine below_set ?_ GE271.out | refine below_set ?_ GE276.out | refine below_set ?_ GE281.out | refine below_set ?_ GE285.out) | exact HB.out)⟩⟩
   ·
    rw [if_neg c46] at H
    have c46b0 : (t280 == 0) = false := beq_eq_false_iff_ne.mpr c46
    have c46b1 : (t280 != 0) = true := bne_iff_ne.mpr c46
    (first | rw [c46b0] | (simp only [i64_w, i32_w]; rw [c46b0]) | skip)
    have H' := Aside0.mk H
    clear H
    go_wp2
    go_meet
    case rel => exact ⟨_, (true), (by first | rfl | (simp; done) | (simp [*]; done)), H', ⟨by first | omega | exact Nat.le_refl _⟩, ⟨by (with_reducible repeat (first | refine blk_drewN ?_ _ | refine blk_drew ?_ | refine blk_alloc ?_ _)); refine blk_far ?_ NB270_285.out _; (with_reducible repeat (first | refine blk_drewN ?_ _ | refine blk_drew ?_ | refine blk_alloc ?_ _)); refine blk_far ?_ NB270_285.out _; (with_reducible repeat (first | refine blk_drewN ?_ _ | refine blk_drew ?_ | refine blk_alloc ?_ _)); exact BK270.out⟩, ⟨by (with_reducible repeat (first | refine blk_drewN ?_ _ | refine blk_drew ?_ | refine blk_alloc ?_ _)); refine blk_far ?_ NB271_285.out _; (with_reducible repeat (first | refine blk_drewN ?_ _ | refine blk_drew ?_ | refine blk_alloc ?_ _)); refine blk_far ?_ NB271_285.out _; (with_reducible repeat (first | refine blk_drewN ?_ _ | refine blk_drew ?_ | refine blk_alloc ?_ _)); exact BK271.out⟩, ⟨by (with_reducible repeat (first | refine blk_drewN ?_ _ | refine blk_drew ?_ | refine blk_alloc ?_ _)); refine blk_far ?_ NB276_285.out _; (with_reducible repeat (first | refine blk_drewN ?_ _ | refine blk_drew ?_ | refine blk_alloc ?_ _)); refine blk_far ?_ NB276_285.out _; (with_reducible repeat (first | refine blk_drewN ?_ _ | refine blk_drew ?_ | refine blk_alloc ?_ _)); exact BK276.out⟩, ⟨by (with_reducible repeat (first | refine blk_drewN ?_ _ | refine blk_drew ?_ | refine blk_alloc ?_ _)); refine blk_far ?_ NB281_285.out _; (with_reducible repeat (first | refine blk_drewN ?_ _ | refine blk_drew ?_ | refine blk_alloc ?_ _)); refine blk_far ?_ NB281_285.out _; (with_reducible repeat (first | refine blk_drewN ?_ _ | refine blk_drew ?_ | refine blk_alloc ?_ _)); exact BK281.out⟩, ⟨by (with_reducible repeat (first | refine blk_drewN ?_ _ | refine blk_drew ?_ | refine blk_alloc ?_ _)); refine blk_put (cs := #[.int .i64 t282, .int .i64 0]) ?_ 1 _ rfl; (with_reducible repeat (first | refine blk_drewN ?_ _ | refine blk_drew ?_ | refine blk_alloc ?_ _)); refine blk_put (cs := #[.int .i64 0, .int .i64 0]) ?_ 0 _ rfl; (with_reducible repeat (first | refine blk_drewN ?_ _ | refine blk_drew ?_ | refine blk_alloc ?_ _)); exact BK285.out⟩, ⟨by repeat (first | (with_reducible first | exact HB.out | apply below_alloc | apply pw_below_drewN | apply below_drew1 | refine below_set ?_ (IsS53.ge HI263.out) | refine below_set ?_ GE270.out | refine below_set ?_ GE271.out | refine below_set ?_ GE276.out | refine below_set ?_ GE281.out | refine below_set ?_ GE285.out) | exact HB.out)⟩⟩
  case rest =>
   clear HC11
   try clear c1
   try clear c2
   try clear p2
   try clear c3
   try clear c4
   try clear c8
   try clear c8b0
   try clear c8b1
   try clear c9
   try clear c11
   try clear c12
   try clear c17
   try clear c18
   try clear c20
   try clear c21
   try clear c22
   try clear c23
   try clear c24
   try clear c25
   try clear c26
   try clear c28
   try clear c29
   try clear c31
   try clear c32
   try clear c33
   try clear c34
   try clear c40
   try clear c41
   try clear c42
   try clear c43
   try clear c44
   try clear c46
   try clear c46b0
   try clear c46b1
   try clear hcz19_0
   try clear hcz19_1
   try clear hcz21_0
   try clear hcz21_1
   try clear hcz27_0
   try clear hcz27_1
   try clear hcz28_0
   try clear hcz28_1
   try clear hcz35_0
   try clear hcz35_1
   try clear hcz36_0
   try clear hcz36_1
   try clear hcz37_0
   try clear hcz37_1
   try clear hcz45_0
   try clear hcz45_1
   try clear hfz19_0
   try clear hfz19_1
   try clear hfz21_0
   try clear hfz21_1
   try clear hfz27_0
   try clear hfz27_1
   try clear hfz28_0
   try clear hfz28_1
   try clear hfz35_0
   try clear hfz35_1
   try clear hfz36_0
   try clear hfz36_1
   try clear hfz37_0
   try clear hfz37_1
   try clear hfz45_0
   try clear hfz45_1
   obtain ⟨kq, x59_10, rfl, HA, HJ10, BK270, BK271, BK276, BK281, BK285, HB⟩ := hcut
   cases kq with
   | zero => exact absurd HA.out (by simp [payrolllaw2_RoundingNearest.j0])
   | succ kj10 =>
    have H := HA.out
    clear HA
    simp only [payrolllaw2_RoundingNearest.j0] at H
    by_cases c47 : x59_10 = true
    ·
     subst c47
     have H1 : ((payrolllaw2_sane.f kj10).bind fun t286 => (some t286)) = some r := by rw [if_pos rfl] at H; exact H
     clear H
     have H := H1
     clear H1
     replace H := Option.bind_eq_some_iff.mp H
     obtain ⟨t286, A480, H⟩ := H
     replace H : (some t286) = some r := H
     have A48 := Aside0.mk A480
     clear A480
     obtain rfl := Option.some.inj H
     go_wp2_with (first | ((with_reducible refine gate_callee (f := 17) rfl ?_); refine gq_ (some 60) rfl rfl Try.func17 #[] rfl ?_; (with_reducible refine (payrolllaw2_sane.calls kj10  t286 _ A48.out).mono ?_); rintro e w49 ⟨rfl, hb⟩; refine ⟨_, rfl, ?_⟩; replace BK270 := tb_ BK270 hb; replace BK271 := tb_ BK271 hb; replace BK276 := tb_ BK276 hb; replace BK281 := tb_ BK281 hb; replace BK285 := tb_ BK285 hb; replace HB := ts_ HB hb; (try clear hb); (try clear hb2); (try clear hk); (try clear hi)))
     go_ret
     exact ⟨by first | rfl | (simp [errW_none, errW_some] <;> rfl) | (simp [*, errW_none, errW_some] <;> rfl), be_ HB⟩
    ·
     as_aux_lemma =>
     replace c47 := Bool.eq_false_iff.mpr c47
     subst c47
     have H1 : (if t282 < 0 then (payrolllaw2_RoundingNearest.j1 kj10 t272 t264 t265 t267 t268 t278 t279 t282 t283 (wrap64 (-t282)) t283) else (payrolllaw2_RoundingNearest.j1 kj10 t272 t264 t265 t267 t268 t278 t279 t282 t283 t282 t283)) = some r := by rw [if_neg (show ¬ (false = true) by decide)] at H; exact H
     clear H
     have H := H1
     clear H1
     have HC50 := Aside0.mk H
     clear H
     have hnb51 := NB285_270.out
     have hnc51 := NB270_285.out
     have hnb52 := NB285_271.out
     have hnc52 := NB271_285.out
     have hnb53 := NB285_276.out
     have hnc53 := NB276_285.out
     have hnb54 := NB285_281.out
     have hnc54 := NB281_285.out
     have hcz55_0 : wc.cell? ⟨gb285, 0, none⟩ = some (.int .i64 t282) := (blk_cell BK285.out 0).trans rfl
     have hcz55_1 : wc.cell? ⟨gb285, 1, none⟩ = some (.int .i64 t283) := (blk_cell BK285.out 1).trans rfl
     have hfz55_0 := blk_frozen BK285.out 0
     have hfz55_1 := blk_frozen BK285.out 1
     go_upto_if 64 with (first | ((with_reducible refine gate_dst (N := 15) rfl ?_); refine bx_ (N := 15) (cs := #[.int .i64 0, .int .i64 0]) (t := 41) ?_; intro gb287 hg w56 hbox hb; have BK287 := Aside0.mk (hbox); have GW287 := sz_ HB hg; have GE287 := sz_ HB hg; have NB270_287 := nl_ BK270 hg; have NB287_270 := nr_ BK270 hg; have NB271_287 := nl_ BK271 hg; have NB287_271 := nr_ BK271 hg; have NB276_287 := nl_ BK276 hg; have NB287_276 := nr_ BK276 hg; have NB281_287 := nl_ BK281 hg; have NB287_281 := nr_ BK281 hg; have NB285_287 := nl_ BK285 hg; have NB287_285 := nr_ BK285 hg; replace BK270 := tb_ BK270 hb; replace BK271 := tb_ BK271 hb; replace BK276 := tb_ BK276 hb; replace BK281 := tb_ BK281 hb; replace BK285 := tb_ BK285 hb; replace HB := ts_ HB hb; clear hb hbox hg; have hnb57 := NB287_270.out; have hnc57 := NB270_287.out; have hnb58 := NB287_271.out; have hnc58 := NB271_287.out; have hnb59 := NB287_276.out; have hnc59 := NB276_287.out; have hnb60 := NB287_281.out; have hnc60 := NB281_287.out; have hnb61 := NB287_285.out; have hnc61 := NB285_287.out; have hcz62_0 : w56.cell? ⟨gb287, 0, none⟩ = some (.int .i64 0) := (blk_cell BK287.out 0).trans rfl; have hcz62_1 : w56.cell? ⟨gb287, 1, none⟩ = some (.int .i64 0) := (blk_cell BK287.out 1).trans rfl; have hfz62_0 := blk_frozen BK287.out 0; have hfz62_1 := blk_frozen BK287.out 1; have hcz63_0 : w56.cell? ⟨gb285, 0, none⟩ = some (.int .i64 t282) := (blk_cell BK285.out 0).trans rfl; have hcz63_1 : w56.cell? ⟨gb285, 1, none⟩ = some (.int .i64 t283) := (blk_cell BK285.out 1).trans rfl; have hfz63_0 := blk_frozen BK285.out 0; have hfz63_1 := blk_frozen BK285.out 1))
     (try simp only [Act.put, List.setIfInBounds_toArray, List.set_cons_zero, List.set_cons_succ])
     go_cut [] (fun wc => ∃ (kq : Nat) (x288000_49 : Int), Aside0 (payrolllaw2_RoundingNearest.j1 kq t272 t264 t265 t267 t268 t278 t279 t282 t283 x288000_49 t283 = some r) ∧ Aside0 (kq ≤ kj10) ∧ Aside0 (wc.heap[gb270]? = some (.cells #[.int .i64 t264, .int .i64 t265] 41 (0, 0))) ∧ Aside0 (wc.heap[gb271]? = some (.cells #[.int .i64 t267, .int .i64 t268] 41 (0, 0))) ∧ Aside0 (wc.heap[gb276]? = some (.cells #[.int .i64 t273, .int .i64 t274] 41 (0, 0))) ∧ Aside0 (wc.heap[gb281]? = some (.cells #[.int .i64 t278, .int .i64 t279] 41 (0, 0))) ∧ Aside0 (wc.heap[gb285]? = some (.cells #[.int .i64 t282, .int .i64 t283] 41 (0, 0))) ∧ Aside0 (wc.heap[gb287]? = some (.cells #[.int .i64 x288000_49, .int .i64 t283] 41 (0, 0))) ∧ Aside0 (Below w.heap.size w wc))
     case first =>
      have H := HC50.out
      clear HC50
      by_cases c64 : t282 < 0
      ·
       rw [if_pos c64] at H
       have c64b0 : decide (t282 < 0) = true := decide_eq_true c64
       clear c64
       (first | rw [c64b0] | (simp only [i64_w, i32_w]; rw [c64b0]) | skip)
       have H' := Aside0.mk H
       clear H
       have hnb65 := NB285_270.out
       have hnc65 := NB270_285.out
       have hnb66 := NB285_271.out
       have hnc66 := NB271_285.out
       have hnb67 := NB285_276.out
       have hnc67 := NB276_285.out
       have hnb68 := NB285_281.out
       have hnc68 := NB281_285.out
       have hnb69 := NB285_287.out
       have hnc69 := NB287_285.out
       have hcz70_0 : w56.cell? ⟨gb285, 0, none⟩ = some (.int .i64 t282) := (blk_cell BK285.out 0).trans rfl
       have hcz70_1 : w56.cell? ⟨gb285, 1, none⟩ = some (.int .i64 t283) := (blk_cell BK285.out 1).trans rfl
       have hfz70_0 := blk_frozen BK285.out 0
       have hfz70_1 := blk_frozen BK285.out 1
       have hnb71 := NB287_270.out
       have hnc71 := NB270_287.out
       have hnb72 := NB287_271.out
       have hnc72 := NB271_287.out
       have hnb73 := NB287_276.out
       have hnc73 := NB276_287.out
       have hnb74 := NB287_281.out
       have hnc74 := NB281_287.out
       have hcz75_0 : w56.cell? ⟨gb287, 0, none⟩ = some (.int .i64 0) := (blk_cell BK287.out 0).trans rfl
       have hcz75_1 : w56.cell? ⟨gb287, 1, none⟩ = some (.int .i64 0) := (blk_cell BK287.out 1).trans rfl
       have hfz75_0 := blk_frozen BK287.out 0
       have hfz75_1 := blk_frozen BK287.out 1
       go_wp2
       go_meet
       case rel => exact ⟨_, (wrap64 (-t282)), H', ⟨by have := HJ10.out; first | omega | exact Nat.le_refl _⟩, ⟨by (with_reducible repeat (first | refine blk_drewN ?_ _ | refine blk_drew ?_ | refine blk_alloc ?_ _)); refine blk_far ?_ NB270_287.out _; (with_reducible repeat (first | refine blk_drewN ?_ _ | refine blk_drew ?_ | refine blk_alloc ?_ _)); refine blk_far ?_ NB270_287.out _; (with_reducible repeat (first | refine blk_drewN ?_ _ | refine blk_drew ?_ | refine blk_alloc ?_ _)); refine blk_far ?_ NB270_287.out _; (with_reducible repeat (first | refine blk_drewN ?_ _ | refine blk_drew ?_ | refine blk_alloc ?_ _)); exact BK270.out⟩, ⟨by (with_reducible repeat (first | refine blk_drewN ?_ _ | refine blk_drew ?_ | refine blk_alloc ?_ _)); refine blk_far ?_ NB271_287.out _; (with_reducible repeat (first | refine blk_drewN ?_ _ | refine blk_drew ?_ | refine blk_alloc ?_ _)); refine blk_far ?_ NB271_287.out _; (with_reducible repeat (first | refine blk_drewN ?_ _ | refine blk_drew ?_ | refine blk_alloc ?_ _)); refine blk_far ?_ NB271_287.out _; (with_reducible repeat (first | refine blk_drewN ?_ _ | refine blk_drew ?_ | refine blk_alloc ?_ _)); exact BK271.out⟩, ⟨by (with_reducible repeat (first | refine blk_drewN ?_ _ | refine blk_drew ?_ | refine blk_alloc ?_ _)); refine blk_far ?_ NB276_287.out _; (with_reducible repeat (first | refine blk_drewN ?_ _ | refine blk_drew ?_ | refine blk_alloc ?_ _)); refine blk_far ?_ NB276_287.out _; (with_reducible repeat (first | refine blk_drewN ?_ _ | refine blk_drew ?_ | refine blk_alloc ?_ _)); refine blk_far ?_ NB276_287.out _; (with_reducible repeat (first | refine blk_drewN ?_ _ | refine blk_drew ?_ | refine blk_alloc ?_ _)); exact BK276.out⟩, ⟨by (with_reducible repeat (first | refine blk_drewN ?_ _ | refine blk_drew ?_ | refine blk_alloc ?_ _)); refine blk_far ?_ NB281_287.out _; (with_reducible repeat (first | refine blk_drewN ?_ _ | refine blk_drew ?_ | refine blk_alloc ?_ _)); refine blk_far ?_ NB281_287.out _; (with_reducible repeat (first | refine blk_drewN ?_ _ | refine blk_drew ?_ | refine blk_alloc ?_ _)); refine blk_far ?_ NB281_287.out _; (with_reducible repeat (first | refine blk_drewN ?_ _ | refine blk_drew ?_ | refine blk_alloc ?_ _)); exact BK281.out⟩, ⟨by (with_reducible repeat (first | refine blk_drewN ?_ _ | refine blk_drew ?_ | refine blk_alloc ?_ _)); refine blk_far ?_ NB285_287.out _; (with_reducible repeat (first | refine blk_drewN ?_ _ | refine blk_drew ?_ | refine blk_alloc ?_ _)); refine blk_far ?_ NB285_287.out _; (with_reducible repeat (first | refine blk_drewN ?_ _ | refine blk_drew ?_ | refine blk_alloc ?_ _)); refine blk_far ?_ NB285_287.out _; (with_reducible repeat (first | refine blk_drewN ?_ _ | refine blk_drew ?_ | refine blk_alloc ?_ _)); exact BK285.out⟩, ⟨by (with_reducible repeat (first | refine blk_drewN ?_ _ | refine blk_drew ?_ | refine blk_alloc ?_ _)); refine blk_put (cs := #[.int .i64 t282, .int .i64 t283]) ?_ 0 _ rfl; (with_reducible repeat (first | refine blk_drewN ?_ _ | refine blk_drew ?_ | refine blk_alloc ?_ _)); refine blk_put (cs := #[.int .i64 t282, .int .i64 0]) ?_ 1 _ rfl; (with_reducible repeat (first | refine blk_drewN ?_ _ | refine blk_drew ?_ | refine blk_alloc ?_ _)); refine blk_put (cs := #[.int .i64 0, .int .i64 0]) ?_ 0 _ rfl; (with_reducible repeat (first | refine blk_drewN ?_ _ | refine blk_drew ?_ | refine blk_alloc ?_ _)); exact BK287.out⟩, ⟨by repeat (first | (with_reducible first | exact HB.out | apply below_alloc | apply pw_below_drewN | apply below_drew1 | refine below_set ?_ GE270.out | refine below_set ?_ GE271.out | refine below_set ?_ GE276.out | refine below_set ?_ GE281.out | refine below_set ?_ GE285.out | refine below_set ?_ GE287.out) | exact HB.out)⟩⟩
      ·
       rw [if_neg c64] at H
       have c64b0 : decide (t282 < 0) = false := decide_eq_false c64
       clear c64
       (first | rw [c64b0] | (simp only [i64_w, i32_w]; rw [c64b0]) | skip)
       have H' := Aside0.mk H
       clear H
       go_wp2
       go_meet
       case rel => exact ⟨_, (t282), H', ⟨by have := HJ10.out; first | omega | exact Nat.le_refl _⟩, ⟨by (with_reducible repeat (first | refine blk_drewN ?_ _ | refine blk_drew ?_ | refine blk_alloc ?_ _)); refine blk_far ?_ NB270_287.out _; (with_reducible repeat (first | refine blk_drewN ?_ _ | refine blk_drew ?_ | refine blk_alloc ?_ _)); refine blk_far ?_ NB270_287.out _; (with_reducible repeat (first | refine blk_drewN ?_ _ | refine blk_drew ?_ | refine blk_alloc ?_ _)); exact BK270.out⟩, ⟨by (with_reducible repeat (first | refine blk_drewN ?_ _ | refine blk_drew ?_ | refine blk_alloc ?_ _)); refine blk_far ?_ NB271_287.out _; (with_reducible repeat (first | refine blk_drewN ?_ _ | refine blk_drew ?_ | refine blk_alloc ?_ _)); refine blk_far ?_ NB271_287.out _; (with_reducible repeat (first | refine blk_drewN ?_ _ | refine blk_drew ?_ | refine blk_alloc ?_ _)); exact BK271.out⟩, ⟨by (with_reducible repeat (first | refine blk_drewN ?_ _ | refine blk_drew ?_ | refine blk_alloc ?_ _)); refine blk_far ?_ NB276_287.out _; (with_reducible repeat (first | refine blk_drewN ?_ _ | refine blk_drew ?_ | refine blk_alloc ?_ _)); refine blk_far ?_ NB276_287.out _; (with_reducible repeat (first | refine blk_drewN ?_ _ | refine blk_drew ?_ | refine blk_alloc ?_ _)); exact BK276.out⟩, ⟨by (with_reducible repeat (first | refine blk_drewN ?_ _ | refine blk_drew ?_ | refine blk_alloc ?_ _)); refine blk_far ?_ NB281_287.out _; (with_reducible repeat (first | refine blk_drewN ?_ _ | refine blk_drew ?_ | refine blk_alloc ?_ _)); refine blk_far ?_ NB281_287.out _; (with_reducible repeat (first | refine blk_drewN ?_ _ | refine blk_drew ?_ | refine blk_alloc ?_ _)); exact BK281.out⟩, ⟨by (with_reducible repeat (first | refine blk_drewN ?_ _ | refine blk_drew ?_ | refine blk_alloc ?_ _)); refine blk_far ?_ NB285_287.out _; (with_reducible repeat (first | refine blk_drewN ?_ _ | refine blk_drew ?_ | refine blk_alloc ?_ _)); refine blk_far ?_ NB285_287.out _; (with_reducible repeat (first | refine blk_drewN ?_ _ | refine blk_drew ?_ | refine blk_alloc ?_ _)); exact BK285.out⟩, ⟨by (with_reducible repeat (first | refine blk_drewN ?_ _ | refine blk_drew ?_ | refine blk_alloc ?_ _)); refine blk_put (cs := #[.int .i64 t282, .int .i64 0]) ?_ 1 _ rfl; (with_reducible repeat (first | refine blk_drewN ?_ _ | refine blk_drew ?_ | refine blk_alloc ?_ _)); refine blk_put (cs := #[.int .i64 0, .int .i64 0]) ?_ 0 _ rfl; (with_reducible repeat (first | refine blk_drewN ?_ _ | refine blk_drew ?_ | refine blk_alloc ?_ _)); exact BK287.out⟩, ⟨by repeat (first | (with_reducible first | exact HB.out | apply below_alloc | apply pw_below_drewN | apply below_drew1 | refine below_set ?_ GE270.out | refine below_set ?_ GE271.out | refine below_set ?_ GE276.out | refine below_set ?_ GE281.out | refine below_set ?_ GE285.out | refine below_set ?_ GE287.out) | exact HB.out)⟩⟩
     case rest =>
      clear HC50
      try clear c1
      try clear c2
      try clear p2
      try clear c3
      try clear c4
      try clear c5
      try clear c6
      try clear p6
      try clear c7
      try clear c8
      try clear c8b0
      try clear c8b1
      try clear c9
      try clear c11
      try clear c12
      try clear c17
      try clear c18
      try clear c20
      try clear c21
      try clear c22
      try clear c23
      try clear c24
      try clear c25
      try clear c26
      try clear c28
      try clear c29
      try clear c31
      try clear c32
      try clear c33
      try clear c34
      try clear c40
      try clear c41
      try clear c42
      try clear c43
      try clear c44
      try clear c46
      try clear c46b0
      try clear c46b1
      try clear c47
      try clear c51
      try clear c52
      try clear c53
      try clear c54
      try clear c57
      try clear c58
      try clear c59
      try clear c60
      try clear c61
      try clear c64
      try clear c64b0
      try clear p64
      try clear c65
      try clear c66
      try clear c67
      try clear c68
      try clear c69
      try clear c71
      try clear c72
      try clear c73
      try clear c74
      try clear hcz19_0
      try clear hcz19_1
      try clear hcz21_0
      try clear hcz21_1
      try clear hcz27_0
      try clear hcz27_1
      try clear hcz28_0
      try clear hcz28_1
      try clear hcz35_0
      try clear hcz35_1
      try clear hcz36_0
      try clear hcz36_1
      try clear hcz37_0
      try clear hcz37_1
      try clear hcz45_0
      try clear hcz45_1
      try clear hcz55_0
      try clear hcz55_1
      try clear hcz62_0
      try clear hcz62_1
      try clear hcz63_0
      try clear hcz63_1
      try clear hcz70_0
      try clear hcz70_1
      try clear hcz75_0
      try clear hcz75_1
      try clear hfz19_0
      try clear hfz19_1
      try clear hfz21_0
      try clear hfz21_1
      try clear hfz27_0
      try clear hfz27_1
      try clear hfz28_0
      try clear hfz28_1
      try clear hfz35_0
      try clear hfz35_1
      try clear hfz36_0
      try clear hfz36_1
      try clear hfz37_0
      try clear hfz37_1
      try clear hfz45_0
      try clear hfz45_1
      try clear hfz55_0
      try clear hfz55_1
      try clear hfz62_0
      try clear hfz62_1
      try clear hfz63_0
      try clear hfz63_1
      try clear hfz70_0
      try clear hfz70_1
      try clear hfz75_0
      try clear hfz75_1
      try clear p2
      obtain ⟨kq, x288000_49, HA, HJ49, BK270, BK271, BK276, BK281, BK285, BK287, HB⟩ := hcut
      cases kq with
      | zero => exact absurd HA.out (by simp [payrolllaw2_RoundingNearest.j1])
      | succ kj49 =>
       have H := HA.out
       clear HA
       simp only [payrolllaw2_RoundingNearest.j1] at H
       have HC76 := Aside0.mk H
       clear H
       go_upto_region 14 with (fail)
       go_cut [77] (fun v77 wc => ∃ (kq : Nat) (x77_75 : Bool), v77 = .bool x77_75 ∧ Aside0 (payrolllaw2_RoundingNearest.j2 kq t272 x77_75 t264 t265 t267 t268 t278 t279 t282 t283 x288000_49 t283 = some r) ∧ Aside0 (kq ≤ kj49) ∧ Aside0 (wc.heap[gb270]? = some (.cells #[.int .i64 t264, .int .i64 t265] 41 (0, 0))) ∧ Aside0 (wc.heap[gb271]? = some (.cells #[.int .i64 t267, .int .i64 t268] 41 (0, 0))) ∧ Aside0 (wc.heap[gb276]? = some (.cells #[.int .i64 t273, .int .i64 t274] 41 (0, 0))) ∧ Aside0 (wc.heap[gb281]? = some (.cells #[.int .i64 t278, .int .i64 t279] 41 (0, 0))) ∧ Aside0 (wc.heap[gb285]? = some (.cells #[.int .i64 t282, .int .i64 t283] 41 (0, 0))) ∧ Aside0 (wc.heap[gb287]? = some (.cells #[.int .i64 x288000_49, .int .i64 t283] 41 (0, 0))) ∧ Aside0 (Below w.heap.size w wc))
       case first =>
        have H := HC76.out
        clear HC76
        by_cases c77 : t279 = 1
        ·
         rw [if_pos c77] at H
         have c77b0 : (t279 == 1) = true := beq_iff_eq.mpr c77
         have c77b1 : (t279 != 1) = false := bne_eq_false_iff_eq.mpr c77
         clear c77
         (first | rw [c77b0] | (simp only [i64_w, i32_w]; rw [c77b0]) | skip)
         replace H := Option.bind_eq_some_iff.mp H
         obtain ⟨t288, A780, H⟩ := H
         replace H : (payrolllaw2_RoundingNearest.j2 kj49 t272 (decide (t288 ≥ 0)) t264 t265 t267 t268 t278 t279 t282 t283 x288000_49 t283) = some r := H
         have A78 := Aside0.mk A780
         clear A780
         have H' := Aside0.mk H
         clear H
         have hnb79 := NB281_270.out
         have hnc79 := NB270_281.out
         have hnb80 := NB281_271.out
         have hnc80 := NB271_281.out
         have hnb81 := NB281_276.out
         have hnc81 := NB276_281.out
         have hnb82 := NB281_285.out
         have hnc82 := NB285_281.out
         have hnb83 := NB281_287.out
         have hnc83 := NB287_281.out
         have hcz84_0 : wc.cell? ⟨gb281, 0, none⟩ = some (.int .i64 t278) := (blk_cell BK281.out 0).trans rfl
         have hcz84_1 : wc.cell? ⟨gb281, 1, none⟩ = some (.int .i64 t279) := (blk_cell BK281.out 1).trans rfl
         have hfz84_0 := blk_frozen BK281.out 0
         have hfz84_1 := blk_frozen BK281.out 1
         have hnb85 := NB287_270.out
         have hnc85 := NB270_287.out
         have hnb86 := NB287_271.out
         have hnc86 := NB271_287.out
         have hnb87 := NB287_276.out
         have hnc87 := NB276_287.out
         have hnb88 := NB287_285.out
         have hnc88 := NB285_287.out
         have hcz89_0 : wc.cell? ⟨gb287, 0, none⟩ = some (.int .i64 x288000_49) := (blk_cell BK287.out 0).trans rfl
         have hcz89_1 : wc.cell? ⟨gb287, 1, none⟩ = some (.int .i64 t283) := (blk_cell BK287.out 1).trans rfl
         have hfz89_0 := blk_frozen BK287.out 0
         have hfz89_1 := blk_frozen BK287.out 1
         have hnb90 := NB271_270.out
         have hnc90 := NB270_271.out
         have hnb91 := NB271_276.out
         have hnc91 := NB276_271.out
         have hnb92 := NB271_285.out
         have hnc92 := NB285_271.out
         have hcz93_0 : wc.cell? ⟨gb271, 0, none⟩ = some (.int .i64 t267) := (blk_cell BK271.out 0).trans rfl
         have hcz93_1 : wc.cell? ⟨gb271, 1, none⟩ = some (.int .i64 t268) := (blk_cell BK271.out 1).trans rfl
         have hfz93_0 := blk_frozen BK271.out 0
         have hfz93_1 := blk_frozen BK271.out 1
         go_wp2_with (first | (go_at_call 24; (with_reducible refine (ratio_Compare.calls kj49 x288000_49 t283 t267 t268 t288 _ A78.out).mono ?_); rintro e w94 ⟨rfl, hb⟩; replace BK270 := tb_ BK270 hb; replace BK271 := tb_ BK271 hb; replace BK276 := tb_ BK276 hb; replace BK281 := tb_ BK281 hb; replace BK285 := tb_ BK285 hb; replace BK287 := tb_ BK287 hb; replace HB := ts_ HB hb; (try clear hb); (try clear hb2); (try clear hk); (try clear hi)))
         go_meet
         case rel => exact ⟨_, (decide (t288 ≥ 0)), (by first | rfl | (simp; done) | (simp [*]; done)), H', ⟨by have := HJ10.out; have := HJ49.out; first | omega | exact Nat.le_refl _⟩, ⟨by (with_reducible repeat (first | refine blk_drewN ?_ _ | refine blk_drew ?_ | refine blk_alloc ?_ _)); exact BK270.out⟩, ⟨by (with_reducible repeat (first | refine blk_drewN ?_ _ | refine blk_drew ?_ | refine blk_alloc ?_ _)); exact BK271.out⟩, ⟨by (with_reducible repeat (first | refine blk_drewN ?_ _ | refine blk_drew ?_ | refine blk_alloc ?_ _)); exact BK276.out⟩, ⟨by (with_reducible repeat (first | refine blk_drewN ?_ _ | refine blk_drew ?_ | refine blk_alloc ?_ _)); exact BK281.out⟩, ⟨by (with_reducible repeat (first | refine blk_drewN ?_ _ | refine blk_drew ?_ | refine blk_alloc ?_ _)); exact BK285.out⟩, ⟨by (with_reducible repeat (first | refine blk_drewN ?_ _ | refine blk_drew ?_ | refine blk_alloc ?_ _)); exact BK287.out⟩, ⟨by repeat (first | (with_reducible first | exact HB.out | apply below_alloc | apply pw_below_drewN | apply below_drew1 | refine below_set ?_ GE270.out | refine below_set ?_ GE271.out | refine below_set ?_ GE276.out | refine below_set ?_ GE281.out | refine below_set ?_ GE285.out | refine below_set ?_ GE287.out) | exact HB.out)⟩⟩
        ·
         rw [if_neg c77] at H
         have c77b0 : (t279 == 1) = false := beq_eq_false_iff_ne.mpr c77
         have c77b1 : (t279 != 1) = true := bne_iff_ne.mpr c77
         (first | rw [c77b0] | (simp only [i64_w, i32_w]; rw [c77b0]) | skip)
         have H' := Aside0.mk H
         clear H
         have hnb95 := NB281_270.out
         have hnc95 := NB270_281.out
         have hnb96 := NB281_271.out
         have hnc96 := NB271_281.out
         have hnb97 := NB281_276.out
         have hnc97 := NB276_281.out
         have hnb98 := NB281_285.out
         have hnc98 := NB285_281.out
         have hnb99 := NB281_287.out
         have hnc99 := NB287_281.out
         have hcz100_0 : wc.cell? ⟨gb281, 0, none⟩ = some (.int .i64 t278) := (blk_cell BK281.out 0).trans rfl
         have hcz100_1 : wc.cell? ⟨gb281, 1, none⟩ = some (.int .i64 t279) := (blk_cell BK281.out 1).trans rfl
         have hfz100_0 := blk_frozen BK281.out 0
         have hfz100_1 := blk_frozen BK281.out 1
         go_wp2
         go_meet
         case rel => exact ⟨_, (true), (by first | rfl | (simp; done) | (simp [*]; done)), H', ⟨by have := HJ10.out; have := HJ49.out; first | omega | exact Nat.le_refl _⟩, ⟨by (with_reducible repeat (first | refine blk_drewN ?_ _ | refine blk_drew ?_ | refine blk_alloc ?_ _)); exact BK270.out⟩, ⟨by (with_reducible repeat (first | refine blk_drewN ?_ _ | refine blk_drew ?_ | refine blk_alloc ?_ _)); exact BK271.out⟩, ⟨by (with_reducible repeat (first | refine blk_drewN ?_ _ | refine blk_drew ?_ | refine blk_alloc ?_ _)); exact BK276.out⟩, ⟨by (with_reducible repeat (first | refine blk_drewN ?_ _ | refine blk_drew ?_ | refine blk_alloc ?_ _)); exact BK281.out⟩, ⟨by (with_reducible repeat (first | refine blk_drewN ?_ _ | refine blk_drew ?_ | refine blk_alloc ?_ _)); exact BK285.out⟩, ⟨by (with_reducible repeat (first | refine blk_drewN ?_ _ | refine blk_drew ?_ | refine blk_alloc ?_ _)); exact BK287.out⟩, ⟨by repeat (first | (with_reducible first | exact HB.out | apply below_alloc | apply pw_below_drewN | apply below_drew1 | refine below_set ?_ GE270.out | refine below_set ?_ GE271.out | refine below_set ?_ GE276.out | refine below_set ?_ GE281.out | refine below_set ?_ GE285.out | refine below_set ?_ GE287.out) | exact HB.out)⟩⟩
       case rest =>
        clear HC76
        try clear c1
        try clear c2
        try clear p2
        try clear c3
        try clear c4
        try clear c5
        try clear c6
        try clear p6
        try clear c7
        try clear c8
        try clear c8b0
        try clear c8b1
        try clear c9
        try clear c11
        try clear c12
        try clear c17
        try clear c18
        try clear c20
        try clear c21
        try clear c22
        try clear c23
        try clear c24
        try clear c25
        try clear c26
        try clear c28
        try clear c29
        try clear c31
        try clear c32
        try clear c33
        try clear c34
        try clear c40
        try clear c41
        try clear c42
        try clear c43
        try clear c44
        try clear c46
        try clear c46b0
        try clear c46b1
        try clear c47
        try clear c51
        try clear c52
        try clear c53
        try clear c54
        try clear c57
        try clear c58
        try clear c59
        try clear c60
        try clear c61
        try clear c64
        try clear c64b0
        try clear p64
        try clear c65
        try clear c66
        try clear c67
        try clear c68
        try clear c69
        try clear c71
        try clear c72
        try clear c73
        try clear c74
        try clear c77
        try clear c77b0
        try clear c77b1
        try clear c79
        try clear c80
        try clear c81
        try clear c82
        try clear c83
        try clear c85
        try clear c86
        try clear c87
        try clear c88
        try clear c90
        try clear c91
        try clear c92
        try clear c95
        try clear c96
        try clear c97
        try clear c98
        try clear c99
        try clear hcz100_0
        try clear hcz100_1
        try clear hcz19_0
        try clear hcz19_1
        try clear hcz21_0
        try clear hcz21_1
        try clear hcz27_0
        try clear hcz27_1
        try clear hcz28_0
        try clear hcz28_1
        try clear hcz35_0
        try clear hcz35_1
        try clear hcz36_0
        try clear hcz36_1
        try clear hcz37_0
        try clear hcz37_1
        try clear hcz45_0
        try clear hcz45_1
        try clear hcz55_0
        try clear hcz55_1
        try clear hcz62_0
        try clear hcz62_1
        try clear hcz63_0
        try clear hcz63_1
        try clear hcz70_0
        try clear hcz70_1
        try clear hcz75_0
        try clear hcz75_1
        try clear hcz84_0
        try clear hcz84_1
        try clear hcz89_0
        try clear hcz89_1
        try clear hcz93_0
        try clear hcz93_1
        try clear hfz100_0
        try clear hfz100_1
        try clear hfz19_0
        try clear hfz19_1
        try clear hfz21_0
        try clear hfz21_1
        try clear hfz27_0
        try clear hfz27_1
        try clear hfz28_0
        try clear hfz28_1
        try clear hfz35_0
        try clear hfz35_1
        try clear hfz36_0
        try clear hfz36_1
        try clear hfz37_0
        try clear hfz37_1
        try clear hfz45_0
        try clear hfz45_1
        try clear hfz55_0
        try clear hfz55_1
        try clear hfz62_0
        try clear hfz62_1
        try clear hfz63_0
        try clear hfz63_1
        try clear hfz70_0
        try clear hfz70_1
        try clear hfz75_0
        try clear hfz75_1
        try clear hfz84_0
        try clear hfz84_1
        try clear hfz89_0
        try clear hfz89_1
        try clear hfz93_0
        try clear hfz93_1
        try clear p2
        try clear p6
        try clear p64
        obtain ⟨kq, x77_75, rfl, HA, HJ75, BK270, BK271, BK276, BK281, BK285, BK287, HB⟩ := hcut
        cases kq with
        | zero => exact absurd HA.out (by simp [payrolllaw2_RoundingNearest.j2])
        | succ kj75 =>
         have H := HA.out
         clear HA
         simp only [payrolllaw2_RoundingNearest.j2] at H
         by_cases c101 : x77_75 = true
         ·
          subst c101
          have H1 : (some false) = some r := by rw [if_pos rfl] at H; exact H
          clear H
          have H := H1
          clear H1
          obtain rfl := Option.some.inj H
          go_wp2
          go_ret
          exact ⟨by first | rfl | (simp [errW_none, errW_some] <;> rfl) | (simp [*, errW_none, errW_some] <;> rfl), be_ HB⟩
         ·
          as_aux_lemma =>
          replace c101 := Bool.eq_false_iff.mpr c101
          subst c101
          have H1 : ((ratio_Add.f kj75 x288000_49 t283 x288000_49 t283).bind fun bt289 => (if t272 = 2 then (if t282 ≤ 0 then ((payrolllaw2_sane.f kj75).bind fun t293 => (some t293)) else (some false)) else (if t272 = 3 then (if t282 ≥ 0 then ((payrolllaw2_sane.f kj75).bind fun t294 => (some t294)) else (some false)) else (if t272 = 0 then (if t282 = 0 then ((payrolllaw2_sane.f kj75).bind fun t295 => (some t295)) else (if ((decide (t282 < 0)) == (decide (t264 > 0))) = true then ((payrolllaw2_sane.f kj75).bind fun t296 => (some t296)) else (some false))) else (if t272 = 1 then (if t282 = 0 then ((payrolllaw2_sane.f kj75).bind fun t297 => (some t297)) else (if ((decide (t282 > 0)) == (decide (t264 > 0))) = true then ((payrolllaw2_sane.f kj75).bind fun t298 => (some t298)) else (some false))) else (if bt289.2.2 = 0 then ((ratio_Compare.f kj75 bt289.1 bt289.2.1 t267 t268).bind fun t300 => (if t272 = 4 then (if ((decide (t282 > 0)) == (decide (t264 > 0))) = true then (payrolllaw2_RoundingNearest.j3 kj75 t300 true) else (if t272 = 5 then (if ((decide (t282 < 0)) == (decide (t264 > 0))) = true then (payrolllaw2_RoundingNearest.j3 kj75 t300 true) else (if t272 = 6 then (payrolllaw2_RoundingNearest.j3 kj75 t300 ((Int.tmod t278 2) == 0)) else (payrolllaw2_RoundingNearest.j3 kj75 t300 false))) else (if t272 = 6 then (payrolllaw2_RoundingNearest.j3 kj75 t300 ((Int.tmod t278 2) == 0)) else (payrolllaw2_RoundingNearest.j3 kj75 t300 false)))) else (if t272 = 5 then (if ((decide (t282 < 0)) == (decide (t264 > 0))) = true then (payrolllaw2_RoundingNearest.j3 kj75 t300 true) else (if t272 = 6 then (payrolllaw2_RoundingNearest.j3 kj75 t300 ((Int.tmod t278 2) == 0)) else (payrolllaw2_RoundingNearest.j3 kj75 t300 false))) else (if t272 = 6 then (payrolllaw2_RoundingNearest.j3 kj75 t300 ((Int.tmod t278 2) == 0)) else (payrolllaw2_RoundingNearest.j3 kj75 t300 false))))) else ((payrolllaw2_sane.f kj75).bind fun t299 => (some t299)))))))) = some r := by rw [if_neg (show ¬ (false = true) by decide)] at H; exact H
          clear H
          have H := H1
          clear H1
          replace H := Option.bind_eq_some_iff.mp H
          obtain ⟨⟨t289, t290, t291⟩, A1020, H⟩ := H
          replace H : (if t272 = 2 then (if t282 ≤ 0 then ((payrolllaw2_sane.f kj75).bind fun t293 => (some t293)) else (some false)) else (if t272 = 3 then (if t282 ≥ 0 then ((payrolllaw2_sane.f kj75).bind fun t294 => (some t294)) else (some false)) else (if t272 = 0 then (if t282 = 0 then ((payrolllaw2_sane.f kj75).bind fun t295 => (some t295)) else (if ((decide (t282 < 0)) == (decide (t264 > 0))) = true then ((payrolllaw2_sane.f kj75).bind fun t296 => (some t296)) else (some false))) else (if t272 = 1 then (if t282 = 0 then ((payrolllaw2_sane.f kj75).bind fun t297 => (some t297)) else (if ((decide (t282 > 0)) == (decide (t264 > 0))) = true then ((payrolllaw2_sane.f kj75).bind fun t298 => (some t298)) else (some false))) else (if t291 = 0 then ((ratio_Compare.f kj75 t289 t290 t267 t268).bind fun t300 => (if t272 = 4 then (if ((decide (t282 > 0)) == (decide (t264 > 0))) = true then (payrolllaw2_RoundingNearest.j3 kj75 t300 true) else (if t272 = 5 then (if ((decide (t282 < 0)) == (decide (t264 > 0))) = true then (payrolllaw2_RoundingNearest.j3 kj75 t300 true) else (if t272 = 6 then (payrolllaw2_RoundingNearest.j3 kj75 t300 ((Int.tmod t278 2) == 0)) else (payrolllaw2_RoundingNearest.j3 kj75 t300 false))) else (if t272 = 6 then (payrolllaw2_RoundingNearest.j3 kj75 t300 ((Int.tmod t278 2) == 0)) else (payrolllaw2_RoundingNearest.j3 kj75 t300 false)))) else (if t272 = 5 then (if ((decide (t282 < 0)) == (decide (t264 > 0))) = true then (payrolllaw2_RoundingNearest.j3 kj75 t300 true) else (if t272 = 6 then (payrolllaw2_RoundingNearest.j3 kj75 t300 ((Int.tmod t278 2) == 0)) else (payrolllaw2_RoundingNearest.j3 kj75 t300 false))) else (if t272 = 6 then (payrolllaw2_RoundingNearest.j3 kj75 t300 ((Int.tmod t278 2) == 0)) else (payrolllaw2_RoundingNearest.j3 kj75 t300 false))))) else ((payrolllaw2_sane.f kj75).bind fun t299 => (some t299))))))) = some r := H
          have A102 := Aside0.mk A1020
          clear A1020
          by_cases c103 : t272 = 2
          ·
           as_aux_lemma =>
           rw [if_pos c103] at H
           have c103b0 : (t272 == 2) = true := beq_iff_eq.mpr c103
           have c103b1 : (t272 != 2) = false := bne_eq_false_iff_eq.mpr c103
           clear c103
           by_cases c104 : t282 ≤ 0
           ·
            rw [if_pos c104] at H
            have c104b0 : decide (t282 ≤ 0) = true := decide_eq_true c104
            clear c104
            replace H := Option.bind_eq_some_iff.mp H
            obtain ⟨t293, A1050, H⟩ := H
            replace H : (some t293) = some r := H
            have A105 := Aside0.mk A1050
            clear A1050
            obtain rfl := Option.some.inj H
            have hnb106 := NB287_270.out
            have hnc106 := NB270_287.out
            have hnb107 := NB287_271.out
            have hnc107 := NB271_287.out
            have hnb108 := NB287_276.out
            have hnc108 := NB276_287.out
            have hnb109 := NB287_281.out
            have hnc109 := NB281_287.out
            have hnb110 := NB287_285.out
            have hnc110 := NB285_287.out
            have hcz111_0 : wc.cell? ⟨gb287, 0, none⟩ = some (.int .i64 x288000_49) := (blk_cell BK287.out 0).trans rfl
            have hcz111_1 : wc.cell? ⟨gb287, 1, none⟩ = some (.int .i64 t283) := (blk_cell BK287.out 1).trans rfl
            have hfz111_0 := blk_frozen BK287.out 0
            have hfz111_1 := blk_frozen BK287.out 1
            go_wp2_with (first | ((with_reducible refine gate_callee (f := 30) rfl ?_); refine gq_ (some 81) rfl rfl Try.func30 #[.agg #[.int .i64 x288000_49, .int .i64 t283], .agg #[.int .i64 x288000_49, .int .i64 t283]] rfl ?_; (with_reducible refine (ratio_Add.calls kj75 x288000_49 t283 x288000_49 t283 t289 t290 t291 _ A102.out).mono ?_); rintro e w112 ⟨rfl, hb⟩; refine ⟨_, rfl, ?_⟩; replace BK270 := tb_ BK270 hb; replace BK271 := tb_ BK271 hb; replace BK276 := tb_ BK276 hb; replace BK281 := tb_ BK281 hb; replace BK285 := tb_ BK285 hb; replace BK287 := tb_ BK287 hb; replace HB := ts_ HB hb; (try clear hb); (try clear hb2); (try clear hk); (try clear hi)) | ((with_reducible refine gate_dst (N := 16) rfl ?_); refine bx_ (N := 16) (cs := #[.int .i64 0, .int .i64 0]) (t := 41) ?_; intro gb292 hg w113 hbox hb; have BK292 := Aside0.mk (hbox); have GW292 := sz_ HB hg; have GE292 := sz_ HB hg; have NB270_292 := nl_ BK270 hg; have NB292_270 := nr_ BK270 hg; have NB271_292 := nl_ BK271 hg; have NB292_271 := nr_ BK271 hg; have NB276_292 := nl_ BK276 hg; have NB292_276 := nr_ BK276 hg; have NB281_292 := nl_ BK281 hg; have NB292_281 := nr_ BK281 hg; have NB285_292 := nl_ BK285 hg; have NB292_285 := nr_ BK285 hg; have NB287_292 := nl_ BK287 hg; have NB292_287 := nr_ BK287 hg; replace BK270 := tb_ BK270 hb; replace BK271 := tb_ BK271 hb; replace BK276 := tb_ BK276 hb; replace BK281 := tb_ BK281 hb; replace BK285 := tb_ BK285 hb; replace BK287 := tb_ BK287 hb; replace HB := ts_ HB hb; clear hb hbox hg; have hnb114 := NB292_270.out; have hnc114 := NB270_292.out; have hnb115 := NB292_271.out; have hnc115 := NB271_292.out; have hnb116 := NB292_276.out; have hnc116 := NB276_292.out; have hnb117 := NB292_281.out; have hnc117 := NB281_292.out; have hnb118 := NB292_285.out; have hnc118 := NB285_292.out; have hnb119 := NB292_287.out; have hnc119 := NB287_292.out; have hcz120_0 : w113.cell? ⟨gb292, 0, none⟩ = some (.int .i64 0) := (blk_cell BK292.out 0).trans rfl; have hcz120_1 : w113.cell? ⟨gb292, 1, none⟩ = some (.int .i64 0) := (blk_cell BK292.out 1).trans rfl; have hfz120_0 := blk_frozen BK292.out 0; have hfz120_1 := blk_frozen BK292.out 1; have hnb121 := NB285_270.out; have hnc121 := NB270_285.out; have hnb122 := NB285_271.out; have hnc122 := NB271_285.out; have hnb123 := NB285_276.out; have hnc123 := NB276_285.out; have hnb124 := NB285_281.out; have hnc124 := NB281_285.out; have hcz125_0 : w113.cell? ⟨gb285, 0, none⟩ = some (.int .i64 t282) := (blk_cell BK285.out 0).trans rfl; have hcz125_1 : w113.cell? ⟨gb285, 1, none⟩ = some (.int .i64 t283) := (blk_cell BK285.out 1).trans rfl; have hfz125_0 := blk_frozen BK285.out 0; have hfz125_1 := blk_frozen BK285.out 1) | (go_at_call 17; (with_reducible refine (payrolllaw2_sane.calls kj75  t293 _ A105.out).mono ?_); rintro e w126 ⟨rfl, hb⟩; replace BK270 := tb_ BK270 hb; replace BK271 := tb_ BK271 hb; replace BK276 := tb_ BK276 hb; replace BK281 := tb_ BK281 hb; replace BK285 := tb_ BK285 hb; replace BK287 := tb_ BK287 hb; replace BK292 := tb_ (o' := .cells #[.int .i64 t289, .int .i64 t290] 41 (0, 0)) BK292 hb; replace HB := ts_ HB hb; (try clear hb); (try clear hb2); (try clear hk); (try clear hi)))
            go_ret
            exact ⟨by first | rfl | (simp [errW_none, errW_some] <;> rfl) | (simp [*, errW_none, errW_some] <;> rfl), be_ HB⟩
           ·
            rw [if_neg c104] at H
            have c104b0 : decide (t282 ≤ 0) = false := decide_eq_false c104
            clear c104
            obtain rfl := Option.some.inj H
            have hnb127 := NB287_270.out
            have hnc127 := NB270_287.out
            have hnb128 := NB287_271.out
            have hnc128 := NB271_287.out
            have hnb129 := NB287_276.out
            have hnc129 := NB276_287.out
            have hnb130 := NB287_281.out
            have hnc130 := NB281_287.out
            have hnb131 := NB287_285.out
            have hnc131 := NB285_287.out
            have hcz132_0 : wc.cell? ⟨gb287, 0, none⟩ = some (.int .i64 x288000_49) := (blk_cell BK287.out 0).trans rfl
            have hcz132_1 : wc.cell? ⟨gb287, 1, none⟩ = some (.int .i64 t283) := (blk_cell BK287.out 1).trans rfl
            have hfz132_0 := blk_frozen BK287.out 0
            have hfz132_1 := blk_frozen BK287.out 1
            go_wp2_with (first | ((with_reducible refine gate_callee (f := 30) rfl ?_); refine gq_ (some 81) rfl rfl Try.func30 #[.agg #[.int .i64 x288000_49, .int .i64 t283], .agg #[.int .i64 x288000_49, .int .i64 t283]] rfl ?_; (with_reducible refine (ratio_Add.calls kj75 x288000_49 t283 x288000_49 t283 t289 t290 t291 _ A102.out).mono ?_); rintro e w133 ⟨rfl, hb⟩; refine ⟨_, rfl, ?_⟩; replace BK270 := tb_ BK270 hb; replace BK271 := tb_ BK271 hb; replace BK276 := tb_ BK276 hb; replace BK281 := tb_ BK281 hb; replace BK285 := tb_ BK285 hb; replace BK287 := tb_ BK287 hb; replace HB := ts_ HB hb; (try clear hb); (try clear hb2); (try clear hk); (try clear hi)) | ((with_reducible refine gate_dst (N := 16) rfl ?_); refine bx_ (N := 16) (cs := #[.int .i64 0, .int .i64 0]) (t := 41) ?_; intro gb292 hg w134 hbox hb; have BK292 := Aside0.mk (hbox); have GW292 := sz_ HB hg; have GE292 := sz_ HB hg; have NB270_292 := nl_ BK270 hg; have NB292_270 := nr_ BK270 hg; have NB271_292 := nl_ BK271 hg; have NB292_271 := nr_ BK271 hg; have NB276_292 := nl_ BK276 hg; have NB292_276 := nr_ BK276 hg; have NB281_292 := nl_ BK281 hg; have NB292_281 := nr_ BK281 hg; have NB285_292 := nl_ BK285 hg; have NB292_285 := nr_ BK285 hg; have NB287_292 := nl_ BK287 hg; have NB292_287 := nr_ BK287 hg; replace BK270 := tb_ BK270 hb; replace BK271 := tb_ BK271 hb; replace BK276 := tb_ BK276 hb; replace BK281 := tb_ BK281 hb; replace BK285 := tb_ BK285 hb; replace BK287 := tb_ BK287 hb; replace HB := ts_ HB hb; clear hb hbox hg; have hnb135 := NB292_270.out; have hnc135 := NB270_292.out; have hnb136 := NB292_271.out; have hnc136 := NB271_292.out; have hnb137 := NB292_276.out; have hnc137 := NB276_292.out; have hnb138 := NB292_281.out; have hnc138 := NB281_292.out; have hnb139 := NB292_285.out; have hnc139 := NB285_292.out; have hnb140 := NB292_287.out; have hnc140 := NB287_292.out; have hcz141_0 : w134.cell? ⟨gb292, 0, none⟩ = some (.int .i64 0) := (blk_cell BK292.out 0).trans rfl; have hcz141_1 : w134.cell? ⟨gb292, 1, none⟩ = some (.int .i64 0) := (blk_cell BK292.out 1).trans rfl; have hfz141_0 := blk_frozen BK292.out 0; have hfz141_1 := blk_frozen BK292.out 1; have hnb142 := NB285_270.out; have hnc142 := NB270_285.out; have hnb143 := NB285_271.out; have hnc143 := NB271_285.out; have hnb144 := NB285_276.out; have hnc144 := NB276_285.out; have hnb145 := NB285_281.out; have hnc145 := NB281_285.out; have hcz146_0 : w134.cell? ⟨gb285, 0, none⟩ = some (.int .i64 t282) := (blk_cell BK285.out 0).trans rfl; have hcz146_1 : w134.cell? ⟨gb285, 1, none⟩ = some (.int .i64 t283) := (blk_cell BK285.out 1).trans rfl; have hfz146_0 := blk_frozen BK285.out 0; have hfz146_1 := blk_frozen BK285.out 1))
            go_ret
            exact ⟨by first | rfl | (simp [errW_none, errW_some] <;> rfl) | (simp [*, errW_none, errW_some] <;> rfl), be_ HB⟩
          ·
           as_aux_lemma =>
           rw [if_neg c103] at H
           have c103b0 : (t272 == 2) = false := beq_eq_false_iff_ne.mpr c103
           have c103b1 : (t272 != 2) = true := bne_iff_ne.mpr c103
           by_cases c147 : t272 = 3
           ·
            as_aux_lemma =>
            rw [if_pos c147] at H
            have c147b0 : (t272 == 3) = true := beq_iff_eq.mpr c147
            have c147b1 : (t272 != 3) = false := bne_eq_false_iff_eq.mpr c147
            clear c147
            by_cases c148 : t282 ≥ 0
            ·
             rw [if_pos c148] at H
             have c148b0 : decide (0 ≤ t282) = true := decide_eq_true c148
             clear c148
             replace H := Option.bind_eq_some_iff.mp H
             obtain ⟨t294, A1490, H⟩ := H
             replace H : (some t294) = some r := H
             have A149 := Aside0.mk A1490
             clear A1490
             obtain rfl := Option.some.inj H
             have hnb150 := NB287_270.out
             have hnc150 := NB270_287.out
             have hnb151 := NB287_271.out
             have hnc151 := NB271_287.out
             have hnb152 := NB287_276.out
             have hnc152 := NB276_287.out
             have hnb153 := NB287_281.out
             have hnc153 := NB281_287.out
             have hnb154 := NB287_285.out
             have hnc154 := NB285_287.out
             have hcz155_0 : wc.cell? ⟨gb287, 0, none⟩ = some (.int .i64 x288000_49) := (blk_cell BK287.out 0).trans rfl
             have hcz155_1 : wc.cell? ⟨gb287, 1, none⟩ = some (.int .i64 t283) := (blk_cell BK287.out 1).trans rfl
             have hfz155_0 := blk_frozen BK287.out 0
             have hfz155_1 := blk_frozen BK287.out 1
             go_wp2_with (first | ((with_reducible refine gate_callee (f := 30) rfl ?_); refine gq_ (some 81) rfl rfl Try.func30 #[.agg #[.int .i64 x288000_49, .int .i64 t283], .agg #[.int .i64 x288000_49, .int .i64 t283]] rfl ?_; (with_reducible refine (ratio_Add.calls kj75 x288000_49 t283 x288000_49 t283 t289 t290 t291 _ A102.out).mono ?_); rintro e w156 ⟨rfl, hb⟩; refine ⟨_, rfl, ?_⟩; replace BK270 := tb_ BK270 hb; replace BK271 := tb_ BK271 hb; replace BK276 := tb_ BK276 hb; replace BK281 := tb_ BK281 hb; replace BK285 := tb_ BK285 hb; replace BK287 := tb_ BK287 hb; replace HB := ts_ HB hb; (try clear hb); (try clear hb2); (try clear hk); (try clear hi)) | ((with_reducible refine gate_dst (N := 16) rfl ?_); refine bx_ (N := 16) (cs := #[.int .i64 0, .int .i64 0]) (t := 41) ?_; intro gb292 hg w157 hbox hb; have BK292 := Aside0.mk (hbox); have GW292 := sz_ HB hg; have GE292 := sz_ HB hg; have NB270_292 := nl_ BK270 hg; have NB292_270 := nr_ BK270 hg; have NB271_292 := nl_ BK271 hg; have NB292_271 := nr_ BK271 hg; have NB276_292 := nl_ BK276 hg; have NB292_276 := nr_ BK276 hg; have NB281_292 := nl_ BK281 hg; have NB292_281 := nr_ BK281 hg; have NB285_292 := nl_ BK285 hg; have NB292_285 := nr_ BK285 hg; have NB287_292 := nl_ BK287 hg; have NB292_287 := nr_ BK287 hg; replace BK270 := tb_ BK270 hb; replace BK271 := tb_ BK271 hb; replace BK276 := tb_ BK276 hb; replace BK281 := tb_ BK281 hb; replace BK285 := tb_ BK285 hb; replace BK287 := tb_ BK287 hb; replace HB := ts_ HB hb; clear hb hbox hg; have hnb158 := NB292_270.out; have hnc158 := NB270_292.out; have hnb159 := NB292_271.out; have hnc159 := NB271_292.out; have hnb160 := NB292_276.out; have hnc160 := NB276_292.out; have hnb161 := NB292_281.out; have hnc161 := NB281_292.out; have hnb162 := NB292_285.out; have hnc162 := NB285_292.out; have hnb163 := NB292_287.out; have hnc163 := NB287_292.out; have hcz164_0 : w157.cell? ⟨gb292, 0, none⟩ = some (.int .i64 0) := (blk_cell BK292.out 0).trans rfl; have hcz164_1 : w157.cell? ⟨gb292, 1, none⟩ = some (.int .i64 0) := (blk_cell BK292.out 1).trans rfl; have hfz164_0 := blk_frozen BK292.out 0; have hfz164_1 := blk_frozen BK292.out 1; have hnb165 := NB285_270.out; have hnc165 := NB270_285.out; have hnb166 := NB285_271.out; have hnc166 := NB271_285.out; have hnb167 := NB285_276.out; have hnc167 := NB276_285.out; have hnb168 := NB285_281.out; have hnc168 := NB281_285.out; have hcz169_0 : w157.cell? ⟨gb285, 0, none⟩ = some (.int .i64 t282) := (blk_cell BK285.out 0).trans rfl; have hcz169_1 : w157.cell? ⟨gb285, 1, none⟩ = some (.int .i64 t283) := (blk_cell BK285.out 1).trans rfl; have hfz169_0 := blk_frozen BK285.out 0; have hfz169_1 := blk_frozen BK285.out 1) | (go_at_call 17; (with_reducible refine (payrolllaw2_sane.calls kj75  t294 _ A149.out).mono ?_); rintro e w170 ⟨rfl, hb⟩; replace BK270 := tb_ BK270 hb; replace BK271 := tb_ BK271 hb; replace BK276 := tb_ BK276 hb; replace BK281 := tb_ BK281 hb; replace BK285 := tb_ BK285 hb; replace BK287 := tb_ BK287 hb; replace BK292 := tb_ (o' := .cells #[.int .i64 t289, .int .i64 t290] 41 (0, 0)) BK292 hb; replace HB := ts_ HB hb; (try clear hb); (try clear hb2); (try clear hk); (try clear hi)))
             go_ret
             exact ⟨by first | rfl | (simp [errW_none, errW_some] <;> rfl) | (simp [*, errW_none, errW_some] <;> rfl), be_ HB⟩
            ·
             rw [if_neg c148] at H
             have c148b0 : decide (0 ≤ t282) = false := decide_eq_false c148
             clear c148
             obtain rfl := Option.some.inj H
             have hnb171 := NB287_270.out
             have hnc171 := NB270_287.out
             have hnb172 := NB287_271.out
             have hnc172 := NB271_287.out
             have hnb173 := NB287_276.out
             have hnc173 := NB276_287.out
             have hnb174 := NB287_281.out
             have hnc174 := NB281_287.out
             have hnb175 := NB287_285.out
             have hnc175 := NB285_287.out
             have hcz176_0 : wc.cell? ⟨gb287, 0, none⟩ = some (.int .i64 x288000_49) := (blk_cell BK287.out 0).trans rfl
             have hcz176_1 : wc.cell? ⟨gb287, 1, none⟩ = some (.int .i64 t283) := (blk_cell BK287.out 1).trans rfl
             have hfz176_0 := blk_frozen BK287.out 0
             have hfz176_1 := blk_frozen BK287.out 1
             go_wp2_with (first | ((with_reducible refine gate_callee (f := 30) rfl ?_); refine gq_ (some 81) rfl rfl Try.func30 #[.agg #[.int .i64 x288000_49, .int .i64 t283], .agg #[.int .i64 x288000_49, .int .i64 t283]] rfl ?_; (with_reducible refine (ratio_Add.calls kj75 x288000_49 t283 x288000_49 t283 t289 t290 t291 _ A102.out).mono ?_); rintro e w177 ⟨rfl, hb⟩; refine ⟨_, rfl, ?_⟩; replace BK270 := tb_ BK270 hb; replace BK271 := tb_ BK271 hb; replace BK276 := tb_ BK276 hb; replace BK281 := tb_ BK281 hb; replace BK285 := tb_ BK285 hb; replace BK287 := tb_ BK287 hb; replace HB := ts_ HB hb; (try clear hb); (try clear hb2); (try clear hk); (try clear hi)) | ((with_reducible refine gate_dst (N := 16) rfl ?_); refine bx_ (N := 16) (cs := #[.int .i64 0, .int .i64 0]) (t := 41) ?_; intro gb292 hg w178 hbox hb; have BK292 := Aside0.mk (hbox); have GW292 := sz_ HB hg; have GE292 := sz_ HB hg; have NB270_292 := nl_ BK270 hg; have NB292_270 := nr_ BK270 hg; have NB271_292 := nl_ BK271 hg; have NB292_271 := nr_ BK271 hg; have NB276_292 := nl_ BK276 hg; have NB292_276 := nr_ BK276 hg; have NB281_292 := nl_ BK281 hg; have NB292_281 := nr_ BK281 hg; have NB285_292 := nl_ BK285 hg; have NB292_285 := nr_ BK285 hg; have NB287_292 := nl_ BK287 hg; have NB292_287 := nr_ BK287 hg; replace BK270 := tb_ BK270 hb; replace BK271 := tb_ BK271 hb; replace BK276 := tb_ BK276 hb; replace BK281 := tb_ BK281 hb; replace BK285 := tb_ BK285 hb; replace BK287 := tb_ BK287 hb; replace HB := ts_ HB hb; clear hb hbox hg; have hnb179 := NB292_270.out; have hnc179 := NB270_292.out; have hnb180 := NB292_271.out; have hnc180 := NB271_292.out; have hnb181 := NB292_276.out; have hnc181 := NB276_292.out; have hnb182 := NB292_281.out; have hnc182 := NB281_292.out; have hnb183 := NB292_285.out; have hnc183 := NB285_292.out; have hnb184 := NB292_287.out; have hnc184 := NB287_292.out; have hcz185_0 : w178.cell? ⟨gb292, 0, none⟩ = some (.int .i64 0) := (blk_cell BK292.out 0).trans rfl; have hcz185_1 : w178.cell? ⟨gb292, 1, none⟩ = some (.int .i64 0) := (blk_cell BK292.out 1).trans rfl; have hfz185_0 := blk_frozen BK292.out 0; have hfz185_1 := blk_frozen BK292.out 1; have hnb186 := NB285_270.out; have hnc186 := NB270_285.out; have hnb187 := NB285_271.out; have hnc187 := NB271_285.out; have hnb188 := NB285_276.out; have hnc188 := NB276_285.out; have hnb189 := NB285_281.out; have hnc189 := NB281_285.out; have hcz190_0 : w178.cell? ⟨gb285, 0, none⟩ = some (.int .i64 t282) := (blk_cell BK285.out 0).trans rfl; have hcz190_1 : w178.cell? ⟨gb285, 1, none⟩ = some (.int .i64 t283) := (blk_cell BK285.out 1).trans rfl; have hfz190_0 := blk_frozen BK285.out 0; have hfz190_1 := blk_frozen BK285.out 1))
             go_ret
             exact ⟨by first | rfl | (simp [errW_none, errW_some] <;> rfl) | (simp [*, errW_none, errW_some] <;> rfl), be_ HB⟩
           ·
            as_aux_lemma =>
            rw [if_neg c147] at H
            have c147b0 : (t272 == 3) = false := beq_eq_false_iff_ne.mpr c147
            have c147b1 : (t272 != 3) = true := bne_iff_ne.mpr c147
            by_cases c191 : t272 = 0
            ·
             as_aux_lemma =>
             rw [if_pos c191] at H
             have c191b0 : (t272 == 0) = true := beq_iff_eq.mpr c191
             have c191b1 : (t272 != 0) = false := bne_eq_false_iff_eq.mpr c191
             clear c191
             by_cases c192 : t282 = 0
             ·
              rw [if_pos c192] at H
              have c192b0 : (t282 == 0) = true := beq_iff_eq.mpr c192
              have c192b1 : (t282 != 0) = false := bne_eq_false_iff_eq.mpr c192
              clear c192
              replace H := Option.bind_eq_some_iff.mp H
              obtain ⟨t295, A1930, H⟩ := H
              replace H : (some t295) = some r := H
              have A193 := Aside0.mk A1930
              clear A1930
              obtain rfl := Option.some.inj H
              have hnb194 := NB287_270.out
              have hnc194 := NB270_287.out
              have hnb195 := NB287_271.out
              have hnc195 := NB271_287.out
              have hnb196 := NB287_276.out
              have hnc196 := NB276_287.out
              have hnb197 := NB287_281.out
              have hnc197 := NB281_287.out
              have hnb198 := NB287_285.out
              have hnc198 := NB285_287.out
              have hcz199_0 : wc.cell? ⟨gb287, 0, none⟩ = some (.int .i64 x288000_49) := (blk_cell BK287.out 0).trans rfl
              have hcz199_1 : wc.cell? ⟨gb287, 1, none⟩ = some (.int .i64 t283) := (blk_cell BK287.out 1).trans rfl
              have hfz199_0 := blk_frozen BK287.out 0
              have hfz199_1 := blk_frozen BK287.out 1
              go_wp2_with (first | ((with_reducible refine gate_callee (f := 30) rfl ?_); refine gq_ (some 81) rfl rfl Try.func30 #[.agg #[.int .i64 x288000_49, .int .i64 t283], .agg #[.int .i64 x288000_49, .int .i64 t283]] rfl ?_; (with_reducible refine (ratio_Add.calls kj75 x288000_49 t283 x288000_49 t283 t289 t290 t291 _ A102.out).mono ?_); rintro e w200 ⟨rfl, hb⟩; refine ⟨_, rfl, ?_⟩; replace BK270 := tb_ BK270 hb; replace BK271 := tb_ BK271 hb; replace BK276 := tb_ BK276 hb; replace BK281 := tb_ BK281 hb; replace BK285 := tb_ BK285 hb; replace BK287 := tb_ BK287 hb; replace HB := ts_ HB hb; (try clear hb); (try clear hb2); (try clear hk); (try clear hi)) | ((with_reducible refine gate_dst (N := 16) rfl ?_); refine bx_ (N := 16) (cs := #[.int .i64 0, .int .i64 0]) (t := 41) ?_; intro gb292 hg w201 hbox hb; have BK292 := Aside0.mk (hbox); have GW292 := sz_ HB hg; have GE292 := sz_ HB hg; have NB270_292 := nl_ BK270 hg; have NB292_270 := nr_ BK270 hg; have NB271_292 := nl_ BK271 hg; have NB292_271 := nr_ BK271 hg; have NB276_292 := nl_ BK276 hg; have NB292_276 := nr_ BK276 hg; have NB281_292 := nl_ BK281 hg; have NB292_281 := nr_ BK281 hg; have NB285_292 := nl_ BK285 hg; have NB292_285 := nr_ BK285 hg; have NB287_292 := nl_ BK287 hg; have NB292_287 := nr_ BK287 hg; replace BK270 := tb_ BK270 hb; replace BK271 := tb_ BK271 hb; replace BK276 := tb_ BK276 hb; replace BK281 := tb_ BK281 hb; replace BK285 := tb_ BK285 hb; replace BK287 := tb_ BK287 hb; replace HB := ts_ HB hb; clear hb hbox hg; have hnb202 := NB292_270.out; have hnc202 := NB270_292.out; have hnb203 := NB292_271.out; have hnc203 := NB271_292.out; have hnb204 := NB292_276.out; have hnc204 := NB276_292.out; have hnb205 := NB292_281.out; have hnc205 := NB281_292.out; have hnb206 := NB292_285.out; have hnc206 := NB285_292.out; have hnb207 := NB292_287.out; have hnc207 := NB287_292.out; have hcz208_0 : w201.cell? ⟨gb292, 0, none⟩ = some (.int .i64 0) := (blk_cell BK292.out 0).trans rfl; have hcz208_1 : w201.cell? ⟨gb292, 1, none⟩ = some (.int .i64 0) := (blk_cell BK292.out 1).trans rfl; have hfz208_0 := blk_frozen BK292.out 0; have hfz208_1 := blk_frozen BK292.out 1; have hnb209 := NB285_270.out; have hnc209 := NB270_285.out; have hnb210 := NB285_271.out; have hnc210 := NB271_285.out; have hnb211 := NB285_276.out; have hnc211 := NB276_285.out; have hnb212 := NB285_281.out; have hnc212 := NB281_285.out; have hcz213_0 : w201.cell? ⟨gb285, 0, none⟩ = some (.int .i64 t282) := (blk_cell BK285.out 0).trans rfl; have hcz213_1 : w201.cell? ⟨gb285, 1, none⟩ = some (.int .i64 t283) := (blk_cell BK285.out 1).trans rfl; have hfz213_0 := blk_frozen BK285.out 0; have hfz213_1 := blk_frozen BK285.out 1) | (go_at_call 17; (with_reducible refine (payrolllaw2_sane.calls kj75  t295 _ A193.out).mono ?_); rintro e w214 ⟨rfl, hb⟩; replace BK270 := tb_ BK270 hb; replace BK271 := tb_ BK271 hb; replace BK276 := tb_ BK276 hb; replace BK281 := tb_ BK281 hb; replace BK285 := tb_ BK285 hb; replace BK287 := tb_ BK287 hb; replace BK292 := tb_ (o' := .cells #[.int .i64 t289, .int .i64 t290] 41 (0, 0)) BK292 hb; replace HB := ts_ HB hb; (try clear hb); (try clear hb2); (try clear hk); (try clear hi)))
              go_ret
              exact ⟨by first | rfl | (simp [errW_none, errW_some] <;> rfl) | (simp [*, errW_none, errW_some] <;> rfl), be_ HB⟩
             ·
              as_aux_lemma =>
              rw [if_neg c192] at H
              have c192b0 : (t282 == 0) = false := beq_eq_false_iff_ne.mpr c192
              have c192b1 : (t282 != 0) = true := bne_iff_ne.mpr c192
              by_cases c215 : ((decide (t282 < 0)) == (decide (t264 > 0))) = true
              ·
               rw [if_pos c215] at H
               have c215b0 : ((decide (t282 < 0)) == (decide (t264 > 0))) = true := c215
               (try (have c215b1 : decide ((decide (t282 < 0)) = (decide (t264 > 0))) = true := by simpa using c215))
               (try (have c215b2 : ((decide (t282 < 0)) == (decide (t264 > 0))) = true := by simpa using c215))
               clear c215
               replace H := Option.bind_eq_some_iff.mp H
               obtain ⟨t296, A2160, H⟩ := H
               replace H : (some t296) = some r := H
               have A216 := Aside0.mk A2160
               clear A2160
               obtain rfl := Option.some.inj H
               have hnb217 := NB287_270.out
               have hnc217 := NB270_287.out
               have hnb218 := NB287_271.out
               have hnc218 := NB271_287.out
               have hnb219 := NB287_276.out
               have hnc219 := NB276_287.out
               have hnb220 := NB287_281.out
               have hnc220 := NB281_287.out
               have hnb221 := NB287_285.out
               have hnc221 := NB285_287.out
               have hcz222_0 : wc.cell? ⟨gb287, 0, none⟩ = some (.int .i64 x288000_49) := (blk_cell BK287.out 0).trans rfl
               have hcz222_1 : wc.cell? ⟨gb287, 1, none⟩ = some (.int .i64 t283) := (blk_cell BK287.out 1).trans rfl
               have hfz222_0 := blk_frozen BK287.out 0
               have hfz222_1 := blk_frozen BK287.out 1
               go_wp2_with (first | ((with_reducible refine gate_callee (f := 30) rfl ?_); refine gq_ (some 81) rfl rfl Try.func30 #[.agg #[.int .i64 x288000_49, .int .i64 t283], .agg #[.int .i64 x288000_49, .int .i64 t283]] rfl ?_; (with_reducible refine (ratio_Add.calls kj75 x288000_49 t283 x288000_49 t283 t289 t290 t291 _ A102.out).mono ?_); rintro e w223 ⟨rfl, hb⟩; refine ⟨_, rfl, ?_⟩; replace BK270 := tb_ BK270 hb; replace BK271 := tb_ BK271 hb; replace BK276 := tb_ BK276 hb; replace BK281 := tb_ BK281 hb; replace BK285 := tb_ BK285 hb; replace BK287 := tb_ BK287 hb; replace HB := ts_ HB hb; (try clear hb); (try clear hb2); (try clear hk); (try clear hi)) | ((with_reducible refine gate_dst (N := 16) rfl ?_); refine bx_ (N := 16) (cs := #[.int .i64 0, .int .i64 0]) (t := 41) ?_; intro gb292 hg w224 hbox hb; have BK292 := Aside0.mk (hbox); have GW292 := sz_ HB hg; have GE292 := sz_ HB hg; have NB270_292 := nl_ BK270 hg; have NB292_270 := nr_ BK270 hg; have NB271_292 := nl_ BK271 hg; have NB292_271 := nr_ BK271 hg; have NB276_292 := nl_ BK276 hg; have NB292_276 := nr_ BK276 hg; have NB281_292 := nl_ BK281 hg; have NB292_281 := nr_ BK281 hg; have NB285_292 := nl_ BK285 hg; have NB292_285 := nr_ BK285 hg; have NB287_292 := nl_ BK287 hg; have NB292_287 := nr_ BK287 hg; replace BK270 := tb_ BK270 hb; replace BK271 := tb_ BK271 hb; replace BK276 := tb_ BK276 hb; replace BK281 := tb_ BK281 hb; replace BK285 := tb_ BK285 hb; replace BK287 := tb_ BK287 hb; replace HB := ts_ HB hb; clear hb hbox hg; have hnb225 := NB292_270.out; have hnc225 := NB270_292.out; have hnb226 := NB292_271.out; have hnc226 := NB271_292.out; have hnb227 := NB292_276.out; have hnc227 := NB276_292.out; have hnb228 := NB292_281.out; have hnc228 := NB281_292.out; have hnb229 := NB292_285.out; have hnc229 := NB285_292.out; have hnb230 := NB292_287.out; have hnc230 := NB287_292.out; have hcz231_0 : w224.cell? ⟨gb292, 0, none⟩ = some (.int .i64 0) := (blk_cell BK292.out 0).trans rfl; have hcz231_1 : w224.cell? ⟨gb292, 1, none⟩ = some (.int .i64 0) := (blk_cell BK292.out 1).trans rfl; have hfz231_0 := blk_frozen BK292.out 0; have hfz231_1 := blk_frozen BK292.out 1; have hnb232 := NB285_270.out; have hnc232 := NB270_285.out; have hnb233 := NB285_271.out; have hnc233 := NB271_285.out; have hnb234 := NB285_276.out; have hnc234 := NB276_285.out; have hnb235 := NB285_281.out; have hnc235 := NB281_285.out; have hcz236_0 : w224.cell? ⟨gb285, 0, none⟩ = some (.int .i64 t282) := (blk_cell BK285.out 0).trans rfl; have hcz236_1 : w224.cell? ⟨gb285, 1, none⟩ = some (.int .i64 t283) := (blk_cell BK285.out 1).trans rfl; have hfz236_0 := blk_frozen BK285.out 0; have hfz236_1 := blk_frozen BK285.out 1; have hnb237 := NB270_271.out; have hnc237 := NB271_270.out; have hnb238 := NB270_276.out; have hnc238 := NB276_270.out; have hnb239 := NB270_281.out; have hnc239 := NB281_270.out; have hcz240_0 : w224.cell? ⟨gb270, 0, none⟩ = some (.int .i64 t264) := (blk_cell BK270.out 0).trans rfl; have hcz240_1 : w224.cell? ⟨gb270, 1, none⟩ = some (.int .i64 t265) := (blk_cell BK270.out 1).trans rfl; have hfz240_0 := blk_frozen BK270.out 0; have hfz240_1 := blk_frozen BK270.out 1) | (go_at_call 17; (with_reducible refine (payrolllaw2_sane.calls kj75  t296 _ A216.out).mono ?_); rintro e w241 ⟨rfl, hb⟩; replace BK270 := tb_ BK270 hb; replace BK271 := tb_ BK271 hb; replace BK276 := tb_ BK276 hb; replace BK281 := tb_ BK281 hb; replace BK285 := tb_ BK285 hb; replace BK287 := tb_ BK287 hb; replace BK292 := tb_ (o' := .cells #[.int .i64 t289, .int .i64 t290] 41 (0, 0)) BK292 hb; replace HB := ts_ HB hb; (try clear hb); (try clear hb2); (try clear hk); (try clear hi)))
               go_ret
               exact ⟨by first | rfl | (simp [errW_none, errW_some] <;> rfl) | (simp [*, errW_none, errW_some] <;> rfl), be_ HB⟩
              ·
               rw [if_neg c215] at H
               have c215b0 : ((decide (t282 < 0)) == (decide (t264 > 0))) = false := by simpa using c215
               (try (have c215b1 : decide ((decide (t282 < 0)) = (decide (t264 > 0))) = false := by simpa using c215))
               (try (have c215b2 : ((decide (t282 < 0)) == (decide (t264 > 0))) = false := by simpa using c215))
               (try (have c215b3 : ¬ ((decide (t282 < 0)) = (decide (t264 > 0))) := by simpa using c215))
               clear c215
               obtain rfl := Option.some.inj H
               have hnb242 := NB287_270.out
               have hnc242 := NB270_287.out
               have hnb243 := NB287_271.out
               have hnc243 := NB271_287.out
               have hnb244 := NB287_276.out
               have hnc244 := NB276_287.out
               have hnb245 := NB287_281.out
               have hnc245 := NB281_287.out
               have hnb246 := NB287_285.out
               have hnc246 := NB285_287.out
               have hcz247_0 : wc.cell? ⟨gb287, 0, none⟩ = some (.int .i64 x288000_49) := (blk_cell BK287.out 0).trans rfl
               have hcz247_1 : wc.cell? ⟨gb287, 1, none⟩ = some (.int .i64 t283) := (blk_cell BK287.out 1).trans rfl
               have hfz247_0 := blk_frozen BK287.out 0
               have hfz247_1 := blk_frozen BK287.out 1
               go_wp2_with (first | ((with_reducible refine gate_callee (f := 30) rfl ?_); refine gq_ (some 81) rfl rfl Try.func30 #[.agg #[.int .i64 x288000_49, .int .i64 t283], .agg #[.int .i64 x288000_49, .int .i64 t283]] rfl ?_; (with_reducible refine (ratio_Add.calls kj75 x288000_49 t283 x288000_49 t283 t289 t290 t291 _ A102.out).mono ?_); rintro e w248 ⟨rfl, hb⟩; refine ⟨_, rfl, ?_⟩; replace BK270 := tb_ BK270 hb; replace BK271 := tb_ BK271 hb; replace BK276 := tb_ BK276 hb; replace BK281 := tb_ BK281 hb; replace BK285 := tb_ BK285 hb; replace BK287 := tb_ BK287 hb; replace HB := ts_ HB hb; (try clear hb); (try clear hb2); (try clear hk); (try clear hi)) | ((with_reducible refine gate_dst (N := 16) rfl ?_); refine bx_ (N := 16) (cs := #[.int .i64 0, .int .i64 0]) (t := 41) ?_; intro gb292 hg w249 hbox hb; have BK292 := Aside0.mk (hbox); have GW292 := sz_ HB hg; have GE292 := sz_ HB hg; have NB270_292 := nl_ BK270 hg; have NB292_270 := nr_ BK270 hg; have NB271_292 := nl_ BK271 hg; have NB292_271 := nr_ BK271 hg; have NB276_292 := nl_ BK276 hg; have NB292_276 := nr_ BK276 hg; have NB281_292 := nl_ BK281 hg; have NB292_281 := nr_ BK281 hg; have NB285_292 := nl_ BK285 hg; have NB292_285 := nr_ BK285 hg; have NB287_292 := nl_ BK287 hg; have NB292_287 := nr_ BK287 hg; replace BK270 := tb_ BK270 hb; replace BK271 := tb_ BK271 hb; replace BK276 := tb_ BK276 hb; replace BK281 := tb_ BK281 hb; replace BK285 := tb_ BK285 hb; replace BK287 := tb_ BK287 hb; replace HB := ts_ HB hb; clear hb hbox hg; have hnb250 := NB292_270.out; have hnc250 := NB270_292.out; have hnb251 := NB292_271.out; have hnc251 := NB271_292.out; have hnb252 := NB292_276.out; have hnc252 := NB276_292.out; have hnb253 := NB292_281.out; have hnc253 := NB281_292.out; have hnb254 := NB292_285.out; have hnc254 := NB285_292.out; have hnb255 := NB292_287.out; have hnc255 := NB287_292.out; have hcz256_0 : w249.cell? ⟨gb292, 0, none⟩ = some (.int .i64 0) := (blk_cell BK292.out 0).trans rfl; have hcz256_1 : w249.cell? ⟨gb292, 1, none⟩ = some (.int .i64 0) := (blk_cell BK292.out 1).trans rfl; have hfz256_0 := blk_frozen BK292.out 0; have hfz256_1 := blk_frozen BK292.out 1; have hnb257 := NB285_270.out; have hnc257 := NB270_285.out; have hnb258 := NB285_271.out; have hnc258 := NB271_285.out; have hnb259 := NB285_276.out; have hnc259 := NB276_285.out; have hnb260 := NB285_281.out; have hnc260 := NB281_285.out; have hcz261_0 : w249.cell? ⟨gb285, 0, none⟩ = some (.int .i64 t282) := (blk_cell BK285.out 0).trans rfl; have hcz261_1 : w249.cell? ⟨gb285, 1, none⟩ = some (.int .i64 t283) := (blk_cell BK285.out 1).trans rfl; have hfz261_0 := blk_frozen BK285.out 0; have hfz261_1 := blk_frozen BK285.out 1; have hnb262 := NB270_271.out; have hnc262 := NB271_270.out; have hnb263 := NB270_276.out; have hnc263 := NB276_270.out; have hnb264 := NB270_281.out; have hnc264 := NB281_270.out; have hcz265_0 : w249.cell? ⟨gb270, 0, none⟩ = some (.int .i64 t264) := (blk_cell BK270.out 0).trans rfl; have hcz265_1 : w249.cell? ⟨gb270, 1, none⟩ = some (.int .i64 t265) := (blk_cell BK270.out 1).trans rfl; have hfz265_0 := blk_frozen BK270.out 0; have hfz265_1 := blk_frozen BK270.out 1))
               go_ret
               exact ⟨by first | rfl | (simp [errW_none, errW_some] <;> rfl) | (simp [*, errW_none, errW_some] <;> rfl), be_ HB⟩
            ·
             as_aux_lemma =>
             rw [if_neg c191] at H
             have c191b0 : (t272 == 0) = false := beq_eq_false_iff_ne.mpr c191
             have c191b1 : (t272 != 0) = true := bne_iff_ne.mpr c191
             by_cases c266 : t272 = 1
             ·
              as_aux_lemma =>
              rw [if_pos c266] at H
              have c266b0 : (t272 == 1) = true := beq_iff_eq.mpr c266
              have c266b1 : (t272 != 1) = false := bne_eq_false_iff_eq.mpr c266
              clear c266
              by_cases c267 : t282 = 0
              ·
               rw [if_pos c267] at H
               have c267b0 : (t282 == 0) = true := beq_iff_eq.mpr c267
               have c267b1 : (t282 != 0) = false := bne_eq_false_iff_eq.mpr c267
               clear c267
               replace H := Option.bind_eq_some_iff.mp H
               obtain ⟨t297, A2680, H⟩ := H
               replace H : (some t297) = some r := H
               have A268 := Aside0.mk A2680
               clear A2680
               obtain rfl := Option.some.inj H
               have hnb269 := NB287_270.out
               have hnc269 := NB270_287.out
               have hnb270 := NB287_271.out
               have hnc270 := NB271_287.out
               have hnb271 := NB287_276.out
               have hnc271 := NB276_287.out
               have hnb272 := NB287_281.out
               have hnc272 := NB281_287.out
               have hnb273 := NB287_285.out
               have hnc273 := NB285_287.out
               have hcz274_0 : wc.cell? ⟨gb287, 0, none⟩ = some (.int .i64 x288000_49) := (blk_cell BK287.out 0).trans rfl
               have hcz274_1 : wc.cell? ⟨gb287, 1, none⟩ = some (.int .i64 t283) := (blk_cell BK287.out 1).trans rfl
               have hfz274_0 := blk_frozen BK287.out 0
               have hfz274_1 := blk_frozen BK287.out 1
               go_wp2_with (first | ((with_reducible refine gate_callee (f := 30) rfl ?_); refine gq_ (some 81) rfl rfl Try.func30 #[.agg #[.int .i64 x288000_49, .int .i64 t283], .agg #[.int .i64 x288000_49, .int .i64 t283]] rfl ?_; (with_reducible refine (ratio_Add.calls kj75 x288000_49 t283 x288000_49 t283 t289 t290 t291 _ A102.out).mono ?_); rintro e w275 ⟨rfl, hb⟩; refine ⟨_, rfl, ?_⟩; replace BK270 := tb_ BK270 hb; replace BK271 := tb_ BK271 hb; replace BK276 := tb_ BK276 hb; replace BK281 := tb_ BK281 hb; replace BK285 := tb_ BK285 hb; replace BK287 := tb_ BK287 hb; replace HB := ts_ HB hb; (try clear hb); (try clear hb2); (try clear hk); (try clear hi)) | ((with_reducible refine gate_dst (N := 16) rfl ?_); refine bx_ (N := 16) (cs := #[.int .i64 0, .int .i64 0]) (t := 41) ?_; intro gb292 hg w276 hbox hb; have BK292 := Aside0.mk (hbox); have GW292 := sz_ HB hg; have GE292 := sz_ HB hg; have NB270_292 := nl_ BK270 hg; have NB292_270 := nr_ BK270 hg; have NB271_292 := nl_ BK271 hg; have NB292_271 := nr_ BK271 hg; have NB276_292 := nl_ BK276 hg; have NB292_276 := nr_ BK276 hg; have NB281_292 := nl_ BK281 hg; have NB292_281 := nr_ BK281 hg; have NB285_292 := nl_ BK285 hg; have NB292_285 := nr_ BK285 hg; have NB287_292 := nl_ BK287 hg; have NB292_287 := nr_ BK287 hg; replace BK270 := tb_ BK270 hb; replace BK271 := tb_ BK271 hb; replace BK276 := tb_ BK276 hb; replace BK281 := tb_ BK281 hb; replace BK285 := tb_ BK285 hb; replace BK287 := tb_ BK287 hb; replace HB := ts_ HB hb; clear hb hbox hg; have hnb277 := NB292_270.out; have hnc277 := NB270_292.out; have hnb278 := NB292_271.out; have hnc278 := NB271_292.out; have hnb279 := NB292_276.out; have hnc279 := NB276_292.out; have hnb280 := NB292_281.out; have hnc280 := NB281_292.out; have hnb281 := NB292_285.out; have hnc281 := NB285_292.out; have hnb282 := NB292_287.out; have hnc282 := NB287_292.out; have hcz283_0 : w276.cell? ⟨gb292, 0, none⟩ = some (.int .i64 0) := (blk_cell BK292.out 0).trans rfl; have hcz283_1 : w276.cell? ⟨gb292, 1, none⟩ = some (.int .i64 0) := (blk_cell BK292.out 1).trans rfl; have hfz283_0 := blk_frozen BK292.out 0; have hfz283_1 := blk_frozen BK292.out 1; have hnb284 := NB285_270.out; have hnc284 := NB270_285.out; have hnb285 := NB285_271.out; have hnc285 := NB271_285.out; have hnb286 := NB285_276.out; have hnc286 := NB276_285.out; have hnb287 := NB285_281.out; have hnc287 := NB281_285.out; have hcz288_0 : w276.cell? ⟨gb285, 0, none⟩ = some (.int .i64 t282) := (blk_cell BK285.out 0).trans rfl; have hcz288_1 : w276.cell? ⟨gb285, 1, none⟩ = some (.int .i64 t283) := (blk_cell BK285.out 1).trans rfl; have hfz288_0 := blk_frozen BK285.out 0; have hfz288_1 := blk_frozen BK285.out 1) | (go_at_call 17; (with_reducible refine (payrolllaw2_sane.calls kj75  t297 _ A268.out).mono ?_); rintro e w289 ⟨rfl, hb⟩; replace BK270 := tb_ BK270 hb; replace BK271 := tb_ BK271 hb; replace BK276 := tb_ BK276 hb; replace BK281 := tb_ BK281 hb; replace BK285 := tb_ BK285 hb; replace BK287 := tb_ BK287 hb; replace BK292 := tb_ (o' := .cells #[.int .i64 t289, .int .i64 t290] 41 (0, 0)) BK292 hb; replace HB := ts_ HB hb; (try clear hb); (try clear hb2); (try clear hk); (try clear hi)))
               go_ret
               exact ⟨by first | rfl | (simp [errW_none, errW_some] <;> rfl) | (simp [*, errW_none, errW_some] <;> rfl), be_ HB⟩
              ·
               as_aux_lemma =>
               rw [if_neg c267] at H
               have c267b0 : (t282 == 0) = false := beq_eq_false_iff_ne.mpr c267
               have c267b1 : (t282 != 0) = true := bne_iff_ne.mpr c267
               by_cases c290 : ((decide (t282 > 0)) == (decide (t264 > 0))) = true
               ·
                rw [if_pos c290] at H
                have c290b0 : ((decide (t282 > 0)) == (decide (t264 > 0))) = true := c290
                (try (have c290b1 : decide ((decide (t282 > 0)) = (decide (t264 > 0))) = true := by simpa using c290))
                (try (have c290b2 : ((decide (t282 > 0)) == (decide (t264 > 0))) = true := by simpa using c290))
                clear c290
                replace H := Option.bind_eq_some_iff.mp H
                obtain ⟨t298, A2910, H⟩ := H
                replace H : (some t298) = some r := H
                have A291 := Aside0.mk A2910
                clear A2910
                obtain rfl := Option.some.inj H
                have hnb292 := NB287_270.out
                have hnc292 := NB270_287.out
                have hnb293 := NB287_271.out
                have hnc293 := NB271_287.out
                have hnb294 := NB287_276.out
                have hnc294 := NB276_287.out
                have hnb295 := NB287_281.out
                have hnc295 := NB281_287.out
                have hnb296 := NB287_285.out
                have hnc296 := NB285_287.out
                have hcz297_0 : wc.cell? ⟨gb287, 0, none⟩ = some (.int .i64 x288000_49) := (blk_cell BK287.out 0).trans rfl
                have hcz297_1 : wc.cell? ⟨gb287, 1, none⟩ = some (.int .i64 t283) := (blk_cell BK287.out 1).trans rfl
                have hfz297_0 := blk_frozen BK287.out 0
                have hfz297_1 := blk_frozen BK287.out 1
                go_wp2_with (first | ((with_reducible refine gate_callee (f := 30) rfl ?_); refine gq_ (some 81) rfl rfl Try.func30 #[.agg #[.int .i64 x288000_49, .int .i64 t283], .agg #[.int .i64 x288000_49, .int .i64 t283]] rfl ?_; (with_reducible refine (ratio_Add.calls kj75 x288000_49 t283 x288000_49 t283 t289 t290 t291 _ A102.out).mono ?_); rintro e w298 ⟨rfl, hb⟩; refine ⟨_, rfl, ?_⟩; replace BK270 := tb_ BK270 hb; replace BK271 := tb_ BK271 hb; replace BK276 := tb_ BK276 hb; replace BK281 := tb_ BK281 hb; replace BK285 := tb_ BK285 hb; replace BK287 := tb_ BK287 hb; replace HB := ts_ HB hb; (try clear hb); (try clear hb2); (try clear hk); (try clear hi)) | ((with_reducible refine gate_dst (N := 16) rfl ?_); refine bx_ (N := 16) (cs := #[.int .i64 0, .int .i64 0]) (t := 41) ?_; intro gb292 hg w299 hbox hb; have BK292 := Aside0.mk (hbox); have GW292 := sz_ HB hg; have GE292 := sz_ HB hg; have NB270_292 := nl_ BK270 hg; have NB292_270 := nr_ BK270 hg; have NB271_292 := nl_ BK271 hg; have NB292_271 := nr_ BK271 hg; have NB276_292 := nl_ BK276 hg; have NB292_276 := nr_ BK276 hg; have NB281_292 := nl_ BK281 hg; have NB292_281 := nr_ BK281 hg; have NB285_292 := nl_ BK285 hg; have NB292_285 := nr_ BK285 hg; have NB287_292 := nl_ BK287 hg; have NB292_287 := nr_ BK287 hg; replace BK270 := tb_ BK270 hb; replace BK271 := tb_ BK271 hb; replace BK276 := tb_ BK276 hb; replace BK281 := tb_ BK281 hb; replace BK285 := tb_ BK285 hb; replace BK287 := tb_ BK287 hb; replace HB := ts_ HB hb; clear hb hbox hg; have hnb300 := NB292_270.out; have hnc300 := NB270_292.out; have hnb301 := NB292_271.out; have hnc301 := NB271_292.out; have hnb302 := NB292_276.out; have hnc302 := NB276_292.out; have hnb303 := NB292_281.out; have hnc303 := NB281_292.out; have hnb304 := NB292_285.out; have hnc304 := NB285_292.out; have hnb305 := NB292_287.out; have hnc305 := NB287_292.out; have hcz306_0 : w299.cell? ⟨gb292, 0, none⟩ = some (.int .i64 0) := (blk_cell BK292.out 0).trans rfl; have hcz306_1 : w299.cell? ⟨gb292, 1, none⟩ = some (.int .i64 0) := (blk_cell BK292.out 1).trans rfl; have hfz306_0 := blk_frozen BK292.out 0; have hfz306_1 := blk_frozen BK292.out 1; have hnb307 := NB285_270.out; have hnc307 := NB270_285.out; have hnb308 := NB285_271.out; have hnc308 := NB271_285.out; have hnb309 := NB285_276.out; have hnc309 := NB276_285.out; have hnb310 := NB285_281.out; have hnc310 := NB281_285.out; have hcz311_0 : w299.cell? ⟨gb285, 0, none⟩ = some (.int .i64 t282) := (blk_cell BK285.out 0).trans rfl; have hcz311_1 : w299.cell? ⟨gb285, 1, none⟩ = some (.int .i64 t283) := (blk_cell BK285.out 1).trans rfl; have hfz311_0 := blk_frozen BK285.out 0; have hfz311_1 := blk_frozen BK285.out 1; have hnb312 := NB270_271.out; have hnc312 := NB271_270.out; have hnb313 := NB270_276.out; have hnc313 := NB276_270.out; have hnb314 := NB270_281.out; have hnc314 := NB281_270.out; have hcz315_0 : w299.cell? ⟨gb270, 0, none⟩ = some (.int .i64 t264) := (blk_cell BK270.out 0).trans rfl; have hcz315_1 : w299.cell? ⟨gb270, 1, none⟩ = some (.int .i64 t265) := (blk_cell BK270.out 1).trans rfl; have hfz315_0 := blk_frozen BK270.out 0; have hfz315_1 := blk_frozen BK270.out 1) | (go_at_call 17; (with_reducible refine (payrolllaw2_sane.calls kj75  t298 _ A291.out).mono ?_); rintro e w316 ⟨rfl, hb⟩; replace BK270 := tb_ BK270 hb; replace BK271 := tb_ BK271 hb; replace BK276 := tb_ BK276 hb; replace BK281 := tb_ BK281 hb; replace BK285 := tb_ BK285 hb; replace BK287 := tb_ BK287 hb; replace BK292 := tb_ (o' := .cells #[.int .i64 t289, .int .i64 t290] 41 (0, 0)) BK292 hb; replace HB := ts_ HB hb; (try clear hb); (try clear hb2); (try clear hk); (try clear hi)))
                go_ret
                exact ⟨by first | rfl | (simp [errW_none, errW_some] <;> rfl) | (simp [*, errW_none, errW_some] <;> rfl), be_ HB⟩
               ·
                rw [if_neg c290] at H
                have c290b0 : ((decide (t282 > 0)) == (decide (t264 > 0))) = false := by simpa using c290
                (try (have c290b1 : decide ((decide (t282 > 0)) = (decide (t264 > 0))) = false := by simpa using c290))
                (try (have c290b2 : ((decide (t282 > 0)) == (decide (t264 > 0))) = false := by simpa using c290))
                (try (have c290b3 : ¬ ((decide (t282 > 0)) = (decide (t264 > 0))) := by simpa using c290))
                clear c290
                obtain rfl := Option.some.inj H
                have hnb317 := NB287_270.out
                have hnc317 := NB270_287.out
                have hnb318 := NB287_271.out
                have hnc318 := NB271_287.out
                have hnb319 := NB287_276.out
                have hnc319 := NB276_287.out
                have hnb320 := NB287_281.out
                have hnc320 := NB281_287.out
                have hnb321 := NB287_285.out
                have hnc321 := NB285_287.out
                have hcz322_0 : wc.cell? ⟨gb287, 0, none⟩ = some (.int .i64 x288000_49) := (blk_cell BK287.out 0).trans rfl
                have hcz322_1 : wc.cell? ⟨gb287, 1, none⟩ = some (.int .i64 t283) := (blk_cell BK287.out 1).trans rfl
                have hfz322_0 := blk_frozen BK287.out 0
                have hfz322_1 := blk_frozen BK287.out 1
                go_wp2_with (first | ((with_reducible refine gate_callee (f := 30) rfl ?_); refine gq_ (some 81) rfl rfl Try.func30 #[.agg #[.int .i64 x288000_49, .int .i64 t283], .agg #[.int .i64 x288000_49, .int .i64 t283]] rfl ?_; (with_reducible refine (ratio_Add.calls kj75 x288000_49 t283 x288000_49 t283 t289 t290 t291 _ A102.out).mono ?_); rintro e w323 ⟨rfl, hb⟩; refine ⟨_, rfl, ?_⟩; replace BK270 := tb_ BK270 hb; replace BK271 := tb_ BK271 hb; replace BK276 := tb_ BK276 hb; replace BK281 := tb_ BK281 hb; replace BK285 := tb_ BK285 hb; replace BK287 := tb_ BK287 hb; replace HB := ts_ HB hb; (try clear hb); (try clear hb2); (try clear hk); (try clear hi)) | ((with_reducible refine gate_dst (N := 16) rfl ?_); refine bx_ (N := 16) (cs := #[.int .i64 0, .int .i64 0]) (t := 41) ?_; intro gb292 hg w324 hbox hb; have BK292 := Aside0.mk (hbox); have GW292 := sz_ HB hg; have GE292 := sz_ HB hg; have NB270_292 := nl_ BK270 hg; have NB292_270 := nr_ BK270 hg; have NB271_292 := nl_ BK271 hg; have NB292_271 := nr_ BK271 hg; have NB276_292 := nl_ BK276 hg; have NB292_276 := nr_ BK276 hg; have NB281_292 := nl_ BK281 hg; have NB292_281 := nr_ BK281 hg; have NB285_292 := nl_ BK285 hg; have NB292_285 := nr_ BK285 hg; have NB287_292 := nl_ BK287 hg; have NB292_287 := nr_ BK287 hg; replace BK270 := tb_ BK270 hb; replace BK271 := tb_ BK271 hb; replace BK276 := tb_ BK276 hb; replace BK281 := tb_ BK281 hb; replace BK285 := tb_ BK285 hb; replace BK287 := tb_ BK287 hb; replace HB := ts_ HB hb; clear hb hbox hg; have hnb325 := NB292_270.out; have hnc325 := NB270_292.out; have hnb326 := NB292_271.out; have hnc326 := NB271_292.out; have hnb327 := NB292_276.out; have hnc327 := NB276_292.out; have hnb328 := NB292_281.out; have hnc328 := NB281_292.out; have hnb329 := NB292_285.out; have hnc329 := NB285_292.out; have hnb330 := NB292_287.out; have hnc330 := NB287_292.out; have hcz331_0 : w324.cell? ⟨gb292, 0, none⟩ = some (.int .i64 0) := (blk_cell BK292.out 0).trans rfl; have hcz331_1 : w324.cell? ⟨gb292, 1, none⟩ = some (.int .i64 0) := (blk_cell BK292.out 1).trans rfl; have hfz331_0 := blk_frozen BK292.out 0; have hfz331_1 := blk_frozen BK292.out 1; have hnb332 := NB285_270.out; have hnc332 := NB270_285.out; have hnb333 := NB285_271.out; have hnc333 := NB271_285.out; have hnb334 := NB285_276.out; have hnc334 := NB276_285.out; have hnb335 := NB285_281.out; have hnc335 := NB281_285.out; have hcz336_0 : w324.cell? ⟨gb285, 0, none⟩ = some (.int .i64 t282) := (blk_cell BK285.out 0).trans rfl; have hcz336_1 : w324.cell? ⟨gb285, 1, none⟩ = some (.int .i64 t283) := (blk_cell BK285.out 1).trans rfl; have hfz336_0 := blk_frozen BK285.out 0; have hfz336_1 := blk_frozen BK285.out 1; have hnb337 := NB270_271.out; have hnc337 := NB271_270.out; have hnb338 := NB270_276.out; have hnc338 := NB276_270.out; have hnb339 := NB270_281.out; have hnc339 := NB281_270.out; have hcz340_0 : w324.cell? ⟨gb270, 0, none⟩ = some (.int .i64 t264) := (blk_cell BK270.out 0).trans rfl; have hcz340_1 : w324.cell? ⟨gb270, 1, none⟩ = some (.int .i64 t265) := (blk_cell BK270.out 1).trans rfl; have hfz340_0 := blk_frozen BK270.out 0; have hfz340_1 := blk_frozen BK270.out 1))
                go_ret
                exact ⟨by first | rfl | (simp [errW_none, errW_some] <;> rfl) | (simp [*, errW_none, errW_some] <;> rfl), be_ HB⟩
             ·
              as_aux_lemma =>
              rw [if_neg c266] at H
              have c266b0 : (t272 == 1) = false := beq_eq_false_iff_ne.mpr c266
              have c266b1 : (t272 != 1) = true := bne_iff_ne.mpr c266
              by_cases c341 : t291 = 0
              ·
               as_aux_lemma =>
               rw [if_pos c341] at H
               have c341b0 : (t291 == 0) = true := beq_iff_eq.mpr c341
               have c341b1 : (t291 != 0) = false := bne_eq_false_iff_eq.mpr c341
               clear c341
               replace H := Option.bind_eq_some_iff.mp H
               obtain ⟨t300, A3420, H⟩ := H
               replace H : (if t272 = 4 then (if ((decide (t282 > 0)) == (decide (t264 > 0))) = true then (payrolllaw2_RoundingNearest.j3 kj75 t300 true) else (if t272 = 5 then (if ((decide (t282 < 0)) == (decide (t264 > 0))) = true then (payrolllaw2_RoundingNearest.j3 kj75 t300 true) else (if t272 = 6 then (payrolllaw2_RoundingNearest.j3 kj75 t300 ((Int.tmod t278 2) == 0)) else (payrolllaw2_RoundingNearest.j3 kj75 t300 false))) else (if t272 = 6 then (payrolllaw2_RoundingNearest.j3 kj75 t300 ((Int.tmod t278 2) == 0)) else (payrolllaw2_RoundingNearest.j3 kj75 t300 false)))) else (if t272 = 5 then (if ((decide (t282 < 0)) == (decide (t264 > 0))) = true then (payrolllaw2_RoundingNearest.j3 kj75 t300 true) else (if t272 = 6 then (payrolllaw2_RoundingNearest.j3 kj75 t300 ((Int.tmod t278 2) == 0)) else (payrolllaw2_RoundingNearest.j3 kj75 t300 false))) else (if t272 = 6 then (payrolllaw2_RoundingNearest.j3 kj75 t300 ((Int.tmod t278 2) == 0)) else (payrolllaw2_RoundingNearest.j3 kj75 t300 false)))) = some r := H
               have A342 := Aside0.mk A3420
               clear A3420
               have HC343 := Aside0.mk H
               clear H
               have hnb344 := NB287_270.out
               have hnc344 := NB270_287.out
               have hnb345 := NB287_271.out
               have hnc345 := NB271_287.out
               have hnb346 := NB287_276.out
               have hnc346 := NB276_287.out
               have hnb347 := NB287_281.out
               have hnc347 := NB281_287.out
               have hnb348 := NB287_285.out
               have hnc348 := NB285_287.out
               have hcz349_0 : wc.cell? ⟨gb287, 0, none⟩ = some (.int .i64 x288000_49) := (blk_cell BK287.out 0).trans rfl
               have hcz349_1 : wc.cell? ⟨gb287, 1, none⟩ = some (.int .i64 t283) := (blk_cell BK287.out 1).trans rfl
               have hfz349_0 := blk_frozen BK287.out 0
               have hfz349_1 := blk_frozen BK287.out 1
               go_upto_region 29 with (first | ((with_reducible refine gate_callee (f := 30) rfl ?_); refine gq_ (some 81) rfl rfl Try.func30 #[.agg #[.int .i64 x288000_49, .int .i64 t283], .agg #[.int .i64 x288000_49, .int .i64 t283]] rfl ?_; (with_reducible refine (ratio_Add.calls kj75 x288000_49 t283 x288000_49 t283 t289 t290 t291 _ A102.out).mono ?_); rintro e w350 ⟨rfl, hb⟩; refine ⟨_, rfl, ?_⟩; replace BK270 := tb_ BK270 hb; replace BK271 := tb_ BK271 hb; replace BK276 := tb_ BK276 hb; replace BK281 := tb_ BK281 hb; replace BK285 := tb_ BK285 hb; replace BK287 := tb_ BK287 hb; replace HB := ts_ HB hb; (try clear hb); (try clear hb2); (try clear hk); (try clear hi)) | ((with_reducible refine gate_dst (N := 16) rfl ?_); refine bx_ (N := 16) (cs := #[.int .i64 0, .int .i64 0]) (t := 41) ?_; intro gb292 hg w351 hbox hb; have BK292 := Aside0.mk (hbox); have GW292 := sz_ HB hg; have GE292 := sz_ HB hg; have NB270_292 := nl_ BK270 hg; have NB292_270 := nr_ BK270 hg; have NB271_292 := nl_ BK271 hg; have NB292_271 := nr_ BK271 hg; have NB276_292 := nl_ BK276 hg; have NB292_276 := nr_ BK276 hg; have NB281_292 := nl_ BK281 hg; have NB292_281 := nr_ BK281 hg; have NB285_292 := nl_ BK285 hg; have NB292_285 := nr_ BK285 hg; have NB287_292 := nl_ BK287 hg; have NB292_287 := nr_ BK287 hg; replace BK270 := tb_ BK270 hb; replace BK271 := tb_ BK271 hb; replace BK276 := tb_ BK276 hb; replace BK281 := tb_ BK281 hb; replace BK285 := tb_ BK285 hb; replace BK287 := tb_ BK287 hb; replace HB := ts_ HB hb; clear hb hbox hg; have hnb352 := NB292_270.out; have hnc352 := NB270_292.out; have hnb353 := NB292_271.out; have hnc353 := NB271_292.out; have hnb354 := NB292_276.out; have hnc354 := NB276_292.out; have hnb355 := NB292_281.out; have hnc355 := NB281_292.out; have hnb356 := NB292_285.out; have hnc356 := NB285_292.out; have hnb357 := NB292_287.out; have hnc357 := NB287_292.out; have hcz358_0 : w351.cell? ⟨gb292, 0, none⟩ = some (.int .i64 0) := (blk_cell BK292.out 0).trans rfl; have hcz358_1 : w351.cell? ⟨gb292, 1, none⟩ = some (.int .i64 0) := (blk_cell BK292.out 1).trans rfl; have hfz358_0 := blk_frozen BK292.out 0; have hfz358_1 := blk_frozen BK292.out 1; have hnb359 := NB271_270.out; have hnc359 := NB270_271.out; have hnb360 := NB271_276.out; have hnc360 := NB276_271.out; have hnb361 := NB271_281.out; have hnc361 := NB281_271.out; have hnb362 := NB271_285.out; have hnc362 := NB285_271.out; have hcz363_0 : w351.cell? ⟨gb271, 0, none⟩ = some (.int .i64 t267) := (blk_cell BK271.out 0).trans rfl; have hcz363_1 : w351.cell? ⟨gb271, 1, none⟩ = some (.int .i64 t268) := (blk_cell BK271.out 1).trans rfl; have hfz363_0 := blk_frozen BK271.out 0; have hfz363_1 := blk_frozen BK271.out 1) | ((with_reducible refine gate_callee (f := 24) rfl ?_); refine gq_ (some 140) rfl rfl Try.func24 #[.agg #[.int .i64 t289, .int .i64 t290], .agg #[.int .i64 t267, .int .i64 t268]] rfl ?_; (with_reducible refine (ratio_Compare.calls kj75 t289 t290 t267 t268 t300 _ A342.out).mono ?_); rintro e w364 ⟨rfl, hb⟩; refine ⟨_, rfl, ?_⟩; replace BK270 := tb_ BK270 hb; replace BK271 := tb_ BK271 hb; replace BK276 := tb_ BK276 hb; replace BK281 := tb_ BK281 hb; replace BK285 := tb_ BK285 hb; replace BK287 := tb_ BK287 hb; replace BK292 := tb_ (o' := .cells #[.int .i64 t289, .int .i64 t290] 41 (0, 0)) BK292 hb; replace HB := ts_ HB hb; (try clear hb); (try clear hb2); (try clear hk); (try clear hi)))
               (try simp only [Act.put, List.setIfInBounds_toArray, List.set_cons_zero, List.set_cons_succ])
               go_cut [19] (fun v19 wc => ∃ (kq : Nat) (x19_342 : Bool), v19 = .bool x19_342 ∧ Aside0 (payrolllaw2_RoundingNearest.j3 kq t300 x19_342 = some r) ∧ Aside0 (kq ≤ kj75) ∧ Aside0 (wc.heap[gb270]? = some (.cells #[.int .i64 t264, .int .i64 t265] 41 (0, 0))) ∧ Aside0 (wc.heap[gb271]? = some (.cells #[.int .i64 t267, .int .i64 t268] 41 (0, 0))) ∧ Aside0 (wc.heap[gb276]? = some (.cells #[.int .i64 t273, .int .i64 t274] 41 (0, 0))) ∧ Aside0 (wc.heap[gb281]? = some (.cells #[.int .i64 t278, .int .i64 t279] 41 (0, 0))) ∧ Aside0 (wc.heap[gb285]? = some (.cells #[.int .i64 t282, .int .i64 t283] 41 (0, 0))) ∧ Aside0 (wc.heap[gb287]? = some (.cells #[.int .i64 x288000_49, .int .i64 t283] 41 (0, 0))) ∧ Aside0 (wc.heap[gb292]? = some (.cells #[.int .i64 t289, .int .i64 t290] 41 (0, 0))) ∧ Aside0 (Below w.heap.size w wc))
               case first =>
                have H := HC343.out
                clear HC343
                by_cases c365 : t272 = 4
                ·
                 as_aux_lemma =>
                 rw [if_pos c365] at H
                 have c365b0 : (t272 == 4) = true := beq_iff_eq.mpr c365
                 have c365b1 : (t272 != 4) = false := bne_eq_false_iff_eq.mpr c365
                 clear c365
                 (first | rw [c365b0] | (simp only [i64_w, i32_w]; rw [c365b0]) | skip)
                 by_cases c366 : ((decide (t282 > 0)) == (decide (t264 > 0))) = true
                 ·
                  rw [if_pos c366] at H
                  have c366b0 : ((decide (t282 > 0)) == (decide (t264 > 0))) = true := c366
                  (try (have c366b1 : decide ((decide (t282 > 0)) = (decide (t264 > 0))) = true := by simpa using c366))
                  (try (have c366b2 : ((decide (t282 > 0)) == (decide (t264 > 0))) = true := by simpa using c366))
                  clear c366
                  have H' := Aside0.mk H
                  clear H
                  have hnb367 := NB285_270.out
                  have hnc367 := NB270_285.out
                  have hnb368 := NB285_271.out
                  have hnc368 := NB271_285.out
                  have hnb369 := NB285_276.out
                  have hnc369 := NB276_285.out
                  have hnb370 := NB285_281.out
                  have hnc370 := NB281_285.out
                  have hnb371 := NB285_287.out
                  have hnc371 := NB287_285.out
                  have hnb372 := NB285_292.out
                  have hnc372 := NB292_285.out
                  have hcz373_0 : w364.cell? ⟨gb285, 0, none⟩ = some (.int .i64 t282) := (blk_cell BK285.out 0).trans rfl
                  have hcz373_1 : w364.cell? ⟨gb285, 1, none⟩ = some (.int .i64 t283) := (blk_cell BK285.out 1).trans rfl
                  have hfz373_0 := blk_frozen BK285.out 0
                  have hfz373_1 := blk_frozen BK285.out 1
                  have hnb374 := NB270_271.out
                  have hnc374 := NB271_270.out
                  have hnb375 := NB270_276.out
                  have hnc375 := NB276_270.out
                  have hnb376 := NB270_281.out
                  have hnc376 := NB281_270.out
                  have hnb377 := NB270_287.out
                  have hnc377 := NB287_270.out
                  have hnb378 := NB270_292.out
                  have hnc378 := NB292_270.out
                  have hcz379_0 : w364.cell? ⟨gb270, 0, none⟩ = some (.int .i64 t264) := (blk_cell BK270.out 0).trans rfl
                  have hcz379_1 : w364.cell? ⟨gb270, 1, none⟩ = some (.int .i64 t265) := (blk_cell BK270.out 1).trans rfl
                  have hfz379_0 := blk_frozen BK270.out 0
                  have hfz379_1 := blk_frozen BK270.out 1
                  go_wp2
                  go_meet
                  case rel => exact ⟨_, (true), (by first | rfl | (simp; done) | (simp [*]; done)), H', ⟨by have := HJ10.out; have := HJ49.out; have := HJ75.out; first | omega | exact Nat.le_refl _⟩, ⟨by (with_reducible repeat (first | refine blk_drewN ?_ _ | refine blk_drew ?_ | refine blk_alloc ?_ _)); exact BK270.out⟩, ⟨by (with_reducible repeat (first | refine blk_drewN ?_ _ | refine blk_drew ?_ | refine blk_alloc ?_ _)); exact BK271.out⟩, ⟨by (with_reducible repeat (first | refine blk_drewN ?_ _ | refine blk_drew ?_ | refine blk_alloc ?_ _)); exact BK276.out⟩, ⟨by (with_reducible repeat (first | refine blk_drewN ?_ _ | refine blk_drew ?_ | refine blk_alloc ?_ _)); exact BK281.out⟩, ⟨by (with_reducible repeat (first | refine blk_drewN ?_ _ | refine blk_drew ?_ | refine blk_alloc ?_ _)); exact BK285.out⟩, ⟨by (with_reducible repeat (first | refine blk_drewN ?_ _ | refine blk_drew ?_ | refine blk_alloc ?_ _)); exact BK287.out⟩, ⟨by (with_reducible repeat (first | refine blk_drewN ?_ _ | refine blk_drew ?_ | refine blk_alloc ?_ _)); exact BK292.out⟩, ⟨by repeat (first | (with_reducible first | exact HB.out | apply below_alloc | apply pw_below_drewN | apply below_drew1 | refine below_set ?_ GE270.out | refine below_set ?_ GE271.out | refine below_set ?_ GE276.out | refine below_set ?_ GE281.out | refine below_set ?_ GE285.out | refine below_set ?_ GE287.out | refine below_set ?_ GE292.out) | exact HB.out)⟩⟩
                 ·
                  as_aux_lemma =>
                  rw [if_neg c366] at H
                  have c366b0 : ((decide (t282 > 0)) == (decide (t264 > 0))) = false := by simpa using c366
                  (try (have c366b1 : decide ((decide (t282 > 0)) = (decide (t264 > 0))) = false := by simpa using c366))
                  (try (have c366b2 : ((decide (t282 > 0)) == (decide (t264 > 0))) = false := by simpa using c366))
                  (try (have c366b3 : ¬ ((decide (t282 > 0)) = (decide (t264 > 0))) := by simpa using c366))
                  clear c366
                  by_cases c380 : t272 = 5
                  ·
                   as_aux_lemma =>
                   rw [if_pos c380] at H
                   have c380b0 : (t272 == 5) = true := beq_iff_eq.mpr c380
                   have c380b1 : (t272 != 5) = false := bne_eq_false_iff_eq.mpr c380
                   clear c380
                   by_cases c381 : ((decide (t282 < 0)) == (decide (t264 > 0))) = true
                   ·
                    rw [if_pos c381] at H
                    have c381b0 : ((decide (t282 < 0)) == (decide (t264 > 0))) = true := c381
                    (try (have c381b1 : decide ((decide (t282 < 0)) = (decide (t264 > 0))) = true := by simpa using c381))
                    (try (have c381b2 : ((decide (t282 < 0)) == (decide (t264 > 0))) = true := by simpa using c381))
                    clear c381
                    have H' := Aside0.mk H
                    clear H
                    have hnb382 := NB285_270.out
                    have hnc382 := NB270_285.out
                    have hnb383 := NB285_271.out
                    have hnc383 := NB271_285.out
                    have hnb384 := NB285_276.out
                    have hnc384 := NB276_285.out
                    have hnb385 := NB285_281.out
                    have hnc385 := NB281_285.out
                    have hnb386 := NB285_287.out
                    have hnc386 := NB287_285.out
                    have hnb387 := NB285_292.out
                    have hnc387 := NB292_285.out
                    have hcz388_0 : w364.cell? ⟨gb285, 0, none⟩ = some (.int .i64 t282) := (blk_cell BK285.out 0).trans rfl
                    have hcz388_1 : w364.cell? ⟨gb285, 1, none⟩ = some (.int .i64 t283) := (blk_cell BK285.out 1).trans rfl
                    have hfz388_0 := blk_frozen BK285.out 0
                    have hfz388_1 := blk_frozen BK285.out 1
                    have hnb389 := NB270_271.out
                    have hnc389 := NB271_270.out
                    have hnb390 := NB270_276.out
                    have hnc390 := NB276_270.out
                    have hnb391 := NB270_281.out
                    have hnc391 := NB281_270.out
                    have hnb392 := NB270_287.out
                    have hnc392 := NB287_270.out
                    have hnb393 := NB270_292.out
                    have hnc393 := NB292_270.out
                    have hcz394_0 : w364.cell? ⟨gb270, 0, none⟩ = some (.int .i64 t264) := (blk_cell BK270.out 0).trans rfl
                    have hcz394_1 : w364.cell? ⟨gb270, 1, none⟩ = some (.int .i64 t265) := (blk_cell BK270.out 1).trans rfl
                    have hfz394_0 := blk_frozen BK270.out 0
                    have hfz394_1 := blk_frozen BK270.out 1
                    go_wp2
                    go_meet
                    case rel => exact ⟨_, (true), (by first | rfl | (simp; done) | (simp [*]; done)), H', ⟨by have := HJ10.out; have := HJ49.out; have := HJ75.out; first | omega | exact Nat.le_refl _⟩, ⟨by (with_reducible repeat (first | refine blk_drewN ?_ _ | refine blk_drew ?_ | refine blk_alloc ?_ _)); exact BK270.out⟩, ⟨by (with_reducible repeat (first | refine blk_drewN ?_ _ | refine blk_drew ?_ | refine blk_alloc ?_ _)); exact BK271.out⟩, ⟨by (with_reducible repeat (first | refine blk_drewN ?_ _ | refine blk_drew ?_ | refine blk_alloc ?_ _)); exact BK276.out⟩, ⟨by (with_reducible repeat (first | refine blk_drewN ?_ _ | refine blk_drew ?_ | refine blk_alloc ?_ _)); exact BK281.out⟩, ⟨by (with_reducible repeat (first | refine blk_drewN ?_ _ | refine blk_drew ?_ | refine blk_alloc ?_ _)); exact BK285.out⟩, ⟨by (with_reducible repeat (first | refine blk_drewN ?_ _ | refine blk_drew ?_ | refine blk_alloc ?_ _)); exact BK287.out⟩, ⟨by (with_reducible repeat (first | refine blk_drewN ?_ _ | refine blk_drew ?_ | refine blk_alloc ?_ _)); exact BK292.out⟩, ⟨by repeat (first | (with_reducible first | exact HB.out | apply below_alloc | apply pw_below_drewN | apply below_drew1 | refine below_set ?_ GE270.out | refine below_set ?_ GE271.out | refine below_set ?_ GE276.out | refine below_set ?_ GE281.out | refine below_set ?_ GE285.out | refine below_set ?_ GE287.out | refine below_set ?_ GE292.out) | exact HB.out)⟩⟩
                   ·
                    as_aux_lemma =>
                    rw [if_neg c381] at H
                    have c381b0 : ((decide (t282 < 0)) == (decide (t264 > 0))) = false := by simpa using c381
                    (try (have c381b1 : decide ((decide (t282 < 0)) = (decide (t264 > 0))) = false := by simpa using c381))
                    (try (have c381b2 : ((decide (t282 < 0)) == (decide (t264 > 0))) = false := by simpa using c381))
                    (try (have c381b3 : ¬ ((decide (t282 < 0)) = (decide (t264 > 0))) := by simpa using c381))
                    clear c381
                    by_cases c395 : t272 = 6
                    ·
                     rw [if_pos c395] at H
                     have c395b0 : (t272 == 6) = true := beq_iff_eq.mpr c395
                     have c395b1 : (t272 != 6) = false := bne_eq_false_iff_eq.mpr c395
                     clear c395
                     have H' := Aside0.mk H
                     clear H
                     have hnb396 := NB285_270.out
                     have hnc396 := NB270_285.out
                     have hnb397 := NB285_271.out
                     have hnc397 := NB271_285.out
                     have hnb398 := NB285_276.out
                     have hnc398 := NB276_285.out
                     have hnb399 := NB285_281.out
                     have hnc399 := NB281_285.out
                     have hnb400 := NB285_287.out
                     have hnc400 := NB287_285.out
                     have hnb401 := NB285_292.out
                     have hnc401 := NB292_285.out
                     have hcz402_0 : w364.cell? ⟨gb285, 0, none⟩ = some (.int .i64 t282) := (blk_cell BK285.out 0).trans rfl
                     have hcz402_1 : w364.cell? ⟨gb285, 1, none⟩ = some (.int .i64 t283) := (blk_cell BK285.out 1).trans rfl
                     have hfz402_0 := blk_frozen BK285.out 0
                     have hfz402_1 := blk_frozen BK285.out 1
                     have hnb403 := NB270_271.out
                     have hnc403 := NB271_270.out
                     have hnb404 := NB270_276.out
                     have hnc404 := NB276_270.out
                     have hnb405 := NB270_281.out
                     have hnc405 := NB281_270.out
                     have hnb406 := NB270_287.out
                     have hnc406 := NB287_270.out
                     have hnb407 := NB270_292.out
                     have hnc407 := NB292_270.out
                     have hcz408_0 : w364.cell? ⟨gb270, 0, none⟩ = some (.int .i64 t264) := (blk_cell BK270.out 0).trans rfl
                     have hcz408_1 : w364.cell? ⟨gb270, 1, none⟩ = some (.int .i64 t265) := (blk_cell BK270.out 1).trans rfl
                     have hfz408_0 := blk_frozen BK270.out 0
                     have hfz408_1 := blk_frozen BK270.out 1
                     have hnb409 := NB281_271.out
                     have hnc409 := NB271_281.out
                     have hnb410 := NB281_276.out
                     have hnc410 := NB276_281.out
                     have hnb411 := NB281_287.out
                     have hnc411 := NB287_281.out
                     have hnb412 := NB281_292.out
                     have hnc412 := NB292_281.out
                     have hcz413_0 : w364.cell? ⟨gb281, 0, none⟩ = some (.int .i64 t278) := (blk_cell BK281.out 0).trans rfl
                     have hcz413_1 : w364.cell? ⟨gb281, 1, none⟩ = some (.int .i64 t279) := (blk_cell BK281.out 1).trans rfl
                     have hfz413_0 := blk_frozen BK281.out 0
                     have hfz413_1 := blk_frozen BK281.out 1
                     go_wp2
                     go_meet
                     case rel => exact ⟨_, (((Int.tmod t278 2) == 0)), (by first | rfl | (simp; done) | (simp [*]; done)), H', ⟨by have := HJ10.out; have := HJ49.out; have := HJ75.out; first | omega | exact Nat.le_refl _⟩, ⟨by (with_reducible repeat (first | refine blk_drewN ?_ _ | refine blk_drew ?_ | refine blk_alloc ?_ _)); exact BK270.out⟩, ⟨by (with_reducible repeat (first | refine blk_drewN ?_ _ | refine blk_drew ?_ | refine blk_alloc ?_ _)); exact BK271.out⟩, ⟨by (with_reducible repeat (first | refine blk_drewN ?_ _ | refine blk_drew ?_ | refine blk_alloc ?_ _)); exact BK276.out⟩, ⟨by (with_reducible repeat (first | refine blk_drewN ?_ _ | refine blk_drew ?_ | refine blk_alloc ?_ _)); exact BK281.out⟩, ⟨by (with_reducible repeat (first | refine blk_drewN ?_ _ | refine blk_drew ?_ | refine blk_alloc ?_ _)); exact BK285.out⟩, ⟨by (with_reducible repeat (first | refine blk_drewN ?_ _ | refine blk_drew ?_ | refine blk_alloc ?_ _)); exact BK287.out⟩, ⟨by (with_reducible repeat (first | refine blk_drewN ?_ _ | refine blk_drew ?_ | refine blk_alloc ?_ _)); exact BK292.out⟩, ⟨by repeat (first | (with_reducible first | exact HB.out | apply below_alloc | apply pw_below_drewN | apply below_drew1 | refine below_set ?_ GE270.out | refine below_set ?_ GE271.out | refine below_set ?_ GE276.out | refine below_set ?_ GE281.out | refine below_set ?_ GE285.out | refine below_set ?_ GE287.out | refine below_set ?_ GE292.out) | exact HB.out)⟩⟩
                    ·
                     rw [if_neg c395] at H
                     have c395b0 : (t272 == 6) = false := beq_eq_false_iff_ne.mpr c395
                     have c395b1 : (t272 != 6) = true := bne_iff_ne.mpr c395
                     have H' := Aside0.mk H
                     clear H
                     have hnb414 := NB285_270.out
                     have hnc414 := NB270_285.out
                     have hnb415 := NB285_271.out
                     have hnc415 := NB271_285.out
                     have hnb416 := NB285_276.out
                     have hnc416 := NB276_285.out
                     have hnb417 := NB285_281.out
                     have hnc417 := NB281_285.out
                     have hnb418 := NB285_287.out
                     have hnc418 := NB287_285.out
                     have hnb419 := NB285_292.out
                     have hnc419 := NB292_285.out
                     have hcz420_0 : w364.cell? ⟨gb285, 0, none⟩ = some (.int .i64 t282) := (blk_cell BK285.out 0).trans rfl
                     have hcz420_1 : w364.cell? ⟨gb285, 1, none⟩ = some (.int .i64 t283) := (blk_cell BK285.out 1).trans rfl
                     have hfz420_0 := blk_frozen BK285.out 0
                     have hfz420_1 := blk_frozen BK285.out 1
                     have hnb421 := NB270_271.out
                     have hnc421 := NB271_270.out
                     have hnb422 := NB270_276.out
                     have hnc422 := NB276_270.out
                     have hnb423 := NB270_281.out
                     have hnc423 := NB281_270.out
                     have hnb424 := NB270_287.out
                     have hnc424 := NB287_270.out
                     have hnb425 := NB270_292.out
                     have hnc425 := NB292_270.out
                     have hcz426_0 : w364.cell? ⟨gb270, 0, none⟩ = some (.int .i64 t264) := (blk_cell BK270.out 0).trans rfl
                     have hcz426_1 : w364.cell? ⟨gb270, 1, none⟩ = some (.int .i64 t265) := (blk_cell BK270.out 1).trans rfl
                     have hfz426_0 := blk_frozen BK270.out 0
                     have hfz426_1 := blk_frozen BK270.out 1
                     go_wp2
                     go_meet
                     case rel => exact ⟨_, (false), (by first | rfl | (simp; done) | (simp [*]; done)), H', ⟨by have := HJ10.out; have := HJ49.out; have := HJ75.out; first | omega | exact Nat.le_refl _⟩, ⟨by (with_reducible repeat (first | refine blk_drewN ?_ _ | refine blk_drew ?_ | refine blk_alloc ?_ _)); exact BK270.out⟩, ⟨by (with_reducible repeat (first | refine blk_drewN ?_ _ | refine blk_drew ?_ | refine blk_alloc ?_ _)); exact BK271.out⟩, ⟨by (with_reducible repeat (first | refine blk_drewN ?_ _ | refine blk_drew ?_ | refine blk_alloc ?_ _)); exact BK276.out⟩, ⟨by (with_reducible repeat (first | refine blk_drewN ?_ _ | refine blk_drew ?_ | refine blk_alloc ?_ _)); exact BK281.out⟩, ⟨by (with_reducible repeat (first | refine blk_drewN ?_ _ | refine blk_drew ?_ | refine blk_alloc ?_ _)); exact BK285.out⟩, ⟨by (with_reducible repeat (first | refine blk_drewN ?_ _ | refine blk_drew ?_ | refine blk_alloc ?_ _)); exact BK287.out⟩, ⟨by (with_reducible repeat (first | refine blk_drewN ?_ _ | refine blk_drew ?_ | refine blk_alloc ?_ _)); exact BK292.out⟩, ⟨by repeat (first | (with_reducible first | exact HB.out | apply below_alloc | apply pw_below_drewN | apply below_drew1 | refine below_set ?_ GE270.out | refine below_set ?_ GE271.out | refine below_set ?_ GE276.out | refine below_set ?_ GE281.out | refine below_set ?_ GE285.out | refine below_set ?_ GE287.out | refine below_set ?_ GE292.out) | exact HB.out)⟩⟩
                  ·
                   as_aux_lemma =>
                   rw [if_neg c380] at H
                   have c380b0 : (t272 == 5) = false := beq_eq_false_iff_ne.mpr c380
                   have c380b1 : (t272 != 5) = true := bne_iff_ne.mpr c380
                   by_cases c427 : t272 = 6
                   ·
                    rw [if_pos c427] at H
                    have c427b0 : (t272 == 6) = true := beq_iff_eq.mpr c427
                    have c427b1 : (t272 != 6) = false := bne_eq_false_iff_eq.mpr c427
                    clear c427
                    have H' := Aside0.mk H
                    clear H
                    have hnb428 := NB285_270.out
                    have hnc428 := NB270_285.out
                    have hnb429 := NB285_271.out
                    have hnc429 := NB271_285.out
                    have hnb430 := NB285_276.out
                    have hnc430 := NB276_285.out
                    have hnb431 := NB285_281.out
                    have hnc431 := NB281_285.out
                    have hnb432 := NB285_287.out
                    have hnc432 := NB287_285.out
                    have hnb433 := NB285_292.out
                    have hnc433 := NB292_285.out
                    have hcz434_0 : w364.cell? ⟨gb285, 0, none⟩ = some (.int .i64 t282) := (blk_cell BK285.out 0).trans rfl
                    have hcz434_1 : w364.cell? ⟨gb285, 1, none⟩ = some (.int .i64 t283) := (blk_cell BK285.out 1).trans rfl
                    have hfz434_0 := blk_frozen BK285.out 0
                    have hfz434_1 := blk_frozen BK285.out 1
                    have hnb435 := NB270_271.out
                    have hnc435 := NB271_270.out
                    have hnb436 := NB270_276.out
                    have hnc436 := NB276_270.out
                    have hnb437 := NB270_281.out
                    have hnc437 := NB281_270.out
                    have hnb438 := NB270_287.out
                    have hnc438 := NB287_270.out
                    have hnb439 := NB270_292.out
                    have hnc439 := NB292_270.out
                    have hcz440_0 : w364.cell? ⟨gb270, 0, none⟩ = some (.int .i64 t264) := (blk_cell BK270.out 0).trans rfl
                    have hcz440_1 : w364.cell? ⟨gb270, 1, none⟩ = some (.int .i64 t265) := (blk_cell BK270.out 1).trans rfl
                    have hfz440_0 := blk_frozen BK270.out 0
                    have hfz440_1 := blk_frozen BK270.out 1
                    have hnb441 := NB281_271.out
                    have hnc441 := NB271_281.out
                    have hnb442 := NB281_276.out
                    have hnc442 := NB276_281.out
                    have hnb443 := NB281_287.out
                    have hnc443 := NB287_281.out
                    have hnb444 := NB281_292.out
                    have hnc444 := NB292_281.out
                    have hcz445_0 : w364.cell? ⟨gb281, 0, none⟩ = some (.int .i64 t278) := (blk_cell BK281.out 0).trans rfl
                    have hcz445_1 : w364.cell? ⟨gb281, 1, none⟩ = some (.int .i64 t279) := (blk_cell BK281.out 1).trans rfl
                    have hfz445_0 := blk_frozen BK281.out 0
                    have hfz445_1 := blk_frozen BK281.out 1
                    go_wp2
                    go_meet
                    case rel => exact ⟨_, (((Int.tmod t278 2) == 0)), (by first | rfl | (simp; done) | (simp [*]; done)), H', ⟨by have := HJ10.out; have := HJ49.out; have := HJ75.out; first | omega | exact Nat.le_refl _⟩, ⟨by (with_reducible repeat (first | refine blk_drewN ?_ _ | refine blk_drew ?_ | refine blk_alloc ?_ _)); exact BK270.out⟩, ⟨by (with_reducible repeat (first | refine blk_drewN ?_ _ | refine blk_drew ?_ | refine blk_alloc ?_ _)); exact BK271.out⟩, ⟨by (with_reducible repeat (first | refine blk_drewN ?_ _ | refine blk_drew ?_ | refine blk_alloc ?_ _)); exact BK276.out⟩, ⟨by (with_reducible repeat (first | refine blk_drewN ?_ _ | refine blk_drew ?_ | refine blk_alloc ?_ _)); exact BK281.out⟩, ⟨by (with_reducible repeat (first | refine blk_drewN ?_ _ | refine blk_drew ?_ | refine blk_alloc ?_ _)); exact BK285.out⟩, ⟨by (with_reducible repeat (first | refine blk_drewN ?_ _ | refine blk_drew ?_ | refine blk_alloc ?_ _)); exact BK287.out⟩, ⟨by (with_reducible repeat (first | refine blk_drewN ?_ _ | refine blk_drew ?_ | refine blk_alloc ?_ _)); exact BK292.out⟩, ⟨by repeat (first | (with_reducible first | exact HB.out | apply below_alloc | apply pw_below_drewN | apply below_drew1 | refine below_set ?_ GE270.out | refine below_set ?_ GE271.out | refine below_set ?_ GE276.out | refine below_set ?_ GE281.out | refine below_set ?_ GE285.out | refine below_set ?_ GE287.out | refine below_set ?_ GE292.out) | exact HB.out)⟩⟩
                   ·
                    rw [if_neg c427] at H
                    have c427b0 : (t272 == 6) = false := beq_eq_false_iff_ne.mpr c427
                    have c427b1 : (t272 != 6) = true := bne_iff_ne.mpr c427
                    have H' := Aside0.mk H
                    clear H
                    have hnb446 := NB285_270.out
                    have hnc446 := NB270_285.out
                    have hnb447 := NB285_271.out
                    have hnc447 := NB271_285.out
                    have hnb448 := NB285_276.out
                    have hnc448 := NB276_285.out
                    have hnb449 := NB285_281.out
                    have hnc449 := NB281_285.out
                    have hnb450 := NB285_287.out
                    have hnc450 := NB287_285.out
                    have hnb451 := NB285_292.out
                    have hnc451 := NB292_285.out
                    have hcz452_0 : w364.cell? ⟨gb285, 0, none⟩ = some (.int .i64 t282) := (blk_cell BK285.out 0).trans rfl
                    have hcz452_1 : w364.cell? ⟨gb285, 1, none⟩ = some (.int .i64 t283) := (blk_cell BK285.out 1).trans rfl
                    have hfz452_0 := blk_frozen BK285.out 0
                    have hfz452_1 := blk_frozen BK285.out 1
                    have hnb453 := NB270_271.out
                    have hnc453 := NB271_270.out
                    have hnb454 := NB270_276.out
                    have hnc454 := NB276_270.out
                    have hnb455 := NB270_281.out
                    have hnc455 := NB281_270.out
                    have hnb456 := NB270_287.out
                    have hnc456 := NB287_270.out
                    have hnb457 := NB270_292.out
                    have hnc457 := NB292_270.out
                    have hcz458_0 : w364.cell? ⟨gb270, 0, none⟩ = some (.int .i64 t264) := (blk_cell BK270.out 0).trans rfl
                    have hcz458_1 : w364.cell? ⟨gb270, 1, none⟩ = some (.int .i64 t265) := (blk_cell BK270.out 1).trans rfl
                    have hfz458_0 := blk_frozen BK270.out 0
                    have hfz458_1 := blk_frozen BK270.out 1
                    go_wp2
                    go_meet
                    case rel => exact ⟨_, (false), (by first | rfl | (simp; done) | (simp [*]; done)), H', ⟨by have := HJ10.out; have := HJ49.out; have := HJ75.out; first | omega | exact Nat.le_refl _⟩, ⟨by (with_reducible repeat (first | refine blk_drewN ?_ _ | refine blk_drew ?_ | refine blk_alloc ?_ _)); exact BK270.out⟩, ⟨by (with_reducible repeat (first | refine blk_drewN ?_ _ | refine blk_drew ?_ | refine blk_alloc ?_ _)); exact BK271.out⟩, ⟨by (with_reducible repeat (first | refine blk_drewN ?_ _ | refine blk_drew ?_ | refine blk_alloc ?_ _)); exact BK276.out⟩, ⟨by (with_reducible repeat (first | refine blk_drewN ?_ _ | refine blk_drew ?_ | refine blk_alloc ?_ _)); exact BK281.out⟩, ⟨by (with_reducible repeat (first | refine blk_drewN ?_ _ | refine blk_drew ?_ | refine blk_alloc ?_ _)); exact BK285.out⟩, ⟨by (with_reducible repeat (first | refine blk_drewN ?_ _ | refine blk_drew ?_ | refine blk_alloc ?_ _)); exact BK287.out⟩, ⟨by (with_reducible repeat (first | refine blk_drewN ?_ _ | refine blk_drew ?_ | refine blk_alloc ?_ _)); exact BK292.out⟩, ⟨by repeat (first | (with_reducible first | exact HB.out | apply below_alloc | apply pw_below_drewN | apply below_drew1 | refine below_set ?_ GE270.out | refine below_set ?_ GE271.out | refine below_set ?_ GE276.out | refine below_set ?_ GE281.out | refine below_set ?_ GE285.out | refine below_set ?_ GE287.out | refine below_set ?_ GE292.out) | exact HB.out)⟩⟩
                ·
                 as_aux_lemma =>
                 rw [if_neg c365] at H
                 have c365b0 : (t272 == 4) = false := beq_eq_false_iff_ne.mpr c365
                 have c365b1 : (t272 != 4) = true := bne_iff_ne.mpr c365
                 (first | rw [c365b0] | (simp only [i64_w, i32_w]; rw [c365b0]) | skip)
                 by_cases c459 : t272 = 5
                 ·
                  as_aux_lemma =>
                  rw [if_pos c459] at H
                  have c459b0 : (t272 == 5) = true := beq_iff_eq.mpr c459
                  have c459b1 : (t272 != 5) = false := bne_eq_false_iff_eq.mpr c459
                  clear c459
                  by_cases c460 : ((decide (t282 < 0)) == (decide (t264 > 0))) = true
                  ·
                   rw [if_pos c460] at H
                   have c460b0 : ((decide (t282 < 0)) == (decide (t264 > 0))) = true := c460
                   (try (have c460b1 : decide ((decide (t282 < 0)) = (decide (t264 > 0))) = true := by simpa using c460))
                   (try (have c460b2 : ((decide (t282 < 0)) == (decide (t264 > 0))) = true := by simpa using c460))
                   clear c460
                   have H' := Aside0.mk H
                   clear H
                   have hnb461 := NB285_270.out
                   have hnc461 := NB270_285.out
                   have hnb462 := NB285_271.out
                   have hnc462 := NB271_285.out
                   have hnb463 := NB285_276.out
                   have hnc463 := NB276_285.out
                   have hnb464 := NB285_281.out
                   have hnc464 := NB281_285.out
                   have hnb465 := NB285_287.out
                   have hnc465 := NB287_285.out
                   have hnb466 := NB285_292.out
                   have hnc466 := NB292_285.out
                   have hcz467_0 : w364.cell? ⟨gb285, 0, none⟩ = some (.int .i64 t282) := (blk_cell BK285.out 0).trans rfl
                   have hcz467_1 : w364.cell? ⟨gb285, 1, none⟩ = some (.int .i64 t283) := (blk_cell BK285.out 1).trans rfl
                   have hfz467_0 := blk_frozen BK285.out 0
                   have hfz467_1 := blk_frozen BK285.out 1
                   have hnb468 := NB270_271.out
                   have hnc468 := NB271_270.out
                   have hnb469 := NB270_276.out
                   have hnc469 := NB276_270.out
                   have hnb470 := NB270_281.out
                   have hnc470 := NB281_270.out
                   have hnb471 := NB270_287.out
                   have hnc471 := NB287_270.out
                   have hnb472 := NB270_292.out
                   have hnc472 := NB292_270.out
                   have hcz473_0 : w364.cell? ⟨gb270, 0, none⟩ = some (.int .i64 t264) := (blk_cell BK270.out 0).trans rfl
                   have hcz473_1 : w364.cell? ⟨gb270, 1, none⟩ = some (.int .i64 t265) := (blk_cell BK270.out 1).trans rfl
                   have hfz473_0 := blk_frozen BK270.out 0
                   have hfz473_1 := blk_frozen BK270.out 1
                   go_wp2
                   go_meet
                   case rel => exact ⟨_, (true), (by first | rfl | (simp; done) | (simp [*]; done)), H', ⟨by have := HJ10.out; have := HJ49.out; have := HJ75.out; first | omega | exact Nat.le_refl _⟩, ⟨by (with_reducible repeat (first | refine blk_drewN ?_ _ | refine blk_drew ?_ | refine blk_alloc ?_ _)); exact BK270.out⟩, ⟨by (with_reducible repeat (first | refine blk_drewN ?_ _ | refine blk_drew ?_ | refine blk_alloc ?_ _)); exact BK271.out⟩, ⟨by (with_reducible repeat (first | refine blk_drewN ?_ _ | refine blk_drew ?_ | refine blk_alloc ?_ _)); exact BK276.out⟩, ⟨by (with_reducible repeat (first | refine blk_drewN ?_ _ | refine blk_drew ?_ | refine blk_alloc ?_ _)); exact BK281.out⟩, ⟨by (with_reducible repeat (first | refine blk_drewN ?_ _ | refine blk_drew ?_ | refine blk_alloc ?_ _)); exact BK285.out⟩, ⟨by (with_reducible repeat (first | refine blk_drewN ?_ _ | refine blk_drew ?_ | refine blk_alloc ?_ _)); exact BK287.out⟩, ⟨by (with_reducible repeat (first | refine blk_drewN ?_ _ | refine blk_drew ?_ | refine blk_alloc ?_ _)); exact BK292.out⟩, ⟨by repeat (first | (with_reducible first | exact HB.out | apply below_alloc | apply pw_below_drewN | apply below_drew1 | refine below_set ?_ GE270.out | refine below_set ?_ GE271.out | refine below_set ?_ GE276.out | refine below_set ?_ GE281.out | refine below_set ?_ GE285.out | refine below_set ?_ GE287.out | refine below_set ?_ GE292.out) | exact HB.out)⟩⟩
                  ·
                   as_aux_lemma =>
                   rw [if_neg c460] at H
                   have c460b0 : ((decide (t282 < 0)) == (decide (t264 > 0))) = false := by simpa using c460
                   (try (have c460b1 : decide ((decide (t282 < 0)) = (decide (t264 > 0))) = false := by simpa using c460))
                   (try (have c460b2 : ((decide (t282 < 0)) == (decide (t264 > 0))) = false := by simpa using c460))
                   (try (have c460b3 : ¬ ((decide (t282 < 0)) = (decide (t264 > 0))) := by simpa using c460))
                   clear c460
                   by_cases c474 : t272 = 6
                   ·
                    rw [if_pos c474] at H
                    have c474b0 : (t272 == 6) = true := beq_iff_eq.mpr c474
                    have c474b1 : (t272 != 6) = false := bne_eq_false_iff_eq.mpr c474
                    clear c474
                    have H' := Aside0.mk H
                    clear H
                    have hnb475 := NB285_270.out
                    have hnc475 := NB270_285.out
                    have hnb476 := NB285_271.out
                    have hnc476 := NB271_285.out
                    have hnb477 := NB285_276.out
                    have hnc477 := NB276_285.out
                    have hnb478 := NB285_281.out
                    have hnc478 := NB281_285.out
                    have hnb479 := NB285_287.out
                    have hnc479 := NB287_285.out
                    have hnb480 := NB285_292.out
                    have hnc480 := NB292_285.out
                    have hcz481_0 : w364.cell? ⟨gb285, 0, none⟩ = some (.int .i64 t282) := (blk_cell BK285.out 0).trans rfl
                    have hcz481_1 : w364.cell? ⟨gb285, 1, none⟩ = some (.int .i64 t283) := (blk_cell BK285.out 1).trans rfl
                    have hfz481_0 := blk_frozen BK285.out 0
                    have hfz481_1 := blk_frozen BK285.out 1
                    have hnb482 := NB270_271.out
                    have hnc482 := NB271_270.out
                    have hnb483 := NB270_276.out
                    have hnc483 := NB276_270.out
                    have hnb484 := NB270_281.out
                    have hnc484 := NB281_270.out
                    have hnb485 := NB270_287.out
                    have hnc485 := NB287_270.out
                    have hnb486 := NB270_292.out
                    have hnc486 := NB292_270.out
                    have hcz487_0 : w364.cell? ⟨gb270, 0, none⟩ = some (.int .i64 t264) := (blk_cell BK270.out 0).trans rfl
                    have hcz487_1 : w364.cell? ⟨gb270, 1, none⟩ = some (.int .i64 t265) := (blk_cell BK270.out 1).trans rfl
                    have hfz487_0 := blk_frozen BK270.out 0
                    have hfz487_1 := blk_frozen BK270.out 1
                    have hnb488 := NB281_271.out
                    have hnc488 := NB271_281.out
                    have hnb489 := NB281_276.out
                    have hnc489 := NB276_281.out
                    have hnb490 := NB281_287.out
                    have hnc490 := NB287_281.out
                    have hnb491 := NB281_292.out
                    have hnc491 := NB292_281.out
                    have hcz492_0 : w364.cell? ⟨gb281, 0, none⟩ = some (.int .i64 t278) := (blk_cell BK281.out 0).trans rfl
                    have hcz492_1 : w364.cell? ⟨gb281, 1, none⟩ = some (.int .i64 t279) := (blk_cell BK281.out 1).trans rfl
                    have hfz492_0 := blk_frozen BK281.out 0
                    have hfz492_1 := blk_frozen BK281.out 1
                    go_wp2
                    go_meet
                    case rel => exact ⟨_, (((Int.tmod t278 2) == 0)), (by first | rfl | (simp; done) | (simp [*]; done)), H', ⟨by have := HJ10.out; have := HJ49.out; have := HJ75.out; first | omega | exact Nat.le_refl _⟩, ⟨by (with_reducible repeat (first | refine blk_drewN ?_ _ | refine blk_drew ?_ | refine blk_alloc ?_ _)); exact BK270.out⟩, ⟨by (with_reducible repeat (first | refine blk_drewN ?_ _ | refine blk_drew ?_ | refine blk_alloc ?_ _)); exact BK271.out⟩, ⟨by (with_reducible repeat (first | refine blk_drewN ?_ _ | refine blk_drew ?_ | refine blk_alloc ?_ _)); exact BK276.out⟩, ⟨by (with_reducible repeat (first | refine blk_drewN ?_ _ | refine blk_drew ?_ | refine blk_alloc ?_ _)); exact BK281.out⟩, ⟨by (with_reducible repeat (first | refine blk_drewN ?_ _ | refine blk_drew ?_ | refine blk_alloc ?_ _)); exact BK285.out⟩, ⟨by (with_reducible repeat (first | refine blk_drewN ?_ _ | refine blk_drew ?_ | refine blk_alloc ?_ _)); exact BK287.out⟩, ⟨by (with_reducible repeat (first | refine blk_drewN ?_ _ | refine blk_drew ?_ | refine blk_alloc ?_ _)); exact BK292.out⟩, ⟨by repeat (first | (with_reducible first | exact HB.out | apply below_alloc | apply pw_below_drewN | apply below_drew1 | refine below_set ?_ GE270.out | refine below_set ?_ GE271.out | refine below_set ?_ GE276.out | refine below_set ?_ GE281.out | refine below_set ?_ GE285.out | refine below_set ?_ GE287.out | refine below_set ?_ GE292.out) | exact HB.out)⟩⟩
                   ·
                    rw [if_neg c474] at H
                    have c474b0 : (t272 == 6) = false := beq_eq_false_iff_ne.mpr c474
                    have c474b1 : (t272 != 6) = true := bne_iff_ne.mpr c474
                    have H' := Aside0.mk H
                    clear H
                    have hnb493 := NB285_270.out
                    have hnc493 := NB270_285.out
                    have hnb494 := NB285_271.out
                    have hnc494 := NB271_285.out
                    have hnb495 := NB285_276.out
                    have hnc495 := NB276_285.out
                    have hnb496 := NB285_281.out
                    have hnc496 := NB281_285.out
                    have hnb497 := NB285_287.out
                    have hnc497 := NB287_285.out
                    have hnb498 := NB285_292.out
                    have hnc498 := NB292_285.out
                    have hcz499_0 : w364.cell? ⟨gb285, 0, none⟩ = some (.int .i64 t282) := (blk_cell BK285.out 0).trans rfl
                    have hcz499_1 : w364.cell? ⟨gb285, 1, none⟩ = some (.int .i64 t283) := (blk_cell BK285.out 1).trans rfl
                    have hfz499_0 := blk_frozen BK285.out 0
                    have hfz499_1 := blk_frozen BK285.out 1
                    have hnb500 := NB270_271.out
                    have hnc500 := NB271_270.out
                    have hnb501 := NB270_276.out
                    have hnc501 := NB276_270.out
                    have hnb502 := NB270_281.out
                    have hnc502 := NB281_270.out
                    have hnb503 := NB270_287.out
                    have hnc503 := NB287_270.out
                    have hnb504 := NB270_292.out
                    have hnc504 := NB292_270.out
                    have hcz505_0 : w364.cell? ⟨gb270, 0, none⟩ = some (.int .i64 t264) := (blk_cell BK270.out 0).trans rfl
                    have hcz505_1 : w364.cell? ⟨gb270, 1, none⟩ = some (.int .i64 t265) := (blk_cell BK270.out 1).trans rfl
                    have hfz505_0 := blk_frozen BK270.out 0
                    have hfz505_1 := blk_frozen BK270.out 1
                    go_wp2
                    go_meet
                    case rel => exact ⟨_, (false), (by first | rfl | (simp; done) | (simp [*]; done)), H', ⟨by have := HJ10.out; have := HJ49.out; have := HJ75.out; first | omega | exact Nat.le_refl _⟩, ⟨by (with_reducible repeat (first | refine blk_drewN ?_ _ | refine blk_drew ?_ | refine blk_alloc ?_ _)); exact BK270.out⟩, ⟨by (with_reducible repeat (first | refine blk_drewN ?_ _ | refine blk_drew ?_ | refine blk_alloc ?_ _)); exact BK271.out⟩, ⟨by (with_reducible repeat (first | refine blk_drewN ?_ _ | refine blk_drew ?_ | refine blk_alloc ?_ _)); exact BK276.out⟩, ⟨by (with_reducible repeat (first | refine blk_drewN ?_ _ | refine blk_drew ?_ | refine blk_alloc ?_ _)); exact BK281.out⟩, ⟨by (with_reducible repeat (first | refine blk_drewN ?_ _ | refine blk_drew ?_ | refine blk_alloc ?_ _)); exact BK285.out⟩, ⟨by (with_reducible repeat (first | refine blk_drewN ?_ _ | refine blk_drew ?_ | refine blk_alloc ?_ _)); exact BK287.out⟩, ⟨by (with_reducible repeat (first | refine blk_drewN ?_ _ | refine blk_drew ?_ | refine blk_alloc ?_ _)); exact BK292.out⟩, ⟨by repeat (first | (with_reducible first | exact HB.out | apply below_alloc | apply pw_below_drewN | apply below_drew1 | refine below_set ?_ GE270.out | refine below_set ?_ GE271.out | refine below_set ?_ GE276.out | refine below_set ?_ GE281.out | refine below_set ?_ GE285.out | refine below_set ?_ GE287.out | refine below_set ?_ GE292.out) | exact HB.out)⟩⟩
                 ·
                  rw [if_neg c459] at H
                  have c459b0 : (t272 == 5) = false := beq_eq_false_iff_ne.mpr c459
                  have c459b1 : (t272 != 5) = true := bne_iff_ne.mpr c459
                  by_cases c506 : t272 = 6
                  ·
                   rw [if_pos c506] at H
                   have c506b0 : (t272 == 6) = true := beq_iff_eq.mpr c506
                   have c506b1 : (t272 != 6) = false := bne_eq_false_iff_eq.mpr c506
                   clear c506
                   have H' := Aside0.mk H
                   clear H
                   have hnb507 := NB281_270.out
                   have hnc507 := NB270_281.out
                   have hnb508 := NB281_271.out
                   have hnc508 := NB271_281.out
                   have hnb509 := NB281_276.out
                   have hnc509 := NB276_281.out
                   have hnb510 := NB281_285.out
                   have hnc510 := NB285_281.out
                   have hnb511 := NB281_287.out
                   have hnc511 := NB287_281.out
                   have hnb512 := NB281_292.out
                   have hnc512 := NB292_281.out
                   have hcz513_0 : w364.cell? ⟨gb281, 0, none⟩ = some (.int .i64 t278) := (blk_cell BK281.out 0).trans rfl
                   have hcz513_1 : w364.cell? ⟨gb281, 1, none⟩ = some (.int .i64 t279) := (blk_cell BK281.out 1).trans rfl
                   have hfz513_0 := blk_frozen BK281.out 0
                   have hfz513_1 := blk_frozen BK281.out 1
                   go_wp2
                   go_meet
                   case rel => exact ⟨_, (((Int.tmod t278 2) == 0)), (by first | rfl | (simp; done) | (simp [*]; done)), H', ⟨by have := HJ10.out; have := HJ49.out; have := HJ75.out; first | omega | exact Nat.le_refl _⟩, ⟨by (with_reducible repeat (first | refine blk_drewN ?_ _ | refine blk_drew ?_ | refine blk_alloc ?_ _)); exact BK270.out⟩, ⟨by (with_reducible repeat (first | refine blk_drewN ?_ _ | refine blk_drew ?_ | refine blk_alloc ?_ _)); exact BK271.out⟩, ⟨by (with_reducible repeat (first | refine blk_drewN ?_ _ | refine blk_drew ?_ | refine blk_alloc ?_ _)); exact BK276.out⟩, ⟨by (with_reducible repeat (first | refine blk_drewN ?_ _ | refine blk_drew ?_ | refine blk_alloc ?_ _)); exact BK281.out⟩, ⟨by (with_reducible repeat (first | refine blk_drewN ?_ _ | refine blk_drew ?_ | refine blk_alloc ?_ _)); exact BK285.out⟩, ⟨by (with_reducible repeat (first | refine blk_drewN ?_ _ | refine blk_drew ?_ | refine blk_alloc ?_ _)); exact BK287.out⟩, ⟨by (with_reducible repeat (first | refine blk_drewN ?_ _ | refine blk_drew ?_ | refine blk_alloc ?_ _)); exact BK292.out⟩, ⟨by repeat (first | (with_reducible first | exact HB.out | apply below_alloc | apply pw_below_drewN | apply below_drew1 | refine below_set ?_ GE270.out | refine below_set ?_ GE271.out | refine below_set ?_ GE276.out | refine below_set ?_ GE281.out | refine below_set ?_ GE285.out | refine below_set ?_ GE287.out | refine below_set ?_ GE292.out) | exact HB.out)⟩⟩
                  ·
                   rw [if_neg c506] at H
                   have c506b0 : (t272 == 6) = false := beq_eq_false_iff_ne.mpr c506
                   have c506b1 : (t272 != 6) = true := bne_iff_ne.mpr c506
                   have H' := Aside0.mk H
                   clear H
                   go_wp2
                   go_meet
                   case rel => exact ⟨_, (false), (by first | rfl | (simp; done) | (simp [*]; done)), H', ⟨by have := HJ10.out; have := HJ49.out; have := HJ75.out; first | omega | exact Nat.le_refl _⟩, ⟨by (with_reducible repeat (first | refine blk_drewN ?_ _ | refine blk_drew ?_ | refine blk_alloc ?_ _)); exact BK270.out⟩, ⟨by (with_reducible repeat (first | refine blk_drewN ?_ _ | refine blk_drew ?_ | refine blk_alloc ?_ _)); exact BK271.out⟩, ⟨by (with_reducible repeat (first | refine blk_drewN ?_ _ | refine blk_drew ?_ | refine blk_alloc ?_ _)); exact BK276.out⟩, ⟨by (with_reducible repeat (first | refine blk_drewN ?_ _ | refine blk_drew ?_ | refine blk_alloc ?_ _)); exact BK281.out⟩, ⟨by (with_reducible repeat (first | refine blk_drewN ?_ _ | refine blk_drew ?_ | refine blk_alloc ?_ _)); exact BK285.out⟩, ⟨by (with_reducible repeat (first | refine blk_drewN ?_ _ | refine blk_drew ?_ | refine blk_alloc ?_ _)); exact BK287.out⟩, ⟨by (with_reducible repeat (first | refine blk_drewN ?_ _ | refine blk_drew ?_ | refine blk_alloc ?_ _)); exact BK292.out⟩, ⟨by repeat (first | (with_reducible first | exact HB.out | apply below_alloc | apply pw_below_drewN | apply below_drew1 | refine below_set ?_ GE270.out | refine below_set ?_ GE271.out | refine below_set ?_ GE276.out | refine below_set ?_ GE281.out | refine below_set ?_ GE285.out | refine below_set ?_ GE287.out | refine below_set ?_ GE292.out) | exact HB.out)⟩⟩
               case rest =>
                clear HC343
                try clear c1
                try clear c2
                try clear p2
                try clear c3
                try clear c4
                try clear c5
                try clear c19
                try clear c24
                try clear c26
                try clear c27
                try clear c28
                try clear c29
                try clear c30
                try clear c31
                try clear c32
                try clear c33
                try clear c34
                try clear c35
                try clear c36
                try clear c37
                try clear c38
                try clear c39
                try clear c40
                try clear c41
                try clear c42
                try clear c43
                try clear c44
                try clear c45
                try clear c46
                try clear c47
                try clear c48
                try clear c49
                try clear c50
                try clear c51
                try clear c191
                try clear c191b0
                try clear c191b1
                try clear c266
                try clear c266b0
                try clear c266b1
                try clear c267
                try clear c267b0
                try clear c267b1
                try clear c269
                try clear c270
                try clear c271
                try clear c272
                try clear c273
                try clear c277
                try clear c278
                try clear c279
                try clear c280
                try clear c281
                try clear c282
                try clear c284
                try clear c285
                try clear c286
                try clear c287
                try clear c290
                try clear c290b0
                try clear c290b1
                try clear c290b2
                try clear c292
                try clear c293
                try clear c294
                try clear c295
                try clear c296
                try clear c300
                try clear c301
                try clear c302
                try clear c303
                try clear c304
                try clear c305
                try clear c307
                try clear c308
                try clear c309
                try clear c310
                try clear c312
                try clear c313
                try clear c314
                try clear c317
                try clear c318
                try clear c319
                try clear c320
                try clear c321
                try clear c325
                try clear c326
                try clear c327
                try clear c328
                try clear c329
                try clear c330
                try clear c332
                try clear c333
                try clear c334
                try clear c335
                try clear c337
                try clear c338
                try clear c339
                try clear c341
                try clear c341b0
                try clear c341b1
                try clear c344
                try clear c345
                try clear c346
                try clear c347
                try clear c348
                try clear c352
                try clear c353
                try clear c354
                try clear c355
                try clear c356
                try clear c357
                try clear c359
                try clear c360
                try clear c361
                try clear c362
                try clear c365
                try clear c365b0
                try clear c365b1
                try clear c366
                try clear c366b0
                try clear c366b1
                try clear c366b2
                try clear c367
                try clear c368
                try clear c369
                try clear c370
                try clear c371
                try clear c372
                try clear c374
                try clear c375
                try clear c376
                try clear c377
                try clear c378
                try clear c380
                try clear c380b0
                try clear c380b1
                try clear c381
                try clear c381b0
                try clear c381b1
                try clear c381b2
                try clear c382
                try clear c383
                try clear c384
                try clear c385
                try clear c386
                try clear c387
                try clear c389
                try clear c390
                try clear c391
                try clear c392
                try clear c393
                try clear c395
                try clear c395b0
                try clear c395b1
                try clear c396
                try clear c397
                try clear c398
                try clear c399
                try clear c400
                try clear c401
                try clear c403
                try clear c404
                try clear c405
                try clear c406
                try clear c407
                try clear c409
                try clear c410
                try clear c411
                try clear c412
                try clear c414
                try clear c415
                try clear c416
                try clear c417
                try clear c418
                try clear c419
                try clear c421
                try clear c422
                try clear c423
                try clear c424
                try clear c425
                try clear c427
                try clear c427b0
                try clear c427b1
                try clear c428
                try clear c429
                try clear c430
                try clear c431
                try clear c432
                try clear c433
                try clear c435
                try clear c436
                try clear c437
                try clear c438
                try clear c439
                try clear c441
                try clear c442
                try clear c443
                try clear c444
                try clear c446
                try clear c447
                try clear c448
                try clear c449
                try clear c450
                try clear c451
                try clear c453
                try clear c454
                try clear c455
                try clear c456
                try clear c457
                try clear c459
                try clear c459b0
                try clear c459b1
                try clear c460
                try clear c460b0
                try clear c460b1
                try clear c460b2
                try clear c461
                try clear c462
                try clear c463
                try clear c464
                try clear c465
                try clear c466
                try clear c468
                try clear c469
                try clear c470
                try clear c471
                try clear c472
                try clear c474
                try clear c474b0
                try clear c474b1
                try clear c475
                try clear c476
                try clear c477
                try clear c478
                try clear c479
                try clear c480
                try clear c482
                try clear c483
                try clear c484
                try clear c485
                try clear c486
                try clear c488
                try clear c489
                try clear c490
                try clear c491
                try clear c493
                try clear c494
                try clear c495
                try clear c496
                try clear c497
                try clear c498
                try clear c500
                try clear c501
                try clear c502
                try clear c503
                try clear c504
                try clear c506
                try clear c506b0
                try clear c506b1
                try clear c507
                try clear c508
                try clear c509
                try clear c510
                try clear c511
                try clear c512
                try clear hcz274_0
                try clear hcz274_1
                try clear hcz283_0
                try clear hcz283_1
                try clear hcz288_0
                try clear hcz288_1
                try clear hcz297_0
                try clear hcz297_1
                try clear hcz306_0
                try clear hcz306_1
                try clear hcz311_0
                try clear hcz311_1
                try clear hcz315_0
                try clear hcz315_1
                try clear hcz322_0
                try clear hcz322_1
                try clear hcz331_0
                try clear hcz331_1
                try clear hcz336_0
                try clear hcz336_1
                try clear hcz340_0
                try clear hcz340_1
                try clear hcz349_0
                try clear hcz349_1
                try clear hcz358_0
                try clear hcz358_1
                try clear hcz363_0
                try clear hcz363_1
                try clear hcz373_0
                try clear hcz373_1
                try clear hcz379_0
                try clear hcz379_1
                try clear hcz388_0
                try clear hcz388_1
                try clear hcz394_0
                try clear hcz394_1
                try clear hcz402_0
                try clear hcz402_1
                try clear hcz408_0
                try clear hcz408_1
                try clear hcz413_0
                try clear hcz413_1
                try clear hcz420_0
                try clear hcz420_1
                try clear hcz426_0
                try clear hcz426_1
                try clear hcz434_0
                try clear hcz434_1
                try clear hcz440_0
                try clear hcz440_1
                try clear hcz445_0
                try clear hcz445_1
                try clear hcz452_0
                try clear hcz452_1
                try clear hcz458_0
                try clear hcz458_1
                try clear hcz467_0
                try clear hcz467_1
                try clear hcz473_0
                try clear hcz473_1
                try clear hcz481_0
                try clear hcz481_1
                try clear hcz487_0
                try clear hcz487_1
                try clear hcz492_0
                try clear hcz492_1
                try clear hcz499_0
                try clear hcz499_1
                try clear hcz505_0
                try clear hcz505_1
                try clear hcz513_0
                try clear hcz513_1
                try clear hfz274_0
                try clear hfz274_1
                try clear hfz283_0
                try clear hfz283_1
                try clear hfz288_0
                try clear hfz288_1
                try clear hfz297_0
                try clear hfz297_1
                try clear hfz306_0
                try clear hfz306_1
                try clear hfz311_0
                try clear hfz311_1
                try clear hfz315_0
                try clear hfz315_1
                try clear hfz322_0
                try clear hfz322_1
                try clear hfz331_0
                try clear hfz331_1
                try clear hfz336_0
                try clear hfz336_1
                try clear hfz340_0
                try clear hfz340_1
                try clear hfz349_0
                try clear hfz349_1
                try clear hfz358_0
                try clear hfz358_1
                try clear hfz363_0
                try clear hfz363_1
                try clear hfz373_0
                try clear hfz373_1
                try clear hfz379_0
                try clear hfz379_1
                try clear hfz388_0
                try clear hfz388_1
                try clear hfz394_0
                try clear hfz394_1
                try clear hfz402_0
                try clear hfz402_1
                try clear hfz408_0
                try clear hfz408_1
                try clear hfz413_0
                try clear hfz413_1
                try clear hfz420_0
                try clear hfz420_1
                try clear hfz426_0
                try clear hfz426_1
                try clear hfz434_0
                try clear hfz434_1
                try clear hfz440_0
                try clear hfz440_1
                try clear hfz445_0
                try clear hfz445_1
                try clear hfz452_0
                try clear hfz452_1
                try clear hfz458_0
                try clear hfz458_1
                try clear hfz467_0
                try clear hfz467_1
                try clear hfz473_0
                try clear hfz473_1
                try clear hfz481_0
                try clear hfz481_1
                try clear hfz487_0
                try clear hfz487_1
                try clear hfz492_0
                try clear hfz492_1
                try clear hfz499_0
                try clear hfz499_1
                try clear hfz505_0
                try clear hfz505_1
                try clear hfz513_0
                try clear hfz513_1
                obtain ⟨kq, x19_342, rfl, HA, HJ342, BK270, BK271, BK276, BK281, BK285, BK287, BK292, HB⟩ := hcut
                cases kq with
                | zero => exact absurd HA.out (by simp [payrolllaw2_RoundingNearest.j3])
                | succ kj342 =>
                 have H := HA.out
                 clear HA
                 simp only [payrolllaw2_RoundingNearest.j3] at H
                 by_cases c514 : t300 ≤ 0
                 ·
                  rw [if_pos c514] at H
                  have c514b0 : decide (t300 ≤ 0) = true := decide_eq_true c514
                  clear c514
                  by_cases c515 : t300 < 0
                  ·
                   rw [if_pos c515] at H
                   have c515b0 : decide (t300 < 0) = true := decide_eq_true c515
                   clear c515
                   replace H := Option.bind_eq_some_iff.mp H
                   obtain ⟨t301, A5160, H⟩ := H
                   replace H : (some t301) = some r := H
                   have A516 := Aside0.mk A5160
                   clear A5160
                   obtain rfl := Option.some.inj H
                   go_wp2_with (first | (go_at_call 17; (with_reducible refine (payrolllaw2_sane.calls kj342  t301 _ A516.out).mono ?_); rintro e w517 ⟨rfl, hb⟩; replace BK270 := tb_ BK270 hb; replace BK271 := tb_ BK271 hb; replace BK276 := tb_ BK276 hb; replace BK281 := tb_ BK281 hb; replace BK285 := tb_ BK285 hb; replace BK287 := tb_ BK287 hb; replace BK292 := tb_ BK292 hb; replace HB := ts_ HB hb; (try clear hb); (try clear hb2); (try clear hk); (try clear hi)))
                   go_ret
                   exact ⟨by first | rfl | (simp [errW_none, errW_some] <;> rfl) | (simp [*, errW_none, errW_some] <;> rfl), be_ HB⟩
                  ·
                   rw [if_neg c515] at H
                   have c515b0 : decide (t300 < 0) = false := decide_eq_false c515
                   clear c515
                   by_cases c518 : x19_342 = true
                   ·
                    subst c518
                    have H1 : ((payrolllaw2_sane.f kj342).bind fun t302 => (some t302)) = some r := by rw [if_pos rfl] at H; exact H
                    clear H
                    have H := H1
                    clear H1
                    replace H := Option.bind_eq_some_iff.mp H
                    obtain ⟨t302, A5190, H⟩ := H
                    replace H : (some t302) = some r := H
                    have A519 := Aside0.mk A5190
                    clear A5190
                    obtain rfl := Option.some.inj H
                    go_wp2_with (first | (go_at_call 17; (with_reducible refine (payrolllaw2_sane.calls kj342  t302 _ A519.out).mono ?_); rintro e w520 ⟨rfl, hb⟩; replace BK270 := tb_ BK270 hb; replace BK271 := tb_ BK271 hb; replace BK276 := tb_ BK276 hb; replace BK281 := tb_ BK281 hb; replace BK285 := tb_ BK285 hb; replace BK287 := tb_ BK287 hb; replace BK292 := tb_ BK292 hb; replace HB := ts_ HB hb; (try clear hb); (try clear hb2); (try clear hk); (try clear hi)))
                    go_ret
                    exact ⟨by first | rfl | (simp [errW_none, errW_some] <;> rfl) | (simp [*, errW_none, errW_some] <;> rfl), be_ HB⟩
                   ·
                    replace c518 := Bool.eq_false_iff.mpr c518
                    subst c518
                    have H1 : (some false) = some r := by rw [if_neg (show ¬ (false = true) by decide)] at H; exact H
                    clear H
                    have H := H1
                    clear H1
                    obtain rfl := Option.some.inj H
                    go_wp2
                    go_ret
                    exact ⟨by first | rfl | (simp [errW_none, errW_some] <;> rfl) | (simp [*, errW_none, errW_some] <;> rfl), be_ HB⟩
                 ·
                  rw [if_neg c514] at H
                  have c514b0 : decide (t300 ≤ 0) = false := decide_eq_false c514
                  clear c514
                  obtain rfl := Option.some.inj H
                  go_wp2
                  go_ret
                  exact ⟨by first | rfl | (simp [errW_none, errW_some] <;> rfl) | (simp [*, errW_none, errW_some] <;> rfl), be_ HB⟩
              ·
               rw [if_neg c341] at H
               have c341b0 : (t291 == 0) = false := beq_eq_false_iff_ne.mpr c341
               have c341b1 : (t291 != 0) = true := bne_iff_ne.mpr c341
               replace H := Option.bind_eq_some_iff.mp H
               obtain ⟨t299, A5210, H⟩ := H
               replace H : (some t299) = some r := H
               have A521 := Aside0.mk A5210
               clear A5210
               obtain rfl := Option.some.inj H
               have hnb522 := NB287_270.out
               have hnc522 := NB270_287.out
               have hnb523 := NB287_271.out
               have hnc523 := NB271_287.out
               have hnb524 := NB287_276.out
               have hnc524 := NB276_287.out
               have hnb525 := NB287_281.out
               have hnc525 := NB281_287.out
               have hnb526 := NB287_285.out
               have hnc526 := NB285_287.out
               have hcz527_0 : wc.cell? ⟨gb287, 0, none⟩ = some (.int .i64 x288000_49) := (blk_cell BK287.out 0).trans rfl
               have hcz527_1 : wc.cell? ⟨gb287, 1, none⟩ = some (.int .i64 t283) := (blk_cell BK287.out 1).trans rfl
               have hfz527_0 := blk_frozen BK287.out 0
               have hfz527_1 := blk_frozen BK287.out 1
               go_wp2_with (first | ((with_reducible refine gate_callee (f := 30) rfl ?_); refine gq_ (some 81) rfl rfl Try.func30 #[.agg #[.int .i64 x288000_49, .int .i64 t283], .agg #[.int .i64 x288000_49, .int .i64 t283]] rfl ?_; (with_reducible refine (ratio_Add.calls kj75 x288000_49 t283 x288000_49 t283 t289 t290 t291 _ A102.out).mono ?_); rintro e w528 ⟨rfl, hb⟩; refine ⟨_, rfl, ?_⟩; replace BK270 := tb_ BK270 hb; replace BK271 := tb_ BK271 hb; replace BK276 := tb_ BK276 hb; replace BK281 := tb_ BK281 hb; replace BK285 := tb_ BK285 hb; replace BK287 := tb_ BK287 hb; replace HB := ts_ HB hb; (try clear hb); (try clear hb2); (try clear hk); (try clear hi)) | ((with_reducible refine gate_dst (N := 16) rfl ?_); refine bx_ (N := 16) (cs := #[.int .i64 0, .int .i64 0]) (t := 41) ?_; intro gb292 hg w529 hbox hb; have BK292 := Aside0.mk (hbox); have GW292 := sz_ HB hg; have GE292 := sz_ HB hg; have NB270_292 := nl_ BK270 hg; have NB292_270 := nr_ BK270 hg; have NB271_292 := nl_ BK271 hg; have NB292_271 := nr_ BK271 hg; have NB276_292 := nl_ BK276 hg; have NB292_276 := nr_ BK276 hg; have NB281_292 := nl_ BK281 hg; have NB292_281 := nr_ BK281 hg; have NB285_292 := nl_ BK285 hg; have NB292_285 := nr_ BK285 hg; have NB287_292 := nl_ BK287 hg; have NB292_287 := nr_ BK287 hg; replace BK270 := tb_ BK270 hb; replace BK271 := tb_ BK271 hb; replace BK276 := tb_ BK276 hb; replace BK281 := tb_ BK281 hb; replace BK285 := tb_ BK285 hb; replace BK287 := tb_ BK287 hb; replace HB := ts_ HB hb; clear hb hbox hg; have hnb530 := NB292_270.out; have hnc530 := NB270_292.out; have hnb531 := NB292_271.out; have hnc531 := NB271_292.out; have hnb532 := NB292_276.out; have hnc532 := NB276_292.out; have hnb533 := NB292_281.out; have hnc533 := NB281_292.out; have hnb534 := NB292_285.out; have hnc534 := NB285_292.out; have hnb535 := NB292_287.out; have hnc535 := NB287_292.out; have hcz536_0 : w529.cell? ⟨gb292, 0, none⟩ = some (.int .i64 0) := (blk_cell BK292.out 0).trans rfl; have hcz536_1 : w529.cell? ⟨gb292, 1, none⟩ = some (.int .i64 0) := (blk_cell BK292.out 1).trans rfl; have hfz536_0 := blk_frozen BK292.out 0; have hfz536_1 := blk_frozen BK292.out 1) | ((with_reducible refine gate_callee (f := 17) rfl ?_); refine gq_ (some 137) rfl rfl Try.func17 #[] rfl ?_; (with_reducible refine (payrolllaw2_sane.calls kj75  t299 _ A521.out).mono ?_); rintro e w537 ⟨rfl, hb⟩; refine ⟨_, rfl, ?_⟩; replace BK270 := tb_ BK270 hb; replace BK271 := tb_ BK271 hb; replace BK276 := tb_ BK276 hb; replace BK281 := tb_ BK281 hb; replace BK285 := tb_ BK285 hb; replace BK287 := tb_ BK287 hb; replace BK292 := tb_ (o' := .cells #[.int .i64 t289, .int .i64 t290] 41 (0, 0)) BK292 hb; replace HB := ts_ HB hb; (try clear hb); (try clear hb2); (try clear hk); (try clear hi)))
               go_ret
               exact ⟨by first | rfl | (simp [errW_none, errW_some] <;> rfl) | (simp [*, errW_none, errW_some] <;> rfl), be_ HB⟩
 ·
  as_aux_lemma =>
  rw [if_neg c8] at H
  have c8b0 : (t275 == 0) = false := beq_eq_false_iff_ne.mpr c8
  have c8b1 : (t275 != 0) = true := bne_iff_ne.mpr c8
  by_cases c538 : t275 = 4
  ·
   rw [if_pos c538] at H
   have c538b0 : (t275 == 4) = true := beq_iff_eq.mpr c538
   have c538b1 : (t275 != 4) = false := bne_eq_false_iff_eq.mpr c538
   clear c538
   replace H := Option.bind_eq_some_iff.mp H
   obtain ⟨t277, A5390, H⟩ := H
   replace H : (some t277) = some r := H
   have A539 := Aside0.mk A5390
   clear A5390
   obtain rfl := Option.some.inj H
   go_enter Try.func9, Try.ntmps9
   go_wp2_with (first | ((with_reducible refine gate_callee (f := 11) rfl ?_); refine gq_ (some 21) rfl rfl Try.func11 #[.slice A0 l0.length c0] rfl ?_; (with_reducible refine (payrollgen_New.calls _ _ l0 t261 t262 w _ ?side1 ?side2 ?side3 A3.out).mono ?_); (case side1 => exact be_ HB); (case side2 => exact HR0.out); (case side3 => exact HC0.out); rintro e w540 ⟨g263, rfl, hi, hb, hb2⟩; refine ⟨_, rfl, ?_⟩; have HI263 := Aside0.mk (hi); replace HB := Aside0.mk (hb); (try clear hb); (try clear hb2); (try clear hk); (try clear hi)) | ((with_reducible refine gate_callee (f := 21) rfl ?_); refine gq_ (some 23) rfl rfl Try.func21 #[.pointer (some ⟨g263, 0, none⟩)] rfl ?_; (with_reducible refine (payrollgen_Tape_Ratio.calls k g263 t261 t262 t264 t265 t266 w _ ?side1 ?side2 A4.out).mono ?_); (case side1 => exact IsS53.aq_ HI263); (case side2 => exact IsS53.bs_ HI263 HB); rintro e w541 ⟨rfl, hi, hb, hk⟩; refine ⟨_, rfl, ?_⟩; replace HB := Aside0.mk (hb); replace HI263 := Aside0.mk (hi); (try clear hb); (try clear hb2); (try clear hk); (try clear hi)) | ((with_reducible refine gate_callee (f := 22) rfl ?_); refine gq_ (some 25) rfl rfl Try.func22 #[.pointer (some ⟨g263, 0, none⟩)] rfl ?_; (with_reducible refine (payrollgen_Tape_Step.calls k g263 t261 t266 t267 t268 t269 w _ ?side1 ?side2 A5.out).mono ?_); (case side1 => exact IsS53.aq_ HI263); (case side2 => exact IsS53.bs_ HI263 HB); rintro e w542 ⟨rfl, hi, hb, hk⟩; refine ⟨_, rfl, ?_⟩; replace HB := Aside0.mk (hb); replace HI263 := Aside0.mk (hi); (try clear hb); (try clear hb2); (try clear hk); (try clear hi)) | ((with_reducible refine gate_dst (N := 6) rfl ?_); refine bx_ (N := 6) (cs := #[.int .i64 0, .int .i64 0]) (t := 41) ?_; intro gb270 hg w543 hbox hb; have BK270 := Aside0.mk (hbox); have GW270 := IsS53.sz_ HI263 HB hg; have GE270 := IsS53.sz_ HI263 HB hg; have NB263_270 := IsS53.nl_ HI263 hg; have NB270_263 := IsS53.nr_ HI263 hg; replace HB := IsS53.ts_ HI263 HB hb; replace HI263 := IsS53.tb_ HI263 hb; clear hb hbox hg) | ((with_reducible refine gate_dst (N := 7) rfl ?_); refine bx_ (N := 7) (cs := #[.int .i64 0, .int .i64 0]) (t := 41) ?_; intro gb271 hg w544 hbox hb; have BK271 := Aside0.mk (hbox); have GW271 := IsS53.sz_ HI263 HB hg; have GE271 := IsS53.sz_ HI263 HB hg; have NB270_271 := nl_ BK270 hg; have NB271_270 := nr_ BK270 hg; have NB263_271 := IsS53.nl_ HI263 hg; have NB271_263 := IsS53.nr_ HI263 hg; replace BK270 := tb_ BK270 hb; replace HB := IsS53.ts_ HI263 HB hb; replace HI263 := IsS53.tb_ HI263 hb; clear hb hbox hg; have hnb545 := NB270_271.out; have hnc545 := NB271_270.out; have hnb546 := NB270_263.out; have hnc546 := NB263_270.out; have hcz547_0 : w544.cell? ⟨gb270, 0, none⟩ = some (.int .i64 0) := (blk_cell BK270.out 0).trans rfl; have hcz547_1 : w544.cell? ⟨gb270, 1, none⟩ = some (.int .i64 0) := (blk_cell BK270.out 1).trans rfl; have hfz547_0 := blk_frozen BK270.out 0; have hfz547_1 := blk_frozen BK270.out 1; have hnb548 := NB271_263.out; have hnc548 := NB263_271.out; have hcz549_0 : w544.cell? ⟨gb271, 0, none⟩ = some (.int .i64 0) := (blk_cell BK271.out 0).trans rfl; have hcz549_1 : w544.cell? ⟨gb271, 1, none⟩ = some (.int .i64 0) := (blk_cell BK271.out 1).trans rfl; have hfz549_0 := blk_frozen BK271.out 0; have hfz549_1 := blk_frozen BK271.out 1) | ((with_reducible refine gate_callee (f := 12) rfl ?_); refine gq_ (some 27) rfl rfl Try.func12 #[.int .i64 a1, .int .i64 7] rfl ?_; (with_reducible refine (payrollgen_Mod.calls a1 7 t272 _ A6.out).mono ?_); rintro e w' ⟨rfl, ⟨nd, rfl⟩⟩; refine ⟨_, rfl, ?_⟩) | ((with_reducible refine gate_callee (f := 23) rfl ?_); refine gq_ (some 32) rfl rfl Try.func23 #[.agg #[.int .i64 t264, .int .i64 t265], .agg #[.int .i64 t267, .int .i64 t268], .int .i64 t272] rfl ?_; (with_reducible refine (rounding_Round.calls k t264 t265 t267 t268 t272 t273 t274 t275 _ A7.out).mono ?_); rintro e w550 ⟨rfl, hb⟩; refine ⟨_, rfl, ?_⟩; replace BK270 := tb_ (o' := .cells #[.int .i64 t264, .int .i64 t265] 41 (0, 0)) BK270 hb; replace BK271 := tb_ (o' := .cells #[.int .i64 t267, .int .i64 t268] 41 (0, 0)) BK271 hb; replace HB := IsS53.ts_ HI263 HB hb; replace HI263 := IsS53.tb_ HI263 hb; (try clear hb); (try clear hb2); (try clear hk); (try clear hi)) | ((with_reducible refine gate_dst (N := 9) rfl ?_); refine bx_ (N := 9) (cs := #[.int .i64 0, .int .i64 0]) (t := 41) ?_; intro gb276 hg w551 hbox hb; have BK276 := Aside0.mk (hbox); have GW276 := IsS53.sz_ HI263 HB hg; have GE276 := IsS53.sz_ HI263 HB hg; have NB270_276 := nl_ BK270 hg; have NB276_270 := nr_ BK270 hg; have NB271_276 := nl_ BK271 hg; have NB276_271 := nr_ BK271 hg; have NB263_276 := IsS53.nl_ HI263 hg; have NB276_263 := IsS53.nr_ HI263 hg; replace BK270 := tb_ BK270 hb; replace BK271 := tb_ BK271 hb; replace HB := IsS53.ts_ HI263 HB hb; replace HI263 := IsS53.tb_ HI263 hb; clear hb hbox hg; have hnb552 := NB276_270.out; have hnc552 := NB270_276.out; have hnb553 := NB276_271.out; have hnc553 := NB271_276.out; have hnb554 := NB276_263.out; have hnc554 := NB263_276.out; have hcz555_0 : w551.cell? ⟨gb276, 0, none⟩ = some (.int .i64 0) := (blk_cell BK276.out 0).trans rfl; have hcz555_1 : w551.cell? ⟨gb276, 1, none⟩ = some (.int .i64 0) := (blk_cell BK276.out 1).trans rfl; have hfz555_0 := blk_frozen BK276.out 0; have hfz555_1 := blk_frozen BK276.out 1) | (go_at_call 17; (with_reducible refine (payrolllaw2_sane.calls k  t277 _ A539.out).mono ?_); rintro e w556 ⟨rfl, hb⟩; replace BK270 := tb_ BK270 hb; replace BK271 := tb_ BK271 hb; replace BK276 := tb_ (o' := .cells #[.int .i64 t273, .int .i64 t274] 41 (0, 0)) BK276 hb; replace HB := IsS53.ts_ HI263 HB hb; replace HI263 := IsS53.tb_ HI263 hb; (try clear hb); (try clear hb2); (try clear hk); (try clear hi)))
   go_ret
   exact ⟨by first | rfl | (simp [errW_none, errW_some] <;> rfl) | (simp [*, errW_none, errW_some] <;> rfl), IsS53.bs_ HI263 HB⟩
  ·
   rw [if_neg c538] at H
   have c538b0 : (t275 == 4) = false := beq_eq_false_iff_ne.mpr c538
   have c538b1 : (t275 != 4) = true := bne_iff_ne.mpr c538
   obtain rfl := Option.some.inj H
   go_enter Try.func9, Try.ntmps9
   go_wp2_with (first | ((with_reducible refine gate_callee (f := 11) rfl ?_); refine gq_ (some 21) rfl rfl Try.func11 #[.slice A0 l0.length c0] rfl ?_; (with_reducible refine (payrollgen_New.calls _ _ l0 t261 t262 w _ ?side1 ?side2 ?side3 A3.out).mono ?_); (case side1 => exact be_ HB); (case side2 => exact HR0.out); (case side3 => exact HC0.out); rintro e w557 ⟨g263, rfl, hi, hb, hb2⟩; refine ⟨_, rfl, ?_⟩; have HI263 := Aside0.mk (hi); replace HB := Aside0.mk (hb); (try clear hb); (try clear hb2); (try clear hk); (try clear hi)) | ((with_reducible refine gate_callee (f := 21) rfl ?_); refine gq_ (some 23) rfl rfl Try.func21 #[.pointer (some ⟨g263, 0, none⟩)] rfl ?_; (with_reducible refine (payrollgen_Tape_Ratio.calls k g263 t261 t262 t264 t265 t266 w _ ?side1 ?side2 A4.out).mono ?_); (case side1 => exact IsS53.aq_ HI263); (case side2 => exact IsS53.bs_ HI263 HB); rintro e w558 ⟨rfl, hi, hb, hk⟩; refine ⟨_, rfl, ?_⟩; replace HB := Aside0.mk (hb); replace HI263 := Aside0.mk (hi); (try clear hb); (try clear hb2); (try clear hk); (try clear hi)) | ((with_reducible refine gate_callee (f := 22) rfl ?_); refine gq_ (some 25) rfl rfl Try.func22 #[.pointer (some ⟨g263, 0, none⟩)] rfl ?_; (with_reducible refine (payrollgen_Tape_Step.calls k g263 t261 t266 t267 t268 t269 w _ ?side1 ?side2 A5.out).mono ?_); (case side1 => exact IsS53.aq_ HI263); (case side2 => exact IsS53.bs_ HI263 HB); rintro e w559 ⟨rfl, hi, hb, hk⟩; refine ⟨_, rfl, ?_⟩; replace HB := Aside0.mk (hb); replace HI263 := Aside0.mk (hi); (try clear hb); (try clear hb2); (try clear hk); (try clear hi)) | ((with_reducible refine gate_dst (N := 6) rfl ?_); refine bx_ (N := 6) (cs := #[.int .i64 0, .int .i64 0]) (t := 41) ?_; intro gb270 hg w560 hbox hb; have BK270 := Aside0.mk (hbox); have GW270 := IsS53.sz_ HI263 HB hg; have GE270 := IsS53.sz_ HI263 HB hg; have NB263_270 := IsS53.nl_ HI263 hg; have NB270_263 := IsS53.nr_ HI263 hg; replace HB := IsS53.ts_ HI263 HB hb; replace HI263 := IsS53.tb_ HI263 hb; clear hb hbox hg) | ((with_reducible refine gate_dst (N := 7) rfl ?_); refine bx_ (N := 7) (cs := #[.int .i64 0, .int .i64 0]) (t := 41) ?_; intro gb271 hg w561 hbox hb; have BK271 := Aside0.mk (hbox); have GW271 := IsS53.sz_ HI263 HB hg; have GE271 := IsS53.sz_ HI263 HB hg; have NB270_271 := nl_ BK270 hg; have NB271_270 := nr_ BK270 hg; have NB263_271 := IsS53.nl_ HI263 hg; have NB271_263 := IsS53.nr_ HI263 hg; replace BK270 := tb_ BK270 hb; replace HB := IsS53.ts_ HI263 HB hb; replace HI263 := IsS53.tb_ HI263 hb; clear hb hbox hg; have hnb562 := NB270_271.out; have hnc562 := NB271_270.out; have hnb563 := NB270_263.out; have hnc563 := NB263_270.out; have hcz564_0 : w561.cell? ⟨gb270, 0, none⟩ = some (.int .i64 0) := (blk_cell BK270.out 0).trans rfl; have hcz564_1 : w561.cell? ⟨gb270, 1, none⟩ = some (.int .i64 0) := (blk_cell BK270.out 1).trans rfl; have hfz564_0 := blk_frozen BK270.out 0; have hfz564_1 := blk_frozen BK270.out 1; have hnb565 := NB271_263.out; have hnc565 := NB263_271.out; have hcz566_0 : w561.cell? ⟨gb271, 0, none⟩ = some (.int .i64 0) := (blk_cell BK271.out 0).trans rfl; have hcz566_1 : w561.cell? ⟨gb271, 1, none⟩ = some (.int .i64 0) := (blk_cell BK271.out 1).trans rfl; have hfz566_0 := blk_frozen BK271.out 0; have hfz566_1 := blk_frozen BK271.out 1) | ((with_reducible refine gate_callee (f := 12) rfl ?_); refine gq_ (some 27) rfl rfl Try.func12 #[.int .i64 a1, .int .i64 7] rfl ?_; (with_reducible refine (payrollgen_Mod.calls a1 7 t272 _ A6.out).mono ?_); rintro e w' ⟨rfl, ⟨nd, rfl⟩⟩; refine ⟨_, rfl, ?_⟩) | ((with_reducible refine gate_callee (f := 23) rfl ?_); refine gq_ (some 32) rfl rfl Try.func23 #[.agg #[.int .i64 t264, .int .i64 t265], .agg #[.int .i64 t267, .int .i64 t268], .int .i64 t272] rfl ?_; (with_reducible refine (rounding_Round.calls k t264 t265 t267 t268 t272 t273 t274 t275 _ A7.out).mono ?_); rintro e w567 ⟨rfl, hb⟩; refine ⟨_, rfl, ?_⟩; replace BK270 := tb_ (o' := .cells #[.int .i64 t264, .int .i64 t265] 41 (0, 0)) BK270 hb; replace BK271 := tb_ (o' := .cells #[.int .i64 t267, .int .i64 t268] 41 (0, 0)) BK271 hb; replace HB := IsS53.ts_ HI263 HB hb; replace HI263 := IsS53.tb_ HI263 hb; (try clear hb); (try clear hb2); (try clear hk); (try clear hi)) | ((with_reducible refine gate_dst (N := 9) rfl ?_); refine bx_ (N := 9) (cs := #[.int .i64 0, .int .i64 0]) (t := 41) ?_; intro gb276 hg w568 hbox hb; have BK276 := Aside0.mk (hbox); have GW276 := IsS53.sz_ HI263 HB hg; have GE276 := IsS53.sz_ HI263 HB hg; have NB270_276 := nl_ BK270 hg; have NB276_270 := nr_ BK270 hg; have NB271_276 := nl_ BK271 hg; have NB276_271 := nr_ BK271 hg; have NB263_276 := IsS53.nl_ HI263 hg; have NB276_263 := IsS53.nr_ HI263 hg; replace BK270 := tb_ BK270 hb; replace BK271 := tb_ BK271 hb; replace HB := IsS53.ts_ HI263 HB hb; replace HI263 := IsS53.tb_ HI263 hb; clear hb hbox hg; have hnb569 := NB276_270.out; have hnc569 := NB270_276.out; have hnb570 := NB276_271.out; have hnc570 := NB271_276.out; have hnb571 := NB276_263.out; have hnc571 := NB263_276.out; have hcz572_0 : w568.cell? ⟨gb276, 0, none⟩ = some (.int .i64 0) := (blk_cell BK276.out 0).trans rfl; have hcz572_1 : w568.cell? ⟨gb276, 1, none⟩ = some (.int .i64 0) := (blk_cell BK276.out 1).trans rfl; have hfz572_0 := blk_frozen BK276.out 0; have hfz572_1 := blk_frozen BK276.out 1))
   go_ret
   exact ⟨by first | rfl | (simp [errW_none, errW_some] <;> rfl) | (simp [*, errW_none, errW_some] <;> rfl), IsS53.bs_ HI263 HB⟩

/-- THE ONE PURE STATEMENT of payrolllaw2_RoundingNearest: yours. -/
def payrolllaw2_RoundingNearest.Pure : Prop := ∀ (l0 : List Int) (a1 : Int), l0.length ≤ maxLen → l0.length * 8 ≤ 140737488351232 → (∀ x ∈ l0, (Lit.int .i64 x).wf = true) → (Lit.int .i64 a1).wf = true → ∃ k, payrolllaw2_RoundingNearest.f k l0 a1 = some true
theorem payrolllaw2_RoundingNearest.walk (P : payrolllaw2_RoundingNearest.Pure) (a0 : Option Addr) (len0 cap0 : Nat) (z0 : List Int) (a1 : Int) (w : World) (w0 : (a0 = none ∧ len0 = 0 ∧ cap0 = 0 ∧ z0 = []) ∨ ∃ x, a0 = some x ∧ len0 ≤ cap0 ∧ cap0 ≤ maxLen ∧ z0.length = cap0 ∧ (∀ i, i < z0.length → w.cell? (x.add i) = some (.int .i64 (z0.getD i 0))) ∧ ∀ n ∈ z0, (Lit.int .i64 n).wf = true) (y0 : len0 * 8 ≤ 140737488351232) (w1 : (Lit.int .i64 a1).wf = true) :
 Calls Try.prog 9 #[.slice a0 len0 cap0, .int .i64 a1] w fun e w' => e = .returned (.bool true) ∧ Below w.heap.size w w' := by
 obtain ⟨l0, rfl, hr0, hm0, hw0, hc0⟩ := ReadsInt.ofRowC w0
 obtain ⟨k, h⟩ := P l0 a1 hm0 y0 hw0 w1
 refine (payrolllaw2_RoundingNearest.calls k _ _ l0 a1 true w (Kd.C_of_reads (d := (0 : Int)) (h1 := fun _ => rfl) hr0) hc0 h).mono ?_
 rintro e w' ⟨rfl, hd⟩
 exact ⟨rfl, hd⟩

end Go.Proofs.Ytcipegkeoheikaa.PN
