-- Written by a program of this session: the machine side of the proofs, out of Lean's own print of the program. Lean checks it.
import Derived.Test.YtcipegkeoheikaaPNx0
namespace Go.Proofs.Ytcipegkeoheikaa.PN
open Go.RowKit Go.Proofs.YtcipegkeoheikaaW.PrintWords Go.Proofs.YtcipegkeoheikaaW.PrintLast Go.Proofs.YtcipegkeoheikaaW.PrintMore
attribute [local go_sem] max2_int min2_int max_two min_two max_three min_three max_four min_four   -- for this text's walks alone
set_option linter.unusedVariables false
set_option linter.unusedSimpArgs false

/-! ### rounding_Allocate: function 15 -/
mutual
def rounding_Allocate.j0 : Nat → Bool → Int → List Int → Option (List Int × Int)
 | 0, _, _, _ => none
 | k + 1, x26, x103000, x104000 => if x26 = true then (some (([] : List Int), 2)) else (rounding_Allocate.l0 k x104000 (x104000.length : Int) 0 x103000 x104000 0)
def rounding_Allocate.l0 : Nat → List Int → Int → Int → Int → List Int → Int → Option (List Int × Int)
 | 0, _, _, _, _, _, _ => none
 | k + 1, x27, x28, x29, x103000, x104000, x105000 => if x29 < x28 then (if 0 ≤ x29 then (if x29 < (x27.length : Int) then (if (rd x27 x29) < 0 then (some (([] : List Int), 2)) else (if (rd x27 x29) > 1000000000 then (some (([] : List Int), 2)) else (rounding_Allocate.l0 k x27 x28 (wrap64 (x29 + 1)) x103000 x104000 (wrap64 (x105000 + (rd x27 x29)))))) else (none)) else (none)) else (if x105000 = 0 then (some (([] : List Int), 5)) else (if x103000 < 0 then (rounding_Allocate.j2 k (-1) (wrap64 (-x103000)) x104000 x105000) else (rounding_Allocate.j2 k 1 x103000 x104000 x105000)))
def rounding_Allocate.j2 : Nat → Int → Int → List Int → Int → Option (List Int × Int)
 | 0, _, _, _, _ => none
 | k + 1, x9, x103000, x104000, x105000 => if 0 ≤ (x104000.length : Int) then (if ((x104000.length : Int) : Int).toNat ≤ 35184372088832 then (rounding_Allocate.l1 k x9 (List.replicate ((x104000.length : Int) : Int).toNat 0) (List.replicate ((x104000.length : Int) : Int).toNat 0) x103000 x104000 (x104000.length : Int) 0 x103000 x104000 x105000) else (none)) else (none)
def rounding_Allocate.l1 : Nat → Int → List Int → List Int → Int → List Int → Int → Int → Int → List Int → Int → Option (List Int × Int)
 | 0, _, _, _, _, _, _, _, _, _, _ => none
 | k + 1, x9, x10, x11, x12, x56, x57, x58, x103000, x104000, x105000 => if x58 < x57 then (if 0 ≤ x58 then (if x58 < (x56.length : Int) then (if x105000 = 0 then (none) else (if x58 < (x10.length : Int) then ((some (x10.set (x58 : Int).toNat (wrap64 (Int.tdiv (wrap64 (x103000 * (rd x56 x58))) x105000)) : List Int)).bind fun y113 => (if x58 < (x11.length : Int) then (rounding_Allocate.l1 k x9 y113 (x11.set (x58 : Int).toNat x58) (wrap64 (x12 - (rd y113 x58))) x56 x57 (wrap64 (x58 + 1)) x103000 x104000 x105000) else (none))) else (none))) else (none)) else (none)) else ((sortAllocate.f x11 x103000 x104000 x105000).bind fun t116 => (if 0 ≤ x12 then (if x12 ≤ (x11.length : Int) then ((some (t116.take (x12 : Int).toNat : List Int)).bind fun y117 => (rounding_Allocate.l2 k x9 x10 y117 (y117.length : Int) 0)) else (none)) else (none)))
def rounding_Allocate.l2 : Nat → Int → List Int → List Int → Int → Int → Option (List Int × Int)
 | 0, _, _, _, _, _ => none
 | k + 1, x9, x10, x87, x88, x89 => if x89 < x88 then (if 0 ≤ x89 then (if x89 < (x87.length : Int) then (if 0 ≤ (rd x87 x89) then (if (rd x87 x89) < (x10.length : Int) then (rounding_Allocate.l2 k x9 (x10.set ((rd x87 x89) : Int).toNat (wrap64 ((rd x10 (rd x87 x89)) + 1))) x87 x88 (wrap64 (x89 + 1))) else (none)) else (none)) else (none)) else (none)) else (rounding_Allocate.l3 k x9 x10 (x10.length : Int) 0)
def rounding_Allocate.l3 : Nat → Int → List Int → Int → Int → Option (List Int × Int)
 | 0, _, _, _, _ => none
 | k + 1, x9, x10, x101, x102 => if x102 < x101 then (if 0 ≤ x102 then (if x102 < (x10.length : Int) then (rounding_Allocate.l3 k x9 (x10.set (x102 : Int).toNat (wrap64 ((rd x10 x102) * x9))) x101 (wrap64 (x102 + 1))) else (none)) else (none)) else (some (x10, 0))
end
def rounding_Allocate.f (k : Nat) (a0 : Int) (l1 : List Int) : Option (List Int × Int) := if (l1.length : Int) > 1024 then (some (([] : List Int), 3)) else (if a0 < (-1000000000) then (rounding_Allocate.j0 k true a0 l1) else (rounding_Allocate.j0 k (decide (a0 > 1000000000)) a0 l1))
theorem rounding_Allocate.mono_l : ∀ k, (∀ y0 y1 y2, LeO (rounding_Allocate.j0 k y0 y1 y2) (rounding_Allocate.j0 (k + 1) y0 y1 y2)) ∧ (∀ y0 y1 y2 y3 y4 y5, LeO (rounding_Allocate.l0 k y0 y1 y2 y3 y4 y5) (rounding_Allocate.l0 (k + 1) y0 y1 y2 y3 y4 y5)) ∧ (∀ y0 y1 y2 y3, LeO (rounding_Allocate.j2 k y0 y1 y2 y3) (rounding_Allocate.j2 (k + 1) y0 y1 y2 y3)) ∧ (∀ y0 y1 y2 y3 y4 y5 y6 y7 y8 y9, LeO (rounding_Allocate.l1 k y0 y1 y2 y3 y4 y5 y6 y7 y8 y9) (rounding_Allocate.l1 (k + 1) y0 y1 y2 y3 y4 y5 y6 y7 y8 y9)) ∧ (∀ y0 y1 y2 y3 y4, LeO (rounding_Allocate.l2 k y0 y1 y2 y3 y4) (rounding_Allocate.l2 (k + 1) y0 y1 y2 y3 y4)) ∧ (∀ y0 y1 y2 y3, LeO (rounding_Allocate.l3 k y0 y1 y2 y3) (rounding_Allocate.l3 (k + 1) y0 y1 y2 y3))
 | 0 => ⟨fun _ _ _ r h => by simp [rounding_Allocate.j0] at h, fun _ _ _ _ _ _ r h => by simp [rounding_Allocate.l0] at h, fun _ _ _ _ r h => by simp [rounding_Allocate.j2] at h, fun _ _ _ _ _ _ _ _ _ _ r h => by simp [rounding_Allocate.l1] at h, fun _ _ _ _ _ r h => by simp [rounding_Allocate.l2] at h, fun _ _ _ _ r h => by simp [rounding_Allocate.l3] at h⟩
 | k + 1 => by
  obtain ⟨ih0, ih1, ih2, ih3, ih4, ih5⟩ := rounding_Allocate.mono_l k
  refine ⟨?_, ?_, ?_, ?_, ?_, ?_⟩
  ·
   intro y0 y1 y2
   unfold rounding_Allocate.j0
   repeat' first
   | (with_reducible exact ih0 _ _ _)
   | (with_reducible exact ih1 _ _ _ _ _ _)
   | (with_reducible exact ih2 _ _ _ _)
   | (with_reducible exact ih3 _ _ _ _ _ _ _ _ _ _)
   | (with_reducible exact ih4 _ _ _ _ _)
   | (with_reducible exact ih5 _ _ _ _)
   | (with_reducible exact LeO.refl _)
   | (with_reducible exact LeO.none _)
   | (with_reducible refine LeO.ite ?_ ?_)
   | (with_reducible refine LeO.bind ?_ (fun _ => ?_))
   | exact ih0 _ _ _
   | exact ih1 _ _ _ _ _ _
   | exact ih2 _ _ _ _
   | exact ih3 _ _ _ _ _ _ _ _ _ _
   | exact ih4 _ _ _ _ _
   | exact ih5 _ _ _ _
   | exact LeO.none _
   | refine LeO.ite ?_ ?_
   | refine LeO.bind ?_ (fun _ => ?_)
  ·
   intro y0 y1 y2 y3 y4 y5
   unfold rounding_Allocate.l0
   repeat' first
   | (with_reducible exact ih0 _ _ _)
   | (with_reducible exact ih1 _ _ _ _ _ _)
   | (with_reducible exact ih2 _ _ _ _)
   | (with_reducible exact ih3 _ _ _ _ _ _ _ _ _ _)
   | (with_reducible exact ih4 _ _ _ _ _)
   | (with_reducible exact ih5 _ _ _ _)
   | (with_reducible exact LeO.refl _)
   | (with_reducible exact LeO.none _)
   | (with_reducible refine LeO.ite ?_ ?_)
   | (with_reducible refine LeO.bind ?_ (fun _ => ?_))
   | exact ih0 _ _ _
   | exact ih1 _ _ _ _ _ _
   | exact ih2 _ _ _ _
   | exact ih3 _ _ _ _ _ _ _ _ _ _
   | exact ih4 _ _ _ _ _
   | exact ih5 _ _ _ _
   | exact LeO.none _
   | refine LeO.ite ?_ ?_
   | refine LeO.bind ?_ (fun _ => ?_)
  ·
   intro y0 y1 y2 y3
   unfold rounding_Allocate.j2
   repeat' first
   | (with_reducible exact ih0 _ _ _)
   | (with_reducible exact ih1 _ _ _ _ _ _)
   | (with_reducible exact ih2 _ _ _ _)
   | (with_reducible exact ih3 _ _ _ _ _ _ _ _ _ _)
   | (with_reducible exact ih4 _ _ _ _ _)
   | (with_reducible exact ih5 _ _ _ _)
   | (with_reducible exact LeO.refl _)
   | (with_reducible exact LeO.none _)
   | (with_reducible refine LeO.ite ?_ ?_)
   | (with_reducible refine LeO.bind ?_ (fun _ => ?_))
   | exact ih0 _ _ _
   | exact ih1 _ _ _ _ _ _
   | exact ih2 _ _ _ _
   | exact ih3 _ _ _ _ _ _ _ _ _ _
   | exact ih4 _ _ _ _ _
   | exact ih5 _ _ _ _
   | exact LeO.none _
   | refine LeO.ite ?_ ?_
   | refine LeO.bind ?_ (fun _ => ?_)
  ·
   intro y0 y1 y2 y3 y4 y5 y6 y7 y8 y9
   unfold rounding_Allocate.l1
   repeat' first
   | (with_reducible exact ih0 _ _ _)
   | (with_reducible exact ih1 _ _ _ _ _ _)
   | (with_reducible exact ih2 _ _ _ _)
   | (with_reducible exact ih3 _ _ _ _ _ _ _ _ _ _)
   | (with_reducible exact ih4 _ _ _ _ _)
   | (with_reducible exact ih5 _ _ _ _)
   | (with_reducible exact LeO.refl _)
   | (with_reducible exact LeO.none _)
   | (with_reducible refine LeO.ite ?_ ?_)
   | (with_reducible refine LeO.bind ?_ (fun _ => ?_))
   | exact ih0 _ _ _
   | exact ih1 _ _ _ _ _ _
   | exact ih2 _ _ _ _
   | exact ih3 _ _ _ _ _ _ _ _ _ _
   | exact ih4 _ _ _ _ _
   | exact ih5 _ _ _ _
   | exact LeO.none _
   | refine LeO.ite ?_ ?_
   | refine LeO.bind ?_ (fun _ => ?_)
  ·
   intro y0 y1 y2 y3 y4
   unfold rounding_Allocate.l2
   repeat' first
   | (with_reducible exact ih0 _ _ _)
   | (with_reducible exact ih1 _ _ _ _ _ _)
   | (with_reducible exact ih2 _ _ _ _)
   | (with_reducible exact ih3 _ _ _ _ _ _ _ _ _ _)
   | (with_reducible exact ih4 _ _ _ _ _)
   | (with_reducible exact ih5 _ _ _ _)
   | (with_reducible exact LeO.refl _)
   | (with_reducible exact LeO.none _)
   | (with_reducible refine LeO.ite ?_ ?_)
   | (with_reducible refine LeO.bind ?_ (fun _ => ?_))
   | exact ih0 _ _ _
   | exact ih1 _ _ _ _ _ _
   | exact ih2 _ _ _ _
   | exact ih3 _ _ _ _ _ _ _ _ _ _
   | exact ih4 _ _ _ _ _
   | exact ih5 _ _ _ _
   | exact LeO.none _
   | refine LeO.ite ?_ ?_
   | refine LeO.bind ?_ (fun _ => ?_)
  ·
   intro y0 y1 y2 y3
   unfold rounding_Allocate.l3
   repeat' first
   | (with_reducible exact ih0 _ _ _)
   | (with_reducible exact ih1 _ _ _ _ _ _)
   | (with_reducible exact ih2 _ _ _ _)
   | (with_reducible exact ih3 _ _ _ _ _ _ _ _ _ _)
   | (with_reducible exact ih4 _ _ _ _ _)
   | (with_reducible exact ih5 _ _ _ _)
   | (with_reducible exact LeO.refl _)
   | (with_reducible exact LeO.none _)
   | (with_reducible refine LeO.ite ?_ ?_)
   | (with_reducible refine LeO.bind ?_ (fun _ => ?_))
   | exact ih0 _ _ _
   | exact ih1 _ _ _ _ _ _
   | exact ih2 _ _ _ _
   | exact ih3 _ _ _ _ _ _ _ _ _ _
   | exact ih4 _ _ _ _ _
   | exact ih5 _ _ _ _
   | exact LeO.none _
   | refine LeO.ite ?_ ?_
   | refine LeO.bind ?_ (fun _ => ?_)
theorem rounding_Allocate.mono : ∀ a0 a1 k, LeO (rounding_Allocate.f k a0 a1) (rounding_Allocate.f (k + 1) a0 a1) := by
 intro a0 a1 k
 obtain ⟨ih0, ih1, ih2, ih3, ih4, ih5⟩ := rounding_Allocate.mono_l k
 unfold rounding_Allocate.f
 repeat' first
  | (with_reducible exact ih0 _ _ _)
  | (with_reducible exact ih1 _ _ _ _ _ _)
  | (with_reducible exact ih2 _ _ _ _)
  | (with_reducible exact ih3 _ _ _ _ _ _ _ _ _ _)
  | (with_reducible exact ih4 _ _ _ _ _)
  | (with_reducible exact ih5 _ _ _ _)
  | (with_reducible exact LeO.refl _)
  | (with_reducible exact LeO.none _)
  | (with_reducible refine LeO.ite ?_ ?_)
  | (with_reducible refine LeO.bind ?_ (fun _ => ?_))
  | exact ih0 _ _ _
  | exact ih1 _ _ _ _ _ _
  | exact ih2 _ _ _ _
  | exact ih3 _ _ _ _ _ _ _ _ _ _
  | exact ih4 _ _ _ _ _
  | exact ih5 _ _ _ _
  | exact LeO.none _
  | refine LeO.ite ?_ ?_
  | refine LeO.bind ?_ (fun _ => ?_)
def rounding_Allocate.T18 : Bool × List (List Nat × List Nat) := (true, [([], []), ([0], [0]), ([1, 1], [1]), ([], []), ([3], [3]), ([4, 4], [4]), ([2, 0, 1, 2], [2]), ([5, 6, 0, 1, 2, 3, 4, 5, 6], [5])])
def rounding_Allocate.B18 : List Nat := [0, 1, 3, 0, 8, 24, 7, 127]
theorem rounding_Allocate.tab18 : rtab .any (opsOf Try.f15 18) = rounding_Allocate.T18 := by kernel_rfl
theorem rounding_Allocate.bits18 : waitsOk rounding_Allocate.T18.2 rounding_Allocate.B18 = true := by kernel_rfl
set_option maxHeartbeats 8000000 in
set_option maxRecDepth 100000 in
theorem rounding_Allocate.calls (k : Nat) (a0 : Int) (A1 : Option Addr) (c1 : Nat) (l1 : List Int) (r1 : List Int) (r2 : Int) (w : World) (hr1 : Kd.C (Kd.int .i64) w A1 l1.length l1) (hc1 : l1.length ≤ c1) (h : rounding_Allocate.f k a0 l1 = some (r1, r2)) :
 Calls Try.prog 15 #[.int .i64 a0, .slice A1 l1.length c1] w fun e w' => ∃ v0_ : Value, e = .returned (.tuple #[v0_, .int .i64 r2]) ∧ Kd.R (Kd.int .i64) 3 w' w.heap.size (fun _ => True) v0_ r1 ∧ Below w.heap.size w w' := by
 have HR1 := Aside0.mk hr1
 have HC1 := Aside0.mk hc1
 clear hr1 hc1
 have HB := Aside0.mk (Below.refl w.heap.size w)
 have H : (if (l1.length : Int) > 1024 then (some (([] : List Int), 3)) else (if a0 < (-1000000000) then (rounding_Allocate.j0 k true a0 l1) else (rounding_Allocate.j0 k (decide (a0 > 1000000000)) a0 l1))) = some (r1, r2) := h
 clear h
 by_cases c3 : (l1.length : Int) > 1024
 ·
  rw [if_pos c3] at H
  have c3b0 : decide (1024 < (l1.length : Int)) = true := decide_eq_true c3
  have c3b1 : decide (1024 < l1.length) = true := decide_eq_true (by omega)
  clear c3
  simp only [Option.some.injEq, Prod.mk.injEq] at H
  obtain ⟨rfl, rfl⟩ := H
  go_enter Try.func15, Try.ntmps15
  go_wp2_with (first | ((with_reducible refine gate_dst (N := 2) rfl ?_); refine bx_ (N := 2) (cs := #[.int .i64 a0]) (t := 3) ?_; intro gb102 hg w4 hbox hb; have BK102 := Aside0.mk (hbox); have GW102 := sz_ HB hg; have GE102 := sz_ HB hg; replace HB := ts_ HB hb; clear hb hbox hg) | ((with_reducible refine gate_dst (N := 3) rfl ?_); refine bx_ (N := 3) (cs := #[.slice A1 l1.length c1]) (t := 22) ?_; intro gb103 hg w5 hbox hb; have BK103 := Aside0.mk (hbox); have GW103 := sz_ HB hg; have GE103 := sz_ HB hg; have NB102_103 := nl_ BK102 hg; have NB103_102 := nr_ BK102 hg; replace BK102 := tb_ BK102 hb; replace HB := ts_ HB hb; clear hb hbox hg; have hnb6 := NB103_102.out; have hnc6 := NB102_103.out; have hcz7_0 : w5.cell? ⟨gb103, 0, none⟩ = some (.slice A1 l1.length c1) := (blk_cell BK103.out 0).trans rfl; have hfz7_0 := blk_frozen BK103.out 0))
  go_ret2
  exact ⟨_, by first | rfl | (simp [errW_none, errW_some] <;> rfl) | (simp [*, errW_none, errW_some] <;> rfl), by first | exact Kd.R_nil _ _ _ _ _ | exact Kd.N_nil _ _ _ _ _ | exact Kd.V_nil _ _ _ _ _ | exact Kd.Q_nil _ _ _ _ _ | exact Kd.S_nil _ _ _ _ _, be_ HB⟩
 ·
  rw [if_neg c3] at H
  have c3b0 : decide (1024 < (l1.length : Int)) = false := decide_eq_false c3
  have c3b1 : decide (1024 < l1.length) = false := decide_eq_false (by omega)
  clear c3
  have HC8 := Aside0.mk H
  clear H
  go_enter Try.func15, Try.ntmps15
  go_upto_region 3 with (first | ((with_reducible refine gate_dst (N := 2) rfl ?_); refine bx_ (N := 2) (cs := #[.int .i64 a0]) (t := 3) ?_; intro gb102 hg w9 hbox hb; have BK102 := Aside0.mk (hbox); have GW102 := sz_ HB hg; have GE102 := sz_ HB hg; replace HB := ts_ HB hb; clear hb hbox hg) | ((with_reducible refine gate_dst (N := 3) rfl ?_); refine bx_ (N := 3) (cs := #[.slice A1 l1.length c1]) (t := 22) ?_; intro gb103 hg w10 hbox hb; have BK103 := Aside0.mk (hbox); have GW103 := sz_ HB hg; have GE103 := sz_ HB hg; have NB102_103 := nl_ BK102 hg; have NB103_102 := nr_ BK102 hg; replace BK102 := tb_ BK102 hb; replace HB := ts_ HB hb; clear hb hbox hg; have hnb11 := NB103_102.out; have hnc11 := NB102_103.out; have hcz12_0 : w10.cell? ⟨gb103, 0, none⟩ = some (.slice A1 l1.length c1) := (blk_cell BK103.out 0).trans rfl; have hfz12_0 := blk_frozen BK103.out 0))
  (try simp only [Act.put, List.setIfInBounds_toArray, List.set_cons_zero, List.set_cons_succ])
  go_cut [26] (fun v26 wc => ∃ (kq : Nat) (x26_7 : Bool), v26 = .bool x26_7 ∧ Aside0 (rounding_Allocate.j0 kq x26_7 a0 l1 = some (r1, r2)) ∧ Aside0 (kq ≤ k) ∧ Aside0 (wc.heap[gb102]? = some (.cells #[.int .i64 a0] 3 (0, 0))) ∧ Aside0 (wc.heap[gb103]? = some (.cells #[(.slice A1 l1.length c1)] 22 (0, 0))) ∧ Aside0 (Below w.heap.size w wc))
  case first =>
   have H := HC8.out
   clear HC8
   by_cases c13 : a0 < (-1000000000)
   ·
    rw [if_pos c13] at H
    have c13b0 : decide (a0 < (-1000000000)) = true := decide_eq_true c13
    clear c13
    (first | rw [c13b0] | (simp only [i64_w, i32_w]; rw [c13b0]) | skip)
    have H' := Aside0.mk H
    clear H
    have hnb14 := NB102_103.out
    have hnc14 := NB103_102.out
    have hcz15_0 : w10.cell? ⟨gb102, 0, none⟩ = some (.int .i64 a0) := (blk_cell BK102.out 0).trans rfl
    have hfz15_0 := blk_frozen BK102.out 0
    go_wp2
    go_meet
    case rel => exact ⟨_, (true), (by first | rfl | (simp; done) | (simp [*]; done)), H', ⟨by first | omega | exact Nat.le_refl _⟩, ⟨by (with_reducible repeat (first | refine blk_drewN ?_ _ | refine blk_drew ?_ | refine blk_alloc ?_ _)); exact BK102.out⟩, ⟨by (with_reducible repeat (first | refine blk_drewN ?_ _ | refine blk_drew ?_ | refine blk_alloc ?_ _)); exact BK103.out⟩, ⟨by repeat (first | (with_reducible first | exact HB.out | apply below_alloc | apply pw_below_drewN | apply below_drew1 | refine below_set ?_ GE102.out | refine below_set ?_ GE103.out) | exact HB.out)⟩⟩
   ·
    rw [if_neg c13] at H
    have c13b0 : decide (a0 < (-1000000000)) = false := decide_eq_false c13
    clear c13
    (first | rw [c13b0] | (simp only [i64_w, i32_w]; rw [c13b0]) | skip)
    have H' := Aside0.mk H
    clear H
    have hnb16 := NB102_103.out
    have hnc16 := NB103_102.out
    have hcz17_0 : w10.cell? ⟨gb102, 0, none⟩ = some (.int .i64 a0) := (blk_cell BK102.out 0).trans rfl
    have hfz17_0 := blk_frozen BK102.out 0
    go_wp2
    go_meet
    case rel => exact ⟨_, (decide (a0 > 1000000000)), (by first | rfl | (simp; done) | (simp [*]; done)), H', ⟨by first | omega | exact Nat.le_refl _⟩, ⟨by (with_reducible repeat (first | refine blk_drewN ?_ _ | refine blk_drew ?_ | refine blk_alloc ?_ _)); exact BK102.out⟩, ⟨by (with_reducible repeat (first | refine blk_drewN ?_ _ | refine blk_drew ?_ | refine blk_alloc ?_ _)); exact BK103.out⟩, ⟨by repeat (first | (with_reducible first | exact HB.out | apply below_alloc | apply pw_below_drewN | apply below_drew1 | refine below_set ?_ GE102.out | refine below_set ?_ GE103.out) | exact HB.out)⟩⟩
  case rest =>
   clear HC8
   try clear c1
   try clear p2
   try clear c3
   try clear c3b0
   try clear c3b1
   try clear c6
   try clear c11
   try clear c13
   try clear c13b0
   try clear c14
   try clear c15
   try clear c16
   try clear hcz12_0
   try clear hcz15_0
   try clear hcz17_0
   try clear hcz7_0
   try clear hfz12_0
   try clear hfz15_0
   try clear hfz17_0
   try clear hfz7_0
   obtain ⟨kq, x26_7, rfl, HA, HJ7, BK102, BK103, HB⟩ := hcut
   cases kq with
   | zero => exact absurd HA.out (by simp [rounding_Allocate.j0])
   | succ kj7 =>
    have H := HA.out
    clear HA
    simp only [rounding_Allocate.j0] at H
    by_cases c18 : x26_7 = true
    ·
     subst c18
     have H1 : (some (([] : List Int), 2)) = some (r1, r2) := by rw [if_pos rfl] at H; exact H
     clear H
     have H := H1
     clear H1
     simp only [Option.some.injEq, Prod.mk.injEq] at H
     obtain ⟨rfl, rfl⟩ := H
     go_wp2
     go_ret2
     exact ⟨_, by first | rfl | (simp [errW_none, errW_some] <;> rfl) | (simp [*, errW_none, errW_some] <;> rfl), by first | exact Kd.R_nil _ _ _ _ _ | exact Kd.N_nil _ _ _ _ _ | exact Kd.V_nil _ _ _ _ _ | exact Kd.Q_nil _ _ _ _ _ | exact Kd.S_nil _ _ _ _ _, be_ HB⟩
    ·
     replace c18 := Bool.eq_false_iff.mpr c18
     subst c18
     have H1 : (rounding_Allocate.l0 kj7 l1 (l1.length : Int) 0 a0 l1 0) = some (r1, r2) := by rw [if_neg (show ¬ (false = true) by decide)] at H; exact H
     clear H
     have H := H1
     clear H1
     have H' := Aside0.mk H
     clear H
     go_wp2_with (first | ((with_reducible refine gate_dst (N := 6) rfl ?_); refine bx_ (N := 6) (cs := #[.int .i64 0]) (t := 3) ?_; intro gb104 hg w19 hbox hb; have BK104 := Aside0.mk (hbox); have GW104 := sz_ HB hg; have GE104 := sz_ HB hg; have NB102_104 := nl_ BK102 hg; have NB104_102 := nr_ BK102 hg; have NB103_104 := nl_ BK103 hg; have NB104_103 := nr_ BK103 hg; replace BK102 := tb_ BK102 hb; replace BK103 := tb_ BK103 hb; replace HB := ts_ HB hb; clear hb hbox hg; have hnb20 := NB104_102.out; have hnc20 := NB102_104.out; have hnb21 := NB104_103.out; have hnc21 := NB103_104.out; have hcz22_0 : w19.cell? ⟨gb104, 0, none⟩ = some (.int .i64 0) := (blk_cell BK104.out 0).trans rfl; have hfz22_0 := blk_frozen BK104.out 0; have hnb23 := NB103_102.out; have hnc23 := NB102_103.out; have hcz24_0 : w19.cell? ⟨gb103, 0, none⟩ = some (.slice A1 l1.length c1) := (blk_cell BK103.out 0).trans rfl; have hfz24_0 := blk_frozen BK103.out 0))
     go_loopg [29] kj7 (fun kq v29 w' => ∃ (x29_2 : Int) (x105000_2 : Int), v29 = .int .i64 x29_2 ∧ Aside0 (rounding_Allocate.l0 kq l1 (l1.length : Int) x29_2 a0 l1 x105000_2 = some (r1, r2)) ∧ Aside0 (kq ≤ kj7) ∧ Aside0 (w'.heap[gb102]? = some (.cells #[.int .i64 a0] 3 (0, 0))) ∧ Aside0 (w'.heap[gb103]? = some (.cells #[(.slice A1 l1.length c1)] 22 (0, 0))) ∧ Aside0 (w'.heap[gb104]? = some (.cells #[.int .i64 x105000_2] 3 (0, 0))) ∧ Aside0 (Below w.heap.size w w'))
     case atStart => exact ⟨(0), (0), (by first | rfl | (simp; done) | (simp [*]; done)), H', ⟨Nat.le_refl _⟩, ⟨by (with_reducible repeat (first | refine blk_drewN ?_ _ | refine blk_drew ?_ | refine blk_alloc ?_ _)); refine blk_far ?_ NB102_104.out _; (with_reducible repeat (first | refine blk_drewN ?_ _ | refine blk_drew ?_ | refine blk_alloc ?_ _)); exact BK102.out⟩, ⟨by (with_reducible repeat (first | refine blk_drewN ?_ _ | refine blk_drew ?_ | refine blk_alloc ?_ _)); refine blk_far ?_ NB103_104.out _; (with_reducible repeat (first | refine blk_drewN ?_ _ | refine blk_drew ?_ | refine blk_alloc ?_ _)); exact BK103.out⟩, ⟨by (with_reducible repeat (first | refine blk_drewN ?_ _ | refine blk_drew ?_ | refine blk_alloc ?_ _)); refine blk_put (cs := #[.int .i64 0]) ?_ 0 _ rfl; (with_reducible repeat (first | refine blk_drewN ?_ _ | refine blk_drew ?_ | refine blk_alloc ?_ _)); exact BK104.out⟩, ⟨by repeat (first | (with_reducible first | exact HB.out | apply below_alloc | apply pw_below_drewN | apply below_drew1 | refine below_set ?_ GE102.out | refine below_set ?_ GE103.out | refine below_set ?_ GE104.out) | exact HB.out)⟩⟩
     case round =>
      clear H'
      try clear c1
      try clear c2
      try clear p2
      try clear c3
      try clear c3b0
      try clear c3b1
      try clear c6
      try clear c11
      try clear c13
      try clear c13b0
      try clear c14
      try clear c15
      try clear c16
      try clear c18
      try clear c20
      try clear c21
      try clear c23
      try clear hcz12_0
      try clear hcz15_0
      try clear hcz17_0
      try clear hcz22_0
      try clear hcz24_0
      try clear hcz7_0
      try clear hfz12_0
      try clear hfz15_0
      try clear hfz17_0
      try clear hfz22_0
      try clear hfz24_0
      try clear hfz7_0
      try clear p2
      obtain ⟨x29_2, x105000_2, rfl, HA, HK2, BK102, BK103, BK104, HB⟩ := hrel
      cases gk with
      | zero => exact absurd HA.out (by simp [rounding_Allocate.l0])
      | succ k2 =>
       have H := HA.out
       clear HA
       simp only [rounding_Allocate.l0] at H
       by_cases c25 : x29_2 < (l1.length : Int)
       ·
        rw [if_pos c25] at H
        have c25b0 : decide (x29_2 < (l1.length : Int)) = true := decide_eq_true c25
        clear c25
        by_cases c26 : 0 ≤ x29_2
        ·
         rw [if_pos c26] at H
         have c26b0 : decide (0 ≤ x29_2) = true := decide_eq_true c26
         clear c26
         by_cases c27 : x29_2 < (l1.length : Int)
         ·
          rw [if_pos c27] at H
          have c27b0 : decide (x29_2 < (l1.length : Int)) = true := decide_eq_true c27
          clear c27
          by_cases c28 : (rd l1 x29_2) < 0
          ·
           rw [if_pos c28] at H
           have c28b0 : decide ((rd l1 x29_2) < 0) = true := decide_eq_true c28
           clear c28
           simp only [Option.some.injEq, Prod.mk.injEq] at H
           obtain ⟨rfl, rfl⟩ := H
           have p105 : 0 ≤ (x29_2 : Int) := of_decide_eq_true (by first | (with_reducible assumption) | assumption)
           have q105 : x29_2 < (l1.length : Int) := of_decide_eq_true (by first | (with_reducible assumption) | assumption)
           obtain ⟨ad105, e105, hx105_0⟩ := Kd.at_int HR1.out x29_2 p105 q105
           cases e105
           replace hx105_0 := (HB.out.cell (World.block_lt_of_cell? w _ hx105_0)).trans hx105_0
           replace p105 := eq_true p105
           replace q105 := eq_true q105
           go_wp2
           go_ret2
           exact ⟨_, by first | rfl | (simp [errW_none, errW_some] <;> rfl) | (simp [*, errW_none, errW_some] <;> rfl), by first | exact Kd.R_nil _ _ _ _ _ | exact Kd.N_nil _ _ _ _ _ | exact Kd.V_nil _ _ _ _ _ | exact Kd.Q_nil _ _ _ _ _ | exact Kd.S_nil _ _ _ _ _, be_ HB⟩
          ·
           rw [if_neg c28] at H
           have c28b0 : decide ((rd l1 x29_2) < 0) = false := decide_eq_false c28
           clear c28
           by_cases c29 : (rd l1 x29_2) > 1000000000
           ·
            rw [if_pos c29] at H
            have c29b0 : decide (1000000000 < (rd l1 x29_2)) = true := decide_eq_true c29
            clear c29
            simp only [Option.some.injEq, Prod.mk.injEq] at H
            obtain ⟨rfl, rfl⟩ := H
            have p105 : 0 ≤ (x29_2 : Int) := of_decide_eq_true (by first | (with_reducible assumption) | assumption)
            have q105 : x29_2 < (l1.length : Int) := of_decide_eq_true (by first | (with_reducible assumption) | assumption)
            obtain ⟨ad105, e105, hx105_0⟩ := Kd.at_int HR1.out x29_2 p105 q105
            cases e105
            replace hx105_0 := (HB.out.cell (World.block_lt_of_cell? w _ hx105_0)).trans hx105_0
            replace p105 := eq_true p105
            replace q105 := eq_true q105
            go_wp2
            go_ret2
            exact ⟨_, by first | rfl | (simp [errW_none, errW_some] <;> rfl) | (simp [*, errW_none, errW_some] <;> rfl), by first | exact Kd.R_nil _ _ _ _ _ | exact Kd.N_nil _ _ _ _ _ | exact Kd.V_nil _ _ _ _ _ | exact Kd.Q_nil _ _ _ _ _ | exact Kd.S_nil _ _ _ _ _, be_ HB⟩
           ·
            rw [if_neg c29] at H
            have c29b0 : decide (1000000000 < (rd l1 x29_2)) = false := decide_eq_false c29
            clear c29
            have H' := Aside0.mk H
            clear H
            have p105 : 0 ≤ (x29_2 : Int) := of_decide_eq_true (by first | (with_reducible assumption) | assumption)
            have q105 : x29_2 < (l1.length : Int) := of_decide_eq_true (by first | (with_reducible assumption) | assumption)
            obtain ⟨ad105, e105, hx105_0⟩ := Kd.at_int HR1.out x29_2 p105 q105
            cases e105
            replace hx105_0 := (HB.out.cell (World.block_lt_of_cell? w _ hx105_0)).trans hx105_0
            replace p105 := eq_true p105
            replace q105 := eq_true q105
            have hnb30 := NB104_102.out
            have hnc30 := NB102_104.out
            have hnb31 := NB104_103.out
            have hnc31 := NB103_104.out
            have hcz32_0 : wr.cell? ⟨gb104, 0, none⟩ = some (.int .i64 x105000_2) := (blk_cell BK104.out 0).trans rfl
            have hfz32_0 := blk_frozen BK104.out 0
            go_wp2
            go_roundg k2
            case measure => have := HJ7.out; have := HK2.out; omega
            case rel => exact ⟨(wrap64 (x29_2 + 1)), (wrap64 (x105000_2 + (rd l1 x29_2))), (by first | rfl | (simp; done) | (simp [*]; done)), H', ⟨by have := HJ7.out; have := HK2.out; omega⟩, ⟨by (with_reducible repeat (first | refine blk_drewN ?_ _ | refine blk_drew ?_ | refine blk_alloc ?_ _)); refine blk_far ?_ NB102_104.out _; (with_reducible repeat (first | refine blk_drewN ?_ _ | refine blk_drew ?_ | refine blk_alloc ?_ _)); exact BK102.out⟩, ⟨by (with_reducible repeat (first | refine blk_drewN ?_ _ | refine blk_drew ?_ | refine blk_alloc ?_ _)); refine blk_far ?_ NB103_104.out _; (with_reducible repeat (first | refine blk_drewN ?_ _ | refine blk_drew ?_ | refine blk_alloc ?_ _)); exact BK103.out⟩, ⟨by (with_reducible repeat (first | refine blk_drewN ?_ _ | refine blk_drew ?_ | refine blk_alloc ?_ _)); refine blk_put (cs := #[.int .i64 x105000_2]) ?_ 0 _ rfl; (with_reducible repeat (first | refine blk_drewN ?_ _ | refine blk_drew ?_ | refine blk_alloc ?_ _)); exact BK104.out⟩, ⟨by repeat (first | (with_reducible first | exact HB.out | apply below_alloc | apply pw_below_drewN | apply below_drew1 | refine below_set ?_ GE102.out | refine below_set ?_ GE103.out | refine below_set ?_ GE104.out) | exact HB.out)⟩⟩
         ·
          rw [if_neg c27] at H
          exact absurd H (by simp)
        ·
         rw [if_neg c26] at H
         exact absurd H (by simp)
       ·
        rw [if_neg c25] at H
        have c25b0 : decide (x29_2 < (l1.length : Int)) = false := decide_eq_false c25
        clear c25
        by_cases c33 : x105000_2 = 0
        ·
         rw [if_pos c33] at H
         have c33b0 : (x105000_2 == 0) = true := beq_iff_eq.mpr c33
         have c33b1 : (x105000_2 != 0) = false := bne_eq_false_iff_eq.mpr c33
         clear c33
         simp only [Option.some.injEq, Prod.mk.injEq] at H
         obtain ⟨rfl, rfl⟩ := H
         have hnb34 := NB104_102.out
         have hnc34 := NB102_104.out
         have hnb35 := NB104_103.out
         have hnc35 := NB103_104.out
         have hcz36_0 : wr.cell? ⟨gb104, 0, none⟩ = some (.int .i64 x105000_2) := (blk_cell BK104.out 0).trans rfl
         have hfz36_0 := blk_frozen BK104.out 0
         go_wp2
         go_ret2
         exact ⟨_, by first | rfl | (simp [errW_none, errW_some] <;> rfl) | (simp [*, errW_none, errW_some] <;> rfl), by first | exact Kd.R_nil _ _ _ _ _ | exact Kd.N_nil _ _ _ _ _ | exact Kd.V_nil _ _ _ _ _ | exact Kd.Q_nil _ _ _ _ _ | exact Kd.S_nil _ _ _ _ _, be_ HB⟩
        ·
         rw [if_neg c33] at H
         have c33b0 : (x105000_2 == 0) = false := beq_eq_false_iff_ne.mpr c33
         have c33b1 : (x105000_2 != 0) = true := bne_iff_ne.mpr c33
         have HC37 := Aside0.mk H
         clear H
         have hnb38 := NB104_102.out
         have hnc38 := NB102_104.out
         have hnb39 := NB104_103.out
         have hnc39 := NB103_104.out
         have hcz40_0 : wr.cell? ⟨gb104, 0, none⟩ = some (.int .i64 x105000_2) := (blk_cell BK104.out 0).trans rfl
         have hfz40_0 := blk_frozen BK104.out 0
         have hnb41 := NB102_103.out
         have hnc41 := NB103_102.out
         have hcz42_0 : wr.cell? ⟨gb102, 0, none⟩ = some (.int .i64 a0) := (blk_cell BK102.out 0).trans rfl
         have hfz42_0 := blk_frozen BK102.out 0
         go_upto_if 46 with (fail)
         go_cut [9] (fun v9 wc => ∃ (kq : Nat) (x9_36 : Int) (x103000_36 : Int), v9 = .int .i64 x9_36 ∧ Aside0 (rounding_Allocate.j2 kq x9_36 x103000_36 l1 x105000_2 = some (r1, r2)) ∧ Aside0 (kq ≤ k2) ∧ Aside0 (wc.heap[gb102]? = some (.cells #[.int .i64 x103000_36] 3 (0, 0))) ∧ Aside0 (wc.heap[gb103]? = some (.cells #[(.slice A1 l1.length c1)] 22 (0, 0))) ∧ Aside0 (wc.heap[gb104]? = some (.cells #[.int .i64 x105000_2] 3 (0, 0))) ∧ Aside0 (Below w.heap.size w wc))
         case first =>
          have H := HC37.out
          clear HC37
          by_cases c43 : a0 < 0
          ·
           rw [if_pos c43] at H
           have c43b0 : decide (a0 < 0) = true := decide_eq_true c43
           clear c43
           (first | rw [c43b0] | (simp only [i64_w, i32_w]; rw [c43b0]) | skip)
           have H' := Aside0.mk H
           clear H
           try go_wp2
           replace BK102 := Aside0.mk (blk_drew BK102.out)
           replace BK103 := Aside0.mk (blk_drew BK103.out)
           replace BK104 := Aside0.mk (blk_drew BK104.out)
           replace HB := Aside0.mk (below_drew1 HB.out)
           refine start_ (n := 4) (S := fun w' => w'.cell? ⟨gb102, 0, none⟩ = some (.int .i64 a0)) (ds := [3]) #[false, false, false, false] (by kernel_rfl) rfl rfl ((blk_cell BK102.out 0).trans rfl) (fun hHeld => ?_)
           generalize wr.drew = w44 at BK102 BK103 BK104 HB hHeld ⊢
           refine pure_ (i := 2) (N := some 9) (v := ?_) (a' := ?_) #[false, false, true, false] rfl rfl (by kernel_rfl) (fun _ _ _ h => h) (Or.inl ⟨by rfl, ?_⟩) ?_ ?_
           rotate_left
           ·
            intro w'
            go_simp
            with_reducible rfl
           rotate_left
           ·
            simp only [Act.put, List.setIfInBounds_toArray, List.set_cons_zero, List.set_cons_succ, i64_w, i32_w]
            rfl
           refine take_ (i := 0) (N := some 47) (v := ?_) (a' := ?_) #[true, false, true, false] rfl rfl (by kernel_rfl) (fun _ _ _ h => h) (Or.inl ⟨by rfl, ?_⟩) hHeld ?_ ?_
           rotate_left
           ·
            intro w' s0
            go_simp
            with_reducible rfl
           rotate_left
           ·
            simp only [Act.put, List.setIfInBounds_toArray, List.set_cons_zero, List.set_cons_succ, i64_w, i32_w]
            rfl
           refine pure_ (i := 1) (N := some 48) (v := ?_) (a' := ?_) #[true, true, true, false] rfl rfl (by kernel_rfl) (fun _ _ _ h => h) (Or.inl ⟨by rfl, ?_⟩) ?_ ?_
           rotate_left
           ·
            intro w'
            go_simp
            with_reducible rfl
           rotate_left
           ·
            simp only [Act.put, List.setIfInBounds_toArray, List.set_cons_zero, List.set_cons_succ, i64_w, i32_w]
            rfl
           refine last_ (i := 3) (N := none) #[true, true, true, true] rfl rfl (by kernel_rfl) (by decide) (fun K hK => ?_)
           have hs45 : w44.cell? ⟨gb102, 0, none⟩ = some (.int .i64 a0) := (blk_cell BK102.out 0).trans rfl
           have hfs45 := blk_frozen BK102.out 0
           have hns45_1 := NB103_102.out
           have hns45_2 := NB104_102.out
           have hms45_1 := NB102_103.out
           have hms45_2 := NB102_104.out
           refine skip_ (w1 := ?_) (by rfl) rfl ?_ ?_
           rotate_left
           ·
            go_simp
            rfl
           refine hK.out _ _ ?_
           clear hK K
           refine done_ (by kernel_rfl) ?_
           try go_wp2
           go_meet
           case rel => exact ⟨_, ((-1)), (wrap64 (-a0)), (by first | rfl | (simp; done) | (simp [*]; done)), H', ⟨by have := HJ7.out; have := HK2.out; first | omega | exact Nat.le_refl _⟩, ⟨by (with_reducible repeat (first | refine blk_drewN ?_ _ | refine blk_drew ?_ | refine blk_alloc ?_ _)); refine blk_put (cs := #[.int .i64 a0]) ?_ 0 _ rfl; (with_reducible repeat (first | refine blk_drewN ?_ _ | refine blk_drew ?_ | refine blk_alloc ?_ _)); exact BK102.out⟩, ⟨by (with_reducible repeat (first | refine blk_drewN ?_ _ | refine blk_drew ?_ | refine blk_alloc ?_ _)); refine blk_far ?_ NB103_102.out _; (with_reducible repeat (first | refine blk_drewN ?_ _ | refine blk_drew ?_ | refine blk_alloc ?_ _)); exact BK103.out⟩, ⟨by (with_reducible repeat (first | refine blk_drewN ?_ _ | refine blk_drew ?_ | refine blk_alloc ?_ _)); refine blk_far ?_ NB104_102.out _; (with_reducible repeat (first | refine blk_drewN ?_ _ | refine blk_drew ?_ | refine blk_alloc ?_ _)); exact BK104.out⟩, ⟨by repeat (first | (with_reducible first | exact HB.out | apply below_alloc | apply pw_below_drewN | apply below_drew1 | refine below_set ?_ GE102.out | refine below_set ?_ GE103.out | refine below_set ?_ GE104.out) | exact HB.out)⟩⟩
          ·
           rw [if_neg c43] at H
           have c43b0 : decide (a0 < 0) = false := decide_eq_false c43
           clear c43
           (first | rw [c43b0] | (simp only [i64_w, i32_w]; rw [c43b0]) | skip)
           have H' := Aside0.mk H
           clear H
           go_wp2
           go_meet
           case rel => exact ⟨_, (1), (a0), (by first | rfl | (simp; done) | (simp [*]; done)), H', ⟨by have := HJ7.out; have := HK2.out; first | omega | exact Nat.le_refl _⟩, ⟨by (with_reducible repeat (first | refine blk_drewN ?_ _ | refine blk_drew ?_ | refine blk_alloc ?_ _)); exact BK102.out⟩, ⟨by (with_reducible repeat (first | refine blk_drewN ?_ _ | refine blk_drew ?_ | refine blk_alloc ?_ _)); exact BK103.out⟩, ⟨by (with_reducible repeat (first | refine blk_drewN ?_ _ | refine blk_drew ?_ | refine blk_alloc ?_ _)); exact BK104.out⟩, ⟨by repeat (first | (with_reducible first | exact HB.out | apply below_alloc | apply pw_below_drewN | apply below_drew1 | refine below_set ?_ GE102.out | refine below_set ?_ GE103.out | refine below_set ?_ GE104.out) | exact HB.out)⟩⟩
         case rest =>
          clear HC37
          try clear c1
          try clear p1
          try clear q1
          try clear hx1
          try clear c2
          try clear p2
          try clear c3
          try clear c3b0
          try clear c3b1
          try clear c4
          try clear c6
          try clear p6
          try clear p10
          try clear q10
          try clear hx10
          try clear c11
          try clear c13
          try clear c13b0
          try clear c14
          try clear c15
          try clear c16
          try clear c18
          try clear c20
          try clear c21
          try clear c23
          try clear c25
          try clear c25b0
          try clear c26
          try clear c26b0
          try clear c27
          try clear c27b0
          try clear c28
          try clear c28b0
          try clear c29
          try clear c29b0
          try clear c30
          try clear c31
          try clear c33
          try clear c33b0
          try clear c33b1
          try clear c34
          try clear c35
          try clear c38
          try clear c39
          try clear c41
          try clear c43
          try clear c43b0
          try clear hcz12_0
          try clear hcz15_0
          try clear hcz17_0
          try clear hcz22_0
          try clear hcz24_0
          try clear hcz32_0
          try clear hcz36_0
          try clear hcz40_0
          try clear hcz42_0
          try clear hcz7_0
          try clear hfz12_0
          try clear hfz15_0
          try clear hfz17_0
          try clear hfz22_0
          try clear hfz24_0
          try clear hfz32_0
          try clear hfz36_0
          try clear hfz40_0
          try clear hfz42_0
          try clear hfz7_0
          try clear hx105_0
          try clear p105
          try clear p2
          try clear q105
          obtain ⟨kq, x9_36, x103000_36, rfl, HA, HJ36, BK102, BK103, BK104, HB⟩ := hcut
          cases kq with
          | zero => exact absurd HA.out (by simp [rounding_Allocate.j2])
          | succ kj36 =>
           have H := HA.out
           clear HA
           simp only [rounding_Allocate.j2] at H
           by_cases c46 : 0 ≤ (l1.length : Int)
           ·
            rw [if_pos c46] at H
            have c46b0 := eq_true c46
            have c46b1 : decide (0 ≤ (l1.length : Int)) = true := decide_eq_true c46
            clear c46
            by_cases c47 : ((l1.length : Int) : Int).toNat ≤ 35184372088832
            ·
             rw [if_pos c47] at H
             have c47b0 := eq_true c47
             have c47b1 : decide (((l1.length : Int) : Int).toNat ≤ 35184372088832) = true := decide_eq_true c47
             clear c47
             obtain ⟨y106, hy106⟩ : ∃ y_ : List Int, y_ = (List.replicate ((l1.length : Int) : Int).toNat 0) := ⟨_, rfl⟩
             replace H : (rounding_Allocate.l1 kj36 x9_36 y106 (List.replicate ((l1.length : Int) : Int).toNat 0) x103000_36 l1 (l1.length : Int) 0 x103000_36 l1 x105000_2) = some (r1, r2) := by first | (rw [hy106]; with_reducible exact H) | (have H2_ := (Option.bind_some _ _).symm.trans H; rw [hy106]; with_reducible exact H2_) | (have H2_ := (Option.bind_some _ _).symm.trans H; with_reducible exact H2_) | with_reducible exact H | (rw [hy106]; exact H) | exact H
             have Ny106 := Aside0.mk hy106
             clear hy106
             obtain ⟨y109, hy109⟩ : ∃ y_ : List Int, y_ = (List.replicate ((l1.length : Int) : Int).toNat 0) := ⟨_, rfl⟩
             replace H : (rounding_Allocate.l1 kj36 x9_36 y106 y109 x103000_36 l1 (l1.length : Int) 0 x103000_36 l1 x105000_2) = some (r1, r2) := by first | (rw [hy109]; with_reducible exact H) | (have H2_ := (Option.bind_some _ _).symm.trans H; rw [hy109]; with_reducible exact H2_) | (have H2_ := (Option.bind_some _ _).symm.trans H; with_reducible exact H2_) | with_reducible exact H | (rw [hy109]; exact H) | exact H
             have Ny109 := Aside0.mk hy109
             clear hy109
             have H' := Aside0.mk H
             clear H
             try go_wp2
             replace BK102 := Aside0.mk (blk_drew BK102.out)
             replace BK103 := Aside0.mk (blk_drew BK103.out)
             replace BK104 := Aside0.mk (blk_drew BK104.out)
             replace HB := Aside0.mk (below_drew1 HB.out)
             refine start_ (n := 8) (S := fun w' => w'.cell? ⟨gb103, 0, none⟩ = some (.slice A1 l1.length c1)) (ds := []) #[false, false, false, false, false, false, false, false] (by kernel_rfl) rfl rfl ((blk_cell BK103.out 0).trans rfl) (fun hHeld => ?_); refine with_tabW rounding_Allocate.tab18 rounding_Allocate.bits18 (fun HT_ HW_ => ?_)
             generalize wc.drew = w48 at BK102 BK103 BK104 HB hHeld ⊢
             refine take_ (i := 0) (N := some 49) (v := ?_) (a' := ?_) #[true, false, false, false, false, false, false, false] rfl rfl (take_ofW HT_.out HW_.out (by kernel_rfl)) (fun _ _ _ h => h) (Or.inl ⟨by rfl, ?_⟩) hHeld ?_ ?_
             rotate_left
             ·
              intro w' s0
              go_simp
              with_reducible rfl
             rotate_left
             ·
              simp only [Act.put, List.setIfInBounds_toArray, List.set_cons_zero, List.set_cons_succ, i64_w, i32_w]
              rfl
             refine pure_ (i := 1) (N := some 50) (v := ?_) (a' := ?_) #[true, true, false, false, false, false, false, false] rfl rfl (any_of HT_.out (by kernel_rfl)) (fun _ _ _ h => h) (Or.inl ⟨by rfl, ?_⟩) ?_ ?_
             rotate_left
             ·
              intro w'
              go_simp
              with_reducible rfl
             rotate_left
             ·
              simp only [Act.put, List.setIfInBounds_toArray, List.set_cons_zero, List.set_cons_succ, i64_w, i32_w]
              rfl
             refine take_ (i := 3) (N := some 52) (v := ?_) (a' := ?_) #[true, true, false, true, false, false, false, false] rfl rfl (take_ofW HT_.out HW_.out (by kernel_rfl)) (fun _ _ _ h => h) (Or.inl ⟨by rfl, ?_⟩) hHeld ?_ ?_
             rotate_left
             ·
              intro w' s0
              go_simp
              with_reducible rfl
             rotate_left
             ·
              simp only [Act.put, List.setIfInBounds_toArray, List.set_cons_zero, List.set_cons_succ, i64_w, i32_w]
              rfl
             refine pure_ (i := 4) (N := some 53) (v := ?_) (a' := ?_) #[true, true, false, true, true, false, false, false] rfl rfl (any_of HT_.out (by kernel_rfl)) (fun _ _ _ h => h) (Or.inl ⟨by rfl, ?_⟩) ?_ ?_
             rotate_left
             ·
              intro w'
              go_simp
              with_reducible rfl
             rotate_left
             ·
              simp only [Act.put, List.setIfInBounds_toArray, List.set_cons_zero, List.set_cons_succ, i64_w, i32_w]
              rfl
             refine join_ (σ := Value × Value) 1 #[true, true, true, true, true, true, true, false] (fun s_ => [(51, s_.1), (54, s_.2), (10, s_.1)]) (fun s_ w' => (w'.cell? ⟨gb103, 0, none⟩ = some (.slice A1 l1.length c1)) ∧ (Kd.R (Kd.int .i64) 3 w' w.heap.size (fun k_ => some k_ ≠ (s_.2 : Value).ownBlock ∧ k_ ≠ gb102 ∧ k_ ≠ gb104) s_.1 y106) ∧ (Kd.R (Kd.int .i64) 3 w' w.heap.size (fun k_ => some k_ ≠ (s_.1 : Value).ownBlock ∧ k_ ≠ gb102 ∧ k_ ≠ gb104) s_.2 y109) ∧ (w'.heap[gb102]? = some (.cells #[.int .i64 x103000_36] 3 (0, 0))) ∧ (w'.heap[gb103]? = some (.cells #[.slice A1 l1.length c1] 22 (0, 0))) ∧ (w'.heap[gb104]? = some (.cells #[.int .i64 x105000_2] 3 (0, 0))) ∧ (Below w.heap.size w w')) ?_ ?_
             rotate_left
             ·
              intro hCont
              refine two_ (i := 2) (j := 5) (Ni := some 51) (Nj := some 54) #[true, true, true, true, true, false, false, false] #[true, true, false, true, true, true, false, false] rfl rfl rfl rfl (two_of HT_.out (by kernel_rfl)) (by decide) (by decide) (fun K hK => ?_) (fun K hK => ?_)
              ·
               skip
               refine Kd.R_make_step (Kd.int .i64) _ 3 (by rfl) (N := 51) rfl 22 _ _ rfl (l1.length : Int) rfl rfl Try.underlying22 (.int .i64 0) 8 info3 rfl (by decide) (by omega) 0 (ok := fun _ => True) (okp := fun _ => True) rfl (fun _ hk => hk) trivial (of_decide_eq_true (by first | (with_reducible assumption) | assumption)) (Nat.le_trans (Nat.mul_le_mul_right _ (of_decide_eq_true (by first | (with_reducible assumption) | assumption) : (l1.length : Int).toNat ≤ 35184372088832)) (by omega)) (Below.refl _ _) (Nat.le_refl _) ?_
               intro v107 w49 ho50 hb hg_ hnew_
               clear hg_ hnew_
               (first | rw [← Ny106.out] at ho50 | (simp only [Int.reduceToNat] at ho50; rw [← Ny106.out] at ho50))
               have HO108 := Aside0.mk (Kd.R_lower (Kd.R_newB (Kd.R_newB ho50 (g := gb102) (o := .cells #[.int .i64 x103000_36] 3 (0, 0)) (by (with_reducible repeat (first | refine blk_drewN ?_ _ | refine blk_drew ?_ | refine blk_alloc ?_ _)); exact BK102.out)) (g := gb104) (o := .cells #[.int .i64 x105000_2] 3 (0, 0)) (by (with_reducible repeat (first | refine blk_drewN ?_ _ | refine blk_drew ?_ | refine blk_alloc ?_ _)); exact BK104.out)) (below_size (be_ HB)))
               replace BK102 := tb_ BK102 hb
               replace BK103 := tb_ BK103 hb
               replace BK104 := tb_ BK104 hb
               replace HB := ts_ HB hb
               clear hb ho50
               refine hK.out _ _ ((blk_cell BK103.out 0).trans rfl) (fun hHeld => ?_)
               clear hK K
               refine norm_ (a' := ?_) ?_ ?_
               rotate_left
               ·
                show Act.put _ (some 51) _ = _
                simp only [Act.put, List.setIfInBounds_toArray, List.set_cons_zero, List.set_cons_succ, i64_w, i32_w]
                rfl
               refine pure_ (i := 6) (N := some 10) (v := ?_) (a' := ?_) #[true, true, true, true, true, false, true, false] rfl rfl (any_of HT_.out (by kernel_rfl)) (fun _ _ _ h => h) (Or.inl ⟨by rfl, ?_⟩) ?_ ?_
               rotate_left
               ·
                intro w'
                go_simp
                with_reducible rfl
               rotate_left
               ·
                simp only [Act.put, List.setIfInBounds_toArray, List.set_cons_zero, List.set_cons_succ, i64_w, i32_w]
                rfl
               refine one_ (i := 5) (N := some 54) #[true, true, true, true, true, true, true, false] rfl rfl (one_of HT_.out (by kernel_rfl)) (by decide) (fun K hK => ?_)
               refine Kd.R_make_step (Kd.int .i64) _ 3 (by rfl) (N := 54) rfl 22 _ _ rfl (l1.length : Int) rfl rfl Try.underlying22 (.int .i64 0) 8 info3 rfl (by decide) (by omega) 0 (ok := fun _ => True) (okp := fun _ => True) rfl (fun _ hk => hk) trivial (of_decide_eq_true (by first | (with_reducible assumption) | assumption)) (Nat.le_trans (Nat.mul_le_mul_right _ (of_decide_eq_true (by first | (with_reducible assumption) | assumption) : (l1.length : Int).toNat ≤ 35184372088832)) (by omega)) (Below.refl _ _) (Nat.le_refl _) ?_
               intro v110 w51 ho52 hb hg_ hnew_
               clear hg_ hnew_
               (first | rw [← Ny109.out] at ho52 | (simp only [Int.reduceToNat] at ho52; rw [← Ny109.out] at ho52))
               have HO111 := Aside0.mk (Kd.R_lower (Kd.R_newB (Kd.R_newB (Kd.R_new' ho52 (Kd.R_lt (re_ HO108))) (g := gb102) (o := .cells #[.int .i64 x103000_36] 3 (0, 0)) (by (with_reducible repeat (first | refine blk_drewN ?_ _ | refine blk_drew ?_ | refine blk_alloc ?_ _)); exact BK102.out)) (g := gb104) (o := .cells #[.int .i64 x105000_2] 3 (0, 0)) (by (with_reducible repeat (first | refine blk_drewN ?_ _ | refine blk_drew ?_ | refine blk_alloc ?_ _)); exact BK104.out)) (below_size (be_ HB)))
               replace HO108 := Aside0.mk (Kd.R_elder' (re_ HO108) (Kd.R_base ho52) hb)
               replace BK102 := tb_ BK102 hb
               replace BK103 := tb_ BK103 hb
               replace BK104 := tb_ BK104 hb
               replace HB := ts_ HB hb
               clear hb ho52
               refine hK.out _ _ ((blk_cell BK103.out 0).trans rfl) (fun hHeld => ?_)
               clear hK K
               refine norm_ (a' := ?_) ?_ ?_
               rotate_left
               ·
                show Act.put _ (some 54) _ = _
                simp only [Act.put, List.setIfInBounds_toArray, List.set_cons_zero, List.set_cons_succ, i64_w, i32_w]
                rfl
               exact norm_ (by simp only [putAll, Act.put, List.setIfInBounds_toArray, List.set_cons_zero, List.set_cons_succ]) (hCont (v107, v110) _ ⟨hHeld, (by (with_reducible repeat (first | apply Kd.R_alloc | apply Kd.R_drewN | apply Kd.R_drew)); exact Kd.R_mono HO108.out (fun _ hk => ⟨hk.2, ⟨hk.1.1.2, hk.1.2⟩⟩)), (by (with_reducible repeat (first | apply Kd.R_alloc | apply Kd.R_drewN | apply Kd.R_drew)); exact Kd.R_mono HO111.out (fun _ hk => ⟨hk.1.1.2, ⟨hk.1.2, hk.2⟩⟩)), (by (with_reducible repeat (first | refine blk_drewN ?_ _ | refine blk_drew ?_ | refine blk_alloc ?_ _)); exact BK102.out), (by (with_reducible repeat (first | refine blk_drewN ?_ _ | refine blk_drew ?_ | refine blk_alloc ?_ _)); exact BK103.out), (by (with_reducible repeat (first | refine blk_drewN ?_ _ | refine blk_drew ?_ | refine blk_alloc ?_ _)); exact BK104.out), (be_ HB)⟩)
              ·
               skip
               refine Kd.R_make_step (Kd.int .i64) _ 3 (by rfl) (N := 54) rfl 22 _ _ rfl (l1.length : Int) rfl rfl Try.underlying22 (.int .i64 0) 8 info3 rfl (by decide) (by omega) 0 (ok := fun _ => True) (okp := fun _ => True) rfl (fun _ hk => hk) trivial (of_decide_eq_true (by first | (with_reducible assumption) | assumption)) (Nat.le_trans (Nat.mul_le_mul_right _ (of_decide_eq_true (by first | (with_reducible assumption) | assumption) : (l1.length : Int).toNat ≤ 35184372088832)) (by omega)) (Below.refl _ _) (Nat.le_refl _) ?_
               intro v110 w49 ho50 hb hg_ hnew_
               clear hg_ hnew_
               (first | rw [← Ny109.out] at ho50 | (simp only [Int.reduceToNat] at ho50; rw [← Ny109.out] at ho50))
               have HO111 := Aside0.mk (Kd.R_lower (Kd.R_newB (Kd.R_newB ho50 (g := gb102) (o := .cells #[.int .i64 x103000_36] 3 (0, 0)) (by (with_reducible repeat (first | refine blk_drewN ?_ _ | refine blk_drew ?_ | refine blk_alloc ?_ _)); exact BK102.out)) (g := gb104) (o := .cells #[.int .i64 x105000_2] 3 (0, 0)) (by (with_reducible repeat (first | refine blk_drewN ?_ _ | refine blk_drew ?_ | refine blk_alloc ?_ _)); exact BK104.out)) (below_size (be_ HB)))
               replace BK102 := tb_ BK102 hb
               replace BK103 := tb_ BK103 hb
               replace BK104 := tb_ BK104 hb
               replace HB := ts_ HB hb
               clear hb ho50
               refine hK.out _ _ ((blk_cell BK103.out 0).trans rfl) (fun hHeld => ?_)
               clear hK K
               refine norm_ (a' := ?_) ?_ ?_
               rotate_left
               ·
                show Act.put _ (some 54) _ = _
                simp only [Act.put, List.setIfInBounds_toArray, List.set_cons_zero, List.set_cons_succ, i64_w, i32_w]
                rfl
               refine one_ (i := 2) (N := some 51) #[true, true, true, true, true, true, false, false] rfl rfl (one_of HT_.out (by kernel_rfl)) (by decide) (fun K hK => ?_)
               refine Kd.R_make_step (Kd.int .i64) _ 3 (by rfl) (N := 51) rfl 22 _ _ rfl (l1.length : Int) rfl rfl Try.underlying22 (.int .i64 0) 8 info3 rfl (by decide) (by omega) 0 (ok := fun _ => True) (okp := fun _ => True) rfl (fun _ hk => hk) trivial (of_decide_eq_true (by first | (with_reducible assumption) | assumption)) (Nat.le_trans (Nat.mul_le_mul_right _ (of_decide_eq_true (by first | (with_reducible assumption) | assumption) : (l1.length : Int).toNat ≤ 35184372088832)) (by omega)) (Below.refl _ _) (Nat.le_refl _) ?_
               intro v107 w51 ho52 hb hg_ hnew_
               clear hg_ hnew_
               (first | rw [← Ny106.out] at ho52 | (simp only [Int.reduceToNat] at ho52; rw [← Ny106.out] at ho52))
               have HO108 := Aside0.mk (Kd.R_lower (Kd.R_newB (Kd.R_newB (Kd.R_new' ho52 (Kd.R_lt (re_ HO111))) (g := gb102) (o := .cells #[.int .i64 x103000_36] 3 (0, 0)) (by (with_reducible repeat (first | refine blk_drewN ?_ _ | refine blk_drew ?_ | refine blk_alloc ?_ _)); exact BK102.out)) (g := gb104) (o := .cells #[.int .i64 x105000_2] 3 (0, 0)) (by (with_reducible repeat (first | refine blk_drewN ?_ _ | refine blk_drew ?_ | refine blk_alloc ?_ _)); exact BK104.out)) (below_size (be_ HB)))
               replace HO111 := Aside0.mk (Kd.R_elder' (re_ HO111) (Kd.R_base ho52) hb)
               replace BK102 := tb_ BK102 hb
               replace BK103 := tb_ BK103 hb
               replace BK104 := tb_ BK104 hb
               replace HB := ts_ HB hb
               clear hb ho52
               refine hK.out _ _ ((blk_cell BK103.out 0).trans rfl) (fun hHeld => ?_)
               clear hK K
               refine norm_ (a' := ?_) ?_ ?_
               rotate_left
               ·
                show Act.put _ (some 51) _ = _
                simp only [Act.put, List.setIfInBounds_toArray, List.set_cons_zero, List.set_cons_succ, i64_w, i32_w]
                rfl
               refine pure_ (i := 6) (N := some 10) (v := ?_) (a' := ?_) #[true, true, true, true, true, true, true, false] rfl rfl (any_of HT_.out (by kernel_rfl)) (fun _ _ _ h => h) (Or.inl ⟨by rfl, ?_⟩) ?_ ?_
               rotate_left
               ·
                intro w'
                go_simp
                with_reducible rfl
               rotate_left
               ·
                simp only [Act.put, List.setIfInBounds_toArray, List.set_cons_zero, List.set_cons_succ, i64_w, i32_w]
                rfl
               exact norm_ (by simp only [putAll, Act.put, List.setIfInBounds_toArray, List.set_cons_zero, List.set_cons_succ]) (hCont (v107, v110) _ ⟨hHeld, (by (with_reducible repeat (first | apply Kd.R_alloc | apply Kd.R_drewN | apply Kd.R_drew)); exact Kd.R_mono HO108.out (fun _ hk => ⟨hk.1.1.2, ⟨hk.1.2, hk.2⟩⟩)), (by (with_reducible repeat (first | apply Kd.R_alloc | apply Kd.R_drewN | apply Kd.R_drew)); exact Kd.R_mono HO111.out (fun _ hk => ⟨hk.2, ⟨hk.1.1.2, hk.1.2⟩⟩)), (by (with_reducible repeat (first | refine blk_drewN ?_ _ | refine blk_drew ?_ | refine blk_alloc ?_ _)); exact BK102.out), (by (with_reducible repeat (first | refine blk_drewN ?_ _ | refine blk_drew ?_ | refine blk_alloc ?_ _)); exact BK103.out), (by (with_reducible repeat (first | refine blk_drewN ?_ _ | refine blk_drew ?_ | refine blk_alloc ?_ _)); exact BK104.out), (be_ HB)⟩)
             rintro ⟨v107, v110⟩ w53 ⟨hS_, h0_, h1_, h2_, h3_, h4_, h5_⟩
             have n0_ : Aside0 (Kd.R (Kd.int .i64) 3 w53 w.heap.size (fun k_ => some k_ ≠ (v110 : Value).ownBlock ∧ k_ ≠ gb102 ∧ k_ ≠ gb104) v107 y106) := ⟨h0_⟩
             have n1_ : Aside0 (Kd.R (Kd.int .i64) 3 w53 w.heap.size (fun k_ => some k_ ≠ (v107 : Value).ownBlock ∧ k_ ≠ gb102 ∧ k_ ≠ gb104) v110 y109) := ⟨h1_⟩
             have n2_ : Aside0 (w53.heap[gb102]? = some (.cells #[.int .i64 x103000_36] 3 (0, 0))) := ⟨h2_⟩
             have n3_ : Aside0 (w53.heap[gb103]? = some (.cells #[.slice A1 l1.length c1] 22 (0, 0))) := ⟨h3_⟩
             have n4_ : Aside0 (w53.heap[gb104]? = some (.cells #[.int .i64 x105000_2] 3 (0, 0))) := ⟨h4_⟩
             have n5_ : Aside0 (Below w.heap.size w w53) := ⟨h5_⟩
             clear BK102
             clear BK103
             clear BK104
             clear HB
             clear h0_ h1_ h2_ h3_ h4_ h5_
             have HO108 := n0_
             have HO111 := n1_
             have BK102 := n2_
             have BK103 := n3_
             have BK104 := n4_
             have HB := n5_
             clear n0_ n1_ n2_ n3_ n4_ n5_
             have hHeld : w53.cell? ⟨gb103, 0, none⟩ = some (.slice A1 l1.length c1) := hS_
             refine norm_ (a' := ?_) ?_ ?_
             rotate_left
             ·
              simp only [putAll, Act.put, List.setIfInBounds_toArray, List.set_cons_zero, List.set_cons_succ]
              rfl
             refine pure_ (i := 7) (N := some 11) (v := ?_) (a' := ?_) #[true, true, true, true, true, true, true, true] rfl rfl (any_of HT_.out (by kernel_rfl)) (fun _ _ _ h => h) (Or.inl ⟨by rfl, ?_⟩) ?_ ?_
             rotate_left
             ·
              intro w'
              go_simp
              with_reducible rfl
             rotate_left
             ·
              simp only [Act.put, List.setIfInBounds_toArray, List.set_cons_zero, List.set_cons_succ, i64_w, i32_w]
              rfl
             refine done_ (done_of HT_.out (by kernel_rfl)) ?_
             have hnb54 := NB102_103.out
             have hnc54 := NB103_102.out
             have hnb55 := NB102_104.out
             have hnc55 := NB104_102.out
             have hcz56_0 : w53.cell? ⟨gb102, 0, none⟩ = some (.int .i64 x103000_36) := (blk_cell BK102.out 0).trans rfl
             have hfz56_0 := blk_frozen BK102.out 0
             have hnb57 := NB103_104.out
             have hnc57 := NB104_103.out
             have hcz58_0 : w53.cell? ⟨gb103, 0, none⟩ = some (.slice A1 l1.length c1) := (blk_cell BK103.out 0).trans rfl
             have hfz58_0 := blk_frozen BK103.out 0
             try go_wp2
             go_loopg [12, 58] kj36 (fun kq v12 v58 w' => ∃ (x10_4 : List Int) (x11_4 : List Int) (x12_4 : Int) (x58_4 : Int), v12 = .int .i64 x12_4 ∧ v58 = .int .i64 x58_4 ∧ Aside0 (rounding_Allocate.l1 kq x9_36 x10_4 x11_4 x12_4 l1 (l1.length : Int) x58_4 x103000_36 l1 x105000_2 = some (r1, r2)) ∧ Aside0 (kq ≤ kj36) ∧ Aside0 (Kd.R (Kd.int .i64) 3 w' w.heap.size (fun k_ => some k_ ≠ (v110 : Value).ownBlock ∧ k_ ≠ gb102 ∧ k_ ≠ gb104) v107 x10_4) ∧ Aside0 (Kd.R (Kd.int .i64) 3 w' w.heap.size (fun k_ => some k_ ≠ (v107 : Value).ownBlock ∧ k_ ≠ gb102 ∧ k_ ≠ gb104) v110 x11_4) ∧ Aside0 (w'.heap[gb102]? = some (.cells #[.int .i64 x103000_36] 3 (0, 0))) ∧ Aside0 (w'.heap[gb103]? = some (.cells #[(.slice A1 l1.length c1)] 22 (0, 0))) ∧ Aside0 (w'.heap[gb104]? = some (.cells #[.int .i64 x105000_2] 3 (0, 0))) ∧ Aside0 (Below w.heap.size w w'))
             case atStart => exact ⟨(y106), (y109), (x103000_36), (0), (by first | rfl | (simp; done) | (simp [*]; done)), (by first | rfl | (simp; done) | (simp [*]; done)), H', ⟨Nat.le_refl _⟩, ⟨by (with_reducible repeat (first | apply Kd.R_alloc | apply Kd.R_drewN | apply Kd.R_drew)); exact HO108.out⟩, ⟨by (with_reducible repeat (first | apply Kd.R_alloc | apply Kd.R_drewN | apply Kd.R_drew)); exact HO111.out⟩, ⟨by (with_reducible repeat (first | refine blk_drewN ?_ _ | refine blk_drew ?_ | refine blk_alloc ?_ _)); exact BK102.out⟩, ⟨by (with_reducible repeat (first | refine blk_drewN ?_ _ | refine blk_drew ?_ | refine blk_alloc ?_ _)); exact BK103.out⟩, ⟨by (with_reducible repeat (first | refine blk_drewN ?_ _ | refine blk_drew ?_ | refine blk_alloc ?_ _)); exact BK104.out⟩, ⟨by repeat (first | (with_reducible first | exact HB.out | apply below_alloc | apply pw_below_drewN | apply below_drew1 | refine below_set ?_ GE102.out | refine below_set ?_ GE103.out | refine below_set ?_ GE104.out) | exact HB.out)⟩⟩
             case round =>
              clear H'
              try clear c1
              try clear p1
              try clear q1
              try clear hx1
              try clear c2
              try clear p2
              try clear c3
              try clear c3b0
              try clear c3b1
              try clear c4
              try clear c5
              try clear c6
              try clear p6
              try clear p10
              try clear q10
              try clear hx10
              try clear c11
              try clear c13
              try clear c13b0
              try clear c14
              try clear c15
              try clear c16
              try clear c18
              try clear c20
              try clear c21
              try clear c23
              try clear c25
              try clear c25b0
              try clear c26
              try clear c26b0
              try clear c27
              try clear c27b0
              try clear c28
              try clear c28b0
              try clear c29
              try clear c29b0
              try clear c30
              try clear c31
              try clear c33
              try clear c33b0
              try clear c33b1
              try clear c34
              try clear c35
              try clear c38
              try clear c39
              try clear c41
              try clear c43
              try clear c43b0
              try clear c46
              try clear c46b0
              try clear c46b1
              try clear c47
              try clear c47b0
              try clear c47b1
              try clear c54
              try clear c55
              try clear c57
              try clear hcz12_0
              try clear hcz15_0
              try clear hcz17_0
              try clear hcz22_0
              try clear hcz24_0
              try clear hcz32_0
              try clear hcz36_0
              try clear hcz40_0
              try clear hcz42_0
              try clear hcz56_0
              try clear hcz58_0
              try clear hcz7_0
              try clear hfz12_0
              try clear hfz15_0
              try clear hfz17_0
              try clear hfz22_0
              try clear hfz24_0
              try clear hfz32_0
              try clear hfz36_0
              try clear hfz40_0
              try clear hfz42_0
              try clear hfz56_0
              try clear hfz58_0
              try clear hfz7_0
              try clear hx105_0
              try clear p1
              try clear p10
              try clear p105
              try clear p2
              try clear p6
              try clear q1
              try clear q10
              try clear q105
              obtain ⟨x10_4, x11_4, x12_4, x58_4, rfl, rfl, HA, HK4, HO_10, HO_11, BK102, BK103, BK104, HB⟩ := hrel
              cases gk with
              | zero => exact absurd HA.out (by simp [rounding_Allocate.l1])
              | succ k4 =>
               have H := HA.out
               clear HA
               simp only [rounding_Allocate.l1] at H
               by_cases c59 : x58_4 < (l1.length : Int)
               ·
                rw [if_pos c59] at H
                have c59b0 : decide (x58_4 < (l1.length : Int)) = true := decide_eq_true c59
                clear c59
                by_cases c60 : 0 ≤ x58_4
                ·
                 rw [if_pos c60] at H
                 have c60b0 : decide (0 ≤ x58_4) = true := decide_eq_true c60
                 clear c60
                 by_cases c61 : x58_4 < (l1.length : Int)
                 ·
                  rw [if_pos c61] at H
                  have c61b0 : decide (x58_4 < (l1.length : Int)) = true := decide_eq_true c61
                  clear c61
                  by_cases c62 : x105000_2 = 0
                  ·
                   rw [if_pos c62] at H
                   exact absurd H (by simp)
                  ·
                   rw [if_neg c62] at H
                   have c62b0 : (x105000_2 == 0) = false := beq_eq_false_iff_ne.mpr c62
                   have c62b1 : (x105000_2 != 0) = true := bne_iff_ne.mpr c62
                   by_cases c63 : x58_4 < (x10_4.length : Int)
                   ·
                    rw [if_pos c63] at H
                    have c63b0 : decide (x58_4 < (x10_4.length : Int)) = true := decide_eq_true c63
                    clear c63
                    obtain ⟨y113, hy113⟩ : ∃ y_ : List Int, y_ = (x10_4.set (x58_4 : Int).toNat (wrap64 (Int.tdiv (wrap64 (x103000_36 * (rd l1 x58_4))) x105000_2))) := ⟨_, rfl⟩
                    replace H : (if x58_4 < (x11_4.length : Int) then (rounding_Allocate.l1 k4 x9_36 y113 (x11_4.set (x58_4 : Int).toNat x58_4) (wrap64 (x12_4 - (rd y113 x58_4))) l1 (l1.length : Int) (wrap64 (x58_4 + 1)) x103000_36 l1 x105000_2) else (none)) = some (r1, r2) := by first | (rw [hy113]; with_reducible exact H) | (have H2_ := (Option.bind_some _ _).symm.trans H; rw [hy113]; with_reducible exact H2_) | (have H2_ := (Option.bind_some _ _).symm.trans H; with_reducible exact H2_) | with_reducible exact H | (rw [hy113]; exact H) | exact H
                    have Ny113 := Aside0.mk hy113
                    clear hy113
                    by_cases c65 : x58_4 < (x11_4.length : Int)
                    ·
                     rw [if_pos c65] at H
                     have c65b0 : decide (x58_4 < (x11_4.length : Int)) = true := decide_eq_true c65
                     clear c65
                     obtain ⟨y114, hy114⟩ : ∃ y_ : List Int, y_ = (x11_4.set (x58_4 : Int).toNat x58_4) := ⟨_, rfl⟩
                     replace H : (rounding_Allocate.l1 k4 x9_36 y113 y114 (wrap64 (x12_4 - (rd y113 x58_4))) l1 (l1.length : Int) (wrap64 (x58_4 + 1)) x103000_36 l1 x105000_2) = some (r1, r2) := by first | (rw [hy114]; with_reducible exact H) | (have H2_ := (Option.bind_some _ _).symm.trans H; rw [hy114]; with_reducible exact H2_) | (have H2_ := (Option.bind_some _ _).symm.trans H; with_reducible exact H2_) | with_reducible exact H | (rw [hy114]; exact H) | exact H
                     have Ny114 := Aside0.mk hy114
                     clear hy114
                     have H' := Aside0.mk H
                     clear H
                     have p112 : 0 ≤ (x58_4 : Int) := of_decide_eq_true (by first | (with_reducible assumption) | assumption)
                     have q112 : x58_4 < (l1.length : Int) := of_decide_eq_true (by first | (with_reducible assumption) | assumption)
                     obtain ⟨ad112, e112, hx112_0⟩ := Kd.at_int HR1.out x58_4 p112 q112
                     cases e112
                     replace hx112_0 := (HB.out.cell (World.block_lt_of_cell? w _ hx112_0)).trans hx112_0
                     replace p112 := eq_true p112
                     replace q112 := eq_true q112
                     have hnb67 := NB102_103.out
                     have hnc67 := NB103_102.out
                     have hnb68 := NB102_104.out
                     have hnc68 := NB104_102.out
                     have hcz69_0 : wr.cell? ⟨gb102, 0, none⟩ = some (.int .i64 x103000_36) := (blk_cell BK102.out 0).trans rfl
                     have hfz69_0 := blk_frozen BK102.out 0
                     have hnb70 := NB104_103.out
                     have hnc70 := NB103_104.out
                     have hcz71_0 : wr.cell? ⟨gb104, 0, none⟩ = some (.int .i64 x105000_2) := (blk_cell BK104.out 0).trans rfl
                     have hfz71_0 := blk_frozen BK104.out 0
                     have p64 : 0 ≤ (x58_4 : Int) := of_decide_eq_true (by first | (with_reducible assumption) | assumption)
                     have q64 : (x58_4 : Int) < ((x10_4.length : Int) : Int) := of_decide_eq_true (by first | (with_reducible assumption) | assumption)
                     obtain ⟨go64, co64, eo64, gb64, gl64, cl64, HG64⟩ := Kd.R_form HO_10.out (by omega)
                     (first | cases eo64 | (injection eo64 with ea_ en_ ec_; (first | subst ea_ | (injection ea_ with ea_; subst ea_)); subst ec_; clear en_))
                     have GB64 := Aside0.mk gb64
                     have GG64 := Aside0.mk HG64
                     clear gb64 gl64 HG64
                     obtain ⟨hx64_0, hf64_0⟩ := Kd.R_celln 0 HO_10.out (x58_4 : Int) p64 q64
                     replace p64 := eq_true p64
                     replace q64 := eq_true q64
                     have HP72 := Kd.R_putg HO_10.out (x58_4 : Int) (wrap64 (Int.tdiv (wrap64 (x103000_36 * (rd l1 x58_4))) x105000_2))
                     go_wp2_with (first | ((with_reducible refine gate_store (t := 3) (p := 73) rfl ?_); refine store_event (t := 3) (p := 73) (v := ?vo_w73) (w1 := (wr.setCell ⟨go64, (x58_4 : Int).toNat, none⟩ (.int .i64 (wrap64 (Int.tdiv (wrap64 (x103000_36 * (rd l1 x58_4))) x105000_2))))) ?hg ?ho ?hn ?hr ?_; (case ho => rfl); (case hg => rfl); (case hn => rfl); (case hr => first | (go_simp; done) | (go_simp; rfl)); intro w73 hw; have hg : wr.grownBy w73 (some go64) := (by rw [hw]; exact HP72.2); have hp_ : Kd.R (Kd.int .i64) 3 w73 w.heap.size (fun k_ => some k_ ≠ (v110 : Value).ownBlock ∧ k_ ≠ gb102 ∧ k_ ≠ gb104) (.slice (some ⟨go64, 0, none⟩) x10_4.length co64) y113 := (by rw [hw, Ny113.out]; exact HP72.1); clear HP72; replace HO_11 := Aside0.mk (Kd.R_after (v := (.slice (some ⟨go64, 0, none⟩) x10_4.length co64)) (v1 := (.slice (some ⟨go64, 0, none⟩) x10_4.length co64)) (ok := (fun k_ => k_ ≠ gb102 ∧ k_ ≠ gb104)) (by (with_reducible repeat (first | apply Kd.R_alloc | apply Kd.R_drewN | apply Kd.R_drew)); exact Kd.R_mono HO_11.out (fun _ hk => ⟨⟨hk.2.1, hk.2.2⟩, hk.1⟩)) hg (.inl rfl)); replace BK102 := Aside0.mk (blk_grown (g := gb102) (o := .cells #[.int .i64 x103000_36] 3 (0, 0)) (by (with_reducible repeat (first | refine blk_drewN ?_ _ | refine blk_drew ?_ | refine blk_alloc ?_ _)); exact BK102.out) hg (Kd.R_away HO_10.out (fun _ hk => hk.2.1))); replace BK103 := Aside0.mk (blk_grown (g := gb103) (o := .cells #[.slice (some ad112) l1.length c1] 22 (0, 0)) (by (with_reducible repeat (first | refine blk_drewN ?_ _ | refine blk_drew ?_ | refine blk_alloc ?_ _)); exact BK103.out) hg (Kd.R_ne HO_10.out BK103.out (by decide))); replace BK104 := Aside0.mk (blk_grown (g := gb104) (o := .cells #[.int .i64 x105000_2] 3 (0, 0)) (by (with_reducible repeat (first | refine blk_drewN ?_ _ | refine blk_drew ?_ | refine blk_alloc ?_ _)); exact BK104.out) hg (Kd.R_away HO_10.out (fun _ hk => hk.2.2))); replace HO_10 := Aside0.mk (hp_); replace HB := Aside0.mk ((by rw [hw]; exact below_set (HB.out) GB64.out : Below w.heap.size w w73)); clear hg hw hp_; have p66 : 0 ≤ (x58_4 : Int) := of_decide_eq_true (by first | (with_reducible assumption) | assumption); have q66 : (x58_4 : Int) < ((x11_4.length : Int) : Int) := of_decide_eq_true (by first | (with_reducible assumption) | assumption); obtain ⟨go66, co66, eo66, gb66, gl66, cl66, HG66⟩ := Kd.R_form HO_11.out (by omega); (first | cases eo66 | (injection eo66 with ea_ en_ ec_; (first | subst ea_ | (injection ea_ with ea_; subst ea_)); subst ec_; clear en_)); have GB66 := Aside0.mk gb66; have GG66 := Aside0.mk HG66; clear gb66 gl66 HG66; obtain ⟨hx66_0, hf66_0⟩ := Kd.R_celln 0 HO_11.out (x58_4 : Int) p66 q66; replace p66 := eq_true p66; replace q66 := eq_true q66; have n_ := Aside0.mk (Kd.R_mono (ok' := (fun k_ => some k_ ≠ (.slice (some ⟨go64, 0, none⟩) x10_4.length co64 : Value).ownBlock ∧ k_ ≠ gb102 ∧ k_ ≠ gb104)) HO_11.out (fun k_ hk => ⟨hk.2, ⟨hk.1.1, hk.1.2⟩⟩)); clear HO_11; have HO_11 := n_; clear n_; obtain ⟨hy74_, hz74_⟩ := Kd.R_celln 0 HO_11.out (x58_4 : Int) (of_decide_eq_true (by first | (with_reducible assumption) | assumption)) (of_decide_eq_true (by first | (with_reducible assumption) | assumption)); have HP74 := Kd.R_putg HO_11.out (x58_4 : Int) x58_4) | ((with_reducible refine gate_store (t := 3) (p := 74) rfl ?_); refine store_event (t := 3) (p := 74) (v := ?vo_w75) (w1 := (w73.setCell ⟨go66, (x58_4 : Int).toNat, none⟩ (.int .i64 x58_4))) ?hg ?ho ?hn ?hr ?_; (case ho => rfl); (case hg => rfl); (case hn => rfl); (case hr => first | (go_simp; done) | (go_simp; rfl)); intro w75 hw; have hg : w73.grownBy w75 (some go66) := (by rw [hw]; exact HP74.2); have hp_ : Kd.R (Kd.int .i64) 3 w75 w.heap.size (fun k_ => some k_ ≠ (.slice (some ⟨go64, 0, none⟩) x10_4.length co64 : Value).ownBlock ∧ k_ ≠ gb102 ∧ k_ ≠ gb104) (.slice (some ⟨go66, 0, none⟩) x11_4.length co66) y114 := (by rw [hw, Ny114.out]; exact HP74.1); clear HP74; replace HO_10 := Aside0.mk (Kd.R_after (v := (.slice (some ⟨go66, 0, none⟩) x11_4.length co66)) (v1 := (.slice (some ⟨go66, 0, none⟩) x11_4.length co66)) (ok := (fun k_ => k_ ≠ gb102 ∧ k_ ≠ gb104)) (by (with_reducible repeat (first | apply Kd.R_alloc | apply Kd.R_drewN | apply Kd.R_drew)); exact Kd.R_mono HO_10.out (fun _ hk => ⟨⟨hk.2.1, hk.2.2⟩, hk.1⟩)) hg (.inl rfl)); replace BK102 := Aside0.mk (blk_grown (g := gb102) (o := .cells #[.int .i64 x103000_36] 3 (0, 0)) (by (with_reducible repeat (first | refine blk_drewN ?_ _ | refine blk_drew ?_ | refine blk_alloc ?_ _)); exact BK102.out) hg (Kd.R_away HO_11.out (fun _ hk => hk.2.1))); replace BK103 := Aside0.mk (blk_grown (g := gb103) (o := .cells #[.slice (some ad112) l1.length c1] 22 (0, 0)) (by (with_reducible repeat (first | refine blk_drewN ?_ _ | refine blk_drew ?_ | refine blk_alloc ?_ _)); exact BK103.out) hg (Kd.R_ne HO_11.out BK103.out (by decide))); replace BK104 := Aside0.mk (blk_grown (g := gb104) (o := .cells #[.int .i64 x105000_2] 3 (0, 0)) (by (with_reducible repeat (first | refine blk_drewN ?_ _ | refine blk_drew ?_ | refine blk_alloc ?_ _)); exact BK104.out) hg (Kd.R_away HO_11.out (fun _ hk => hk.2.2))); replace HO_11 := Aside0.mk (hp_); replace HB := Aside0.mk ((by rw [hw]; exact below_set (HB.out) GB66.out : Below w.heap.size w w75)); clear hg hw hp_; have p115 : 0 ≤ (x58_4 : Int) := of_decide_eq_true (by first | (with_reducible assumption) | assumption); have q115 : x58_4 < (y113.length : Int) := (by have h_ : (x58_4 : Int) < ((x10_4.length : Int) : Int) := of_decide_eq_true (by first | (with_reducible assumption) | assumption); first | (have e_ := (Kd.R_reads' HO_10.out).1; omega) | simpa only [Ny113.out, List.length_set] using h_); have ql115 : ((x58_4 : Int) < ((x10_4.length : Int) : Int)) = True := eq_true (of_decide_eq_true (by first | (with_reducible assumption) | assumption)); obtain ⟨ad115, e115, hx115_0⟩ := Kd.at_int (Kd.R_reads' HO_10.out).2.2 x58_4 p115 q115; obtain rfl : (⟨go64, 0, none⟩ : Addr) = ad115 := (by injection e115); (first | simp only [add_plain] at hx115_0 | simp only [add_at] at hx115_0 | simp only [Addr.add, Nat.zero_add] at hx115_0 | skip); replace p115 := eq_true p115; replace q115 := eq_true q115))
                     go_roundg k4
                     case measure => have := HJ7.out; have := HK2.out; have := HJ36.out; have := HK4.out; omega
                     case rel => exact ⟨(y113), (y114), (wrap64 (x12_4 - (rd y113 x58_4))), (wrap64 (x58_4 + 1)), (by first | rfl | (simp; done) | (simp [*]; done)), (by first | rfl | (simp; done) | (simp [*]; done)), H', ⟨by have := HJ7.out; have := HK2.out; have := HJ36.out; have := HK4.out; omega⟩, ⟨by (with_reducible repeat (first | apply Kd.R_alloc | apply Kd.R_drewN | apply Kd.R_drew)); exact Kd.R_mono HO_10.out (fun _ hk => ⟨hk.2, ⟨hk.1.1, hk.1.2⟩⟩)⟩, ⟨by (with_reducible repeat (first | apply Kd.R_alloc | apply Kd.R_drewN | apply Kd.R_drew)); exact HO_11.out⟩, ⟨by (with_reducible repeat (first | refine blk_drewN ?_ _ | refine blk_drew ?_ | refine blk_alloc ?_ _)); exact BK102.out⟩, ⟨by (with_reducible repeat (first | refine blk_drewN ?_ _ | refine blk_drew ?_ | refine blk_alloc ?_ _)); exact BK103.out⟩, ⟨by (with_reducible repeat (first | refine blk_drewN ?_ _ | refine blk_drew ?_ | refine blk_alloc ?_ _)); exact BK104.out⟩, ⟨by repeat (first | (with_reducible first | exact HB.out | apply below_alloc | apply pw_below_drewN | apply below_drew1 | refine below_set ?_ GE102.out | refine below_set ?_ GE103.out | refine below_set ?_ GE104.out) | exact HB.out)⟩⟩
                    ·
                     rw [if_neg c65] at H
                     exact absurd H (by simp)
                   ·
                    rw [if_neg c63] at H
                    exact absurd H (by simp)
                 ·
                  rw [if_neg c61] at H
                  exact absurd H (by simp)
                ·
                 rw [if_neg c60] at H
                 exact absurd H (by simp)
               ·
                rw [if_neg c59] at H
                have c59b0 : decide (x58_4 < (l1.length : Int)) = false := decide_eq_false c59
                clear c59
                replace H := Option.bind_eq_some_iff.mp H
                obtain ⟨t116, A760, H⟩ := H
                replace H : (if 0 ≤ x12_4 then (if x12_4 ≤ (x11_4.length : Int) then ((some (t116.take (x12_4 : Int).toNat : List Int)).bind fun y117 => (rounding_Allocate.l2 k4 x9_36 x10_4 y117 (y117.length : Int) 0)) else (none)) else (none)) = some (r1, r2) := H
                have A76 := Aside0.mk A760
                clear A760
                by_cases c77 : 0 ≤ x12_4
                ·
                 rw [if_pos c77] at H
                 have c77b0 := eq_true c77
                 have c77b1 : decide (0 ≤ x12_4) = true := decide_eq_true c77
                 clear c77
                 by_cases c78 : x12_4 ≤ (x11_4.length : Int)
                 ·
                  rw [if_pos c78] at H
                  have c78b0 := eq_true c78
                  have c78b1 : decide (x12_4 ≤ (x11_4.length : Int)) = true := decide_eq_true c78
                  clear c78
                  obtain ⟨y117, hy117⟩ : ∃ y_ : List Int, y_ = (t116.take (x12_4 : Int).toNat) := ⟨_, rfl⟩
                  replace H : (rounding_Allocate.l2 k4 x9_36 x10_4 y117 (y117.length : Int) 0) = some (r1, r2) := by first | (rw [hy117]; with_reducible exact H) | (have H2_ := (Option.bind_some _ _).symm.trans H; rw [hy117]; with_reducible exact H2_) | (have H2_ := (Option.bind_some _ _).symm.trans H; with_reducible exact H2_) | with_reducible exact H | (rw [hy117]; exact H) | exact H
                  have Ny117 := Aside0.mk hy117
                  clear hy117
                  have H' := Aside0.mk H
                  clear H
                  obtain ⟨Ao79, co79, eo79⟩ := Kd.R_slice HO_11.out
                  subst eo79
                  go_wp2_with (first | (go_at_call 34; (with_reducible refine (sortAllocate.calls (fun k_ => some k_ = (.slice Ao79 x11_4.length co79 : Value).ownBlock) (.slice Ao79 x11_4.length co79) x11_4 x103000_36 A1 c1 l1 x105000_2 t116 w _ ?side1 ?side5 ?side6 ?side7 ?side2 ?side3 ?side4 A76.out).mono ?_); (case side1 => exact be_ HB); (case side2 => exact Kd.R_tight rfl HO_11.out); (case side3 => exact Kd.C_kept_came (Kd.heap_int .i64) HR1.out (be_ HB) (fun k_ hs_ => (fun e_ => Kd.R_base HO_11.out k_ e_.symm) hs_)); (case side4 => exact HC1.out); (case side5 => exact fun W_ hW_ => blk_kept (by (with_reducible repeat (first | refine blk_drewN ?_ _ | refine blk_drew ?_ | refine blk_alloc ?_ _)); exact BK102.out) hW_ (fun hs_ => (fun e_ => (Kd.R_away HO_11.out (fun _ hk => hk.2.1)) e_) hs_)); (case side6 => exact fun W_ hW_ => blk_kept (by (with_reducible repeat (first | refine blk_drewN ?_ _ | refine blk_drew ?_ | refine blk_alloc ?_ _)); exact BK103.out) hW_ (fun hs_ => (fun e_ => (Kd.R_ne HO_11.out BK103.out (by decide)) e_) hs_)); (case side7 => exact fun W_ hW_ => blk_kept (by (with_reducible repeat (first | refine blk_drewN ?_ _ | refine blk_drew ?_ | refine blk_alloc ?_ _)); exact BK104.out) hW_ (fun hs_ => (fun e_ => (Kd.R_away HO_11.out (fun _ hk => hk.2.2)) e_) hs_)); rintro e w80 ⟨rfl, hy0, hb, hkp⟩; replace HO_10 := Aside0.mk (Kd.R_mono (ok' := fun k_ => some k_ ≠ (.slice Ao79 x11_4.length co79 : Value).ownBlock ∧ k_ ≠ gb102 ∧ k_ ≠ gb104) (Kd.R_keptB (HO_10.out) hkp (fun k_ hk_ hs_ => (hk_.1) hs_)) (fun k_ hk_ => ⟨hk_.1.1, hk_.1.2.1, hk_.1.2.2⟩)); replace BK102 := Aside0.mk (blk_kept (by (with_reducible repeat (first | refine blk_drewN ?_ _ | refine blk_drew ?_ | refine blk_alloc ?_ _)); exact BK102.out) hkp (fun hs_ => (fun e_ => (Kd.R_away HO_11.out (fun _ hk => hk.2.1)) e_) hs_)); replace BK103 := Aside0.mk (blk_kept (by (with_reducible repeat (first | refine blk_drewN ?_ _ | refine blk_drew ?_ | refine blk_alloc ?_ _)); exact BK103.out) hkp (fun hs_ => (fun e_ => (Kd.R_ne HO_11.out BK103.out (by decide)) e_) hs_)); replace BK104 := Aside0.mk (blk_kept (by (with_reducible repeat (first | refine blk_drewN ?_ _ | refine blk_drew ?_ | refine blk_alloc ?_ _)); exact BK104.out) hkp (fun hs_ => (fun e_ => (Kd.R_away HO_11.out (fun _ hk => hk.2.2)) e_) hs_)); replace HO_11 := Aside0.mk (Kd.R_reok rfl hy0 (fun k_ e_ => HO_11.out.1 k_ e_)); replace HB := Aside0.mk (hb); (try clear hb); (try clear hkp); (try clear hy0); have q81 : (x12_4 : Int) ≤ ((x11_4.length : Int) : Int) := of_decide_eq_true (by first | (with_reducible assumption) | assumption); obtain ⟨i081, hi081, _, hsz81, _⟩ := info_parts info3; have hcut81 := cut_to (P := Try.prog) 22 3 .i64 Try.underlying22 hi081 Ao79 x11_4.length co79 x12_4 (of_decide_eq_true (by first | (with_reducible assumption) | assumption)) q81 (Kd.R_reads' HO_11.out).2.1; have hlk81 := (Kd.R_reads' HO_11.out).1; have hr81 := Kd.R_take (m := (x12_4 : Int).toNat) HO_11.out (by omega); have hy81 : y117.length = (x12_4 : Int).toNat := (by rw [Ny117.out, List.length_take]; omega); rw [← Ny117.out] at hr81; rw [← hy81] at hr81 hcut81; clear hy81 hi081 hsz81 HO_11 hlk81; have HO119 := Aside0.mk hr81; clear hr81; replace q81 := eq_true q81; have n_HO_10 := Aside0.mk (by have h_ := HO_10.out; rw [own_len Ao79 x11_4.length y117.length co79 co79] at h_; exact h_); clear HO_10; have HO_10 := n_HO_10; clear n_HO_10))
                  go_loopg [89] k4 (fun kq v89 w' => ∃ (x10_5 : List Int) (x89_5 : Int), v89 = .int .i64 x89_5 ∧ Aside0 (rounding_Allocate.l2 kq x9_36 x10_5 y117 (y117.length : Int) x89_5 = some (r1, r2)) ∧ Aside0 (kq ≤ k4) ∧ Aside0 (Kd.R (Kd.int .i64) 3 w' w.heap.size (fun k_ => some k_ ≠ ((.slice Ao79 y117.length co79) : Value).ownBlock ∧ k_ ≠ gb102 ∧ k_ ≠ gb104) v107 x10_5) ∧ Aside0 (Kd.R (Kd.int .i64) 3 w' w.heap.size (fun k_ => some k_ ≠ (v107 : Value).ownBlock ∧ k_ ≠ gb102 ∧ k_ ≠ gb104) (.slice Ao79 y117.length co79) y117) ∧ Aside0 (w'.heap[gb102]? = some (.cells #[.int .i64 x103000_36] 3 (0, 0))) ∧ Aside0 (w'.heap[gb103]? = some (.cells #[(.slice A1 l1.length c1)] 22 (0, 0))) ∧ Aside0 (w'.heap[gb104]? = some (.cells #[.int .i64 x105000_2] 3 (0, 0))) ∧ Aside0 (Below w.heap.size w w'))
                  case atStart => exact ⟨(x10_4), (0), (by first | rfl | (simp; done) | (simp [*]; done)), H', ⟨Nat.le_refl _⟩, ⟨by (with_reducible repeat (first | apply Kd.R_alloc | apply Kd.R_drewN | apply Kd.R_drew)); exact HO_10.out⟩, ⟨by (with_reducible repeat (first | apply Kd.R_alloc | apply Kd.R_drewN | apply Kd.R_drew)); exact HO119.out⟩, ⟨by (with_reducible repeat (first | refine blk_drewN ?_ _ | refine blk_drew ?_ | refine blk_alloc ?_ _)); exact BK102.out⟩, ⟨by (with_reducible repeat (first | refine blk_drewN ?_ _ | refine blk_drew ?_ | refine blk_alloc ?_ _)); exact BK103.out⟩, ⟨by (with_reducible repeat (first | refine blk_drewN ?_ _ | refine blk_drew ?_ | refine blk_alloc ?_ _)); exact BK104.out⟩, ⟨by repeat (first | (with_reducible first | exact HB.out | apply below_alloc | apply pw_below_drewN | apply below_drew1 | refine below_set ?_ GE102.out | refine below_set ?_ GE103.out | refine below_set ?_ GE104.out) | exact HB.out)⟩⟩
                  case round =>
                   clear H'
                   try clear c1
                   try clear p1
                   try clear q1
                   try clear hx1
                   try clear c2
                   try clear p2
                   try clear c3
                   try clear c3b0
                   try clear c3b1
                   try clear c4
                   try clear c5
                   try clear c6
                   try clear p6
                   try clear q6
                   try clear hx6
                   try clear hf6
                   try clear c7
                   try clear q8
                   try clear p10
                   try clear q10
                   try clear hx10
                   try clear c11
                   try clear p11
                   try clear q11
                   try clear hx11
                   try clear c13
                   try clear c13b0
                   try clear c14
                   try clear c15
                   try clear c16
                   try clear c18
                   try clear c20
                   try clear c21
                   try clear c23
                   try clear c25
                   try clear c25b0
                   try clear c26
                   try clear c26b0
                   try clear c27
                   try clear c27b0
                   try clear c28
                   try clear c28b0
                   try clear c29
                   try clear c29b0
                   try clear c30
                   try clear c31
                   try clear c33
                   try clear c33b0
                   try clear c33b1
                   try clear c34
                   try clear c35
                   try clear c38
                   try clear c39
                   try clear c41
                   try clear c43
                   try clear c43b0
                   try clear c46
                   try clear c46b0
                   try clear c46b1
                   try clear c47
                   try clear c47b0
                   try clear c47b1
                   try clear c54
                   try clear c55
                   try clear c57
                   try clear c59
                   try clear c59b0
                   try clear c60
                   try clear c60b0
                   try clear c61
                   try clear c61b0
                   try clear c62
                   try clear c62b0
                   try clear c62b1
                   try clear c63
                   try clear c63b0
                   try clear p64
                   try clear q64
                   try clear hx64
                   try clear hf64
                   try clear c65
                   try clear c65b0
                   try clear p66
                   try clear q66
                   try clear hx66
                   try clear hf66
                   try clear c67
                   try clear c68
                   try clear c70
                   try clear c77
                   try clear c77b0
                   try clear c77b1
                   try clear c78
                   try clear c78b0
                   try clear c78b1
                   try clear q81
                   try clear hcz12_0
                   try clear hcz15_0
                   try clear hcz17_0
                   try clear hcz22_0
                   try clear hcz24_0
                   try clear hcz32_0
                   try clear hcz36_0
                   try clear hcz40_0
                   try clear hcz42_0
                   try clear hcz56_0
                   try clear hcz58_0
                   try clear hcz69_0
                   try clear hcz71_0
                   try clear hcz7_0
                   try clear hfz12_0
                   try clear hfz15_0
                   try clear hfz17_0
                   try clear hfz22_0
                   try clear hfz24_0
                   try clear hfz32_0
                   try clear hfz36_0
                   try clear hfz40_0
                   try clear hfz42_0
                   try clear hfz56_0
                   try clear hfz58_0
                   try clear hfz69_0
                   try clear hfz71_0
                   try clear hfz7_0
                   try clear hx105_0
                   try clear hx112_0
                   try clear hx115_0
                   try clear hx64_0
                   try clear hx66_0
                   try clear p1
                   try clear p10
                   try clear p105
                   try clear p112
                   try clear p115
                   try clear p2
                   try clear p6
                   try clear p64
                   try clear p66
                   try clear q1
                   try clear q10
                   try clear q105
                   try clear q112
                   try clear q115
                   try clear q64
                   try clear q66
                   try clear q81
                   obtain ⟨x10_5, x89_5, rfl, HA, HK5, HO_10, HO_87, BK102, BK103, BK104, HB⟩ := hrel
                   cases gk with
                   | zero => exact absurd HA.out (by simp [rounding_Allocate.l2])
                   | succ k5 =>
                    have H := HA.out
                    clear HA
                    simp only [rounding_Allocate.l2] at H
                    by_cases c82 : x89_5 < (y117.length : Int)
                    ·
                     rw [if_pos c82] at H
                     have c82b0 : decide (x89_5 < (y117.length : Int)) = true := decide_eq_true c82
                     clear c82
                     by_cases c83 : 0 ≤ x89_5
                     ·
                      rw [if_pos c83] at H
                      have c83b0 : decide (0 ≤ x89_5) = true := decide_eq_true c83
                      clear c83
                      by_cases c84 : x89_5 < (y117.length : Int)
                      ·
                       rw [if_pos c84] at H
                       have c84b0 : decide (x89_5 < (y117.length : Int)) = true := decide_eq_true c84
                       clear c84
                       by_cases c85 : 0 ≤ (rd y117 x89_5)
                       ·
                        rw [if_pos c85] at H
                        have c85b0 : decide (0 ≤ (rd y117 x89_5)) = true := decide_eq_true c85
                        clear c85
                        by_cases c86 : (rd y117 x89_5) < (x10_5.length : Int)
                        ·
                         rw [if_pos c86] at H
                         have c86b0 : decide ((rd y117 x89_5) < (x10_5.length : Int)) = true := decide_eq_true c86
                         clear c86
                         obtain ⟨y122, hy122⟩ : ∃ y_ : List Int, y_ = (x10_5.set ((rd y117 x89_5) : Int).toNat (wrap64 ((rd x10_5 (rd y117 x89_5)) + 1))) := ⟨_, rfl⟩
                         replace H : (rounding_Allocate.l2 k5 x9_36 y122 y117 (y117.length : Int) (wrap64 (x89_5 + 1))) = some (r1, r2) := by first | (rw [hy122]; with_reducible exact H) | (have H2_ := (Option.bind_some _ _).symm.trans H; rw [hy122]; with_reducible exact H2_) | (have H2_ := (Option.bind_some _ _).symm.trans H; with_reducible exact H2_) | with_reducible exact H | (rw [hy122]; exact H) | exact H
                         have Ny122 := Aside0.mk hy122
                         clear hy122
                         have H' := Aside0.mk H
                         clear H
                         have p120 : 0 ≤ (x89_5 : Int) := of_decide_eq_true (by first | (with_reducible assumption) | assumption)
                         have q120 : x89_5 < (y117.length : Int) := of_decide_eq_true (by first | (with_reducible assumption) | assumption)
                         obtain ⟨ad120, e120, hx120_0⟩ := Kd.at_int (Kd.R_reads' HO_87.out).2.2 x89_5 p120 q120
                         cases e120
                         replace p120 := eq_true p120
                         replace q120 := eq_true q120
                         obtain ⟨Ao88, co88, eo88⟩ := Kd.R_slice HO_10.out
                         subst eo88
                         have p121 : 0 ≤ ((rd y117 x89_5) : Int) := of_decide_eq_true (by first | (with_reducible assumption) | assumption)
                         have q121 : (rd y117 x89_5) < (x10_5.length : Int) := of_decide_eq_true (by first | (with_reducible assumption) | assumption)
                         obtain ⟨ad121, e121, hx121_0⟩ := Kd.at_int (Kd.R_reads' HO_10.out).2.2 (rd y117 x89_5) p121 q121
                         cases e121
                         replace p121 := eq_true p121
                         replace q121 := eq_true q121
                         have p87 : 0 ≤ ((rd y117 x89_5) : Int) := of_decide_eq_true (by first | (with_reducible assumption) | assumption)
                         have q87 : ((rd y117 x89_5) : Int) < ((x10_5.length : Int) : Int) := of_decide_eq_true (by first | (with_reducible assumption) | assumption)
                         obtain ⟨go87, co87, eo87, gb87, gl87, cl87, HG87⟩ := Kd.R_form HO_10.out (by omega)
                         (first | cases eo87 | (injection eo87 with ea_ en_ ec_; (first | subst ea_ | (injection ea_ with ea_; subst ea_)); subst ec_; clear en_))
                         have GB87 := Aside0.mk gb87
                         have GG87 := Aside0.mk HG87
                         clear gb87 gl87 HG87
                         (first | simp only [add_plain] at hx121_0 | skip)
                         obtain ⟨hx87_0, hf87_0⟩ := Kd.R_celln 0 HO_10.out ((rd y117 x89_5) : Int) p87 q87
                         replace p87 := eq_true p87
                         replace q87 := eq_true q87
                         have HP89 := Kd.R_putg HO_10.out ((rd y117 x89_5) : Int) (wrap64 ((rd x10_5 (rd y117 x89_5)) + 1))
                         go_wp2_with (first | ((with_reducible refine gate_store (t := 3) (p := 98) rfl ?_); refine store_event (t := 3) (p := 98) (v := ?vo_w90) (w1 := (wr.setCell ⟨go87, ((rd y117 x89_5) : Int).toNat, none⟩ (.int .i64 (wrap64 ((rd x10_5 (rd y117 x89_5)) + 1))))) ?hg ?ho ?hn ?hr ?_; (case ho => rfl); (case hg => rfl); (case hn => rfl); (case hr => first | (go_simp; done) | (go_simp; rfl)); intro w90 hw; have hg : wr.grownBy w90 (some go87) := (by rw [hw]; exact HP89.2); have hp_ : Kd.R (Kd.int .i64) 3 w90 w.heap.size (fun k_ => some k_ ≠ (.slice (some ad120) y117.length co79 : Value).ownBlock ∧ k_ ≠ gb102 ∧ k_ ≠ gb104) (.slice (some ⟨go87, 0, none⟩) x10_5.length co88) y122 := (by rw [hw, Ny122.out]; exact HP89.1); clear HP89; replace HO_87 := Aside0.mk (Kd.R_after (v := (.slice (some ⟨go87, 0, none⟩) x10_5.length co88)) (v1 := (.slice (some ⟨go87, 0, none⟩) x10_5.length co88)) (ok := (fun k_ => k_ ≠ gb102 ∧ k_ ≠ gb104)) (by (with_reducible repeat (first | apply Kd.R_alloc | apply Kd.R_drewN | apply Kd.R_drew)); exact Kd.R_mono HO_87.out (fun _ hk => ⟨⟨hk.2.1, hk.2.2⟩, hk.1⟩)) hg (.inl rfl)); replace BK102 := Aside0.mk (blk_grown (g := gb102) (o := .cells #[.int .i64 x103000_36] 3 (0, 0)) (by (with_reducible repeat (first | refine blk_drewN ?_ _ | refine blk_drew ?_ | refine blk_alloc ?_ _)); exact BK102.out) hg (Kd.R_away HO_10.out (fun _ hk => hk.2.1))); replace BK103 := Aside0.mk (blk_grown (g := gb103) (o := .cells #[.slice A1 l1.length c1] 22 (0, 0)) (by (with_reducible repeat (first | refine blk_drewN ?_ _ | refine blk_drew ?_ | refine blk_alloc ?_ _)); exact BK103.out) hg (Kd.R_ne HO_10.out BK103.out (by decide))); replace BK104 := Aside0.mk (blk_grown (g := gb104) (o := .cells #[.int .i64 x105000_2] 3 (0, 0)) (by (with_reducible repeat (first | refine blk_drewN ?_ _ | refine blk_drew ?_ | refine blk_alloc ?_ _)); exact BK104.out) hg (Kd.R_away HO_10.out (fun _ hk => hk.2.2))); replace HO_10 := Aside0.mk (hp_); replace HB := Aside0.mk ((by rw [hw]; exact below_set (HB.out) GB87.out : Below w.heap.size w w90)); clear hg hw hp_))
                         go_roundg k5
                         case measure => have := HJ7.out; have := HK2.out; have := HJ36.out; have := HK4.out; have := HK5.out; omega
                         case rel => exact ⟨(y122), (wrap64 (x89_5 + 1)), (by first | rfl | (simp; done) | (simp [*]; done)), H', ⟨by have := HJ7.out; have := HK2.out; have := HJ36.out; have := HK4.out; have := HK5.out; omega⟩, ⟨by (with_reducible repeat (first | apply Kd.R_alloc | apply Kd.R_drewN | apply Kd.R_drew)); exact HO_10.out⟩, ⟨by (with_reducible repeat (first | apply Kd.R_alloc | apply Kd.R_drewN | apply Kd.R_drew)); exact Kd.R_mono HO_87.out (fun _ hk => ⟨hk.2, ⟨hk.1.1, hk.1.2⟩⟩)⟩, ⟨by (with_reducible repeat (first | refine blk_drewN ?_ _ | refine blk_drew ?_ | refine blk_alloc ?_ _)); exact BK102.out⟩, ⟨by (with_reducible repeat (first | refine blk_drewN ?_ _ | refine blk_drew ?_ | refine blk_alloc ?_ _)); exact BK103.out⟩, ⟨by (with_reducible repeat (first | refine blk_drewN ?_ _ | refine blk_drew ?_ | refine blk_alloc ?_ _)); exact BK104.out⟩, ⟨by repeat (first | (with_reducible first | exact HB.out | apply below_alloc | apply pw_below_drewN | apply below_drew1 | refine below_set ?_ GE102.out | refine below_set ?_ GE103.out | refine below_set ?_ GE104.out) | exact HB.out)⟩⟩
                        ·
                         rw [if_neg c86] at H
                         exact absurd H (by simp)
                       ·
                        rw [if_neg c85] at H
                        exact absurd H (by simp)
                      ·
                       rw [if_neg c84] at H
                       exact absurd H (by simp)
                     ·
                      rw [if_neg c83] at H
                      exact absurd H (by simp)
                    ·
                     rw [if_neg c82] at H
                     have c82b0 : decide (x89_5 < (y117.length : Int)) = false := decide_eq_false c82
                     clear c82
                     have H' := Aside0.mk H
                     clear H
                     obtain ⟨Ao91, co91, eo91⟩ := Kd.R_slice HO_10.out
                     subst eo91
                     go_wp2
                     go_loopg [102] k5 (fun kq v102 w' => ∃ (x10_6 : List Int) (x102_6 : Int), v102 = .int .i64 x102_6 ∧ Aside0 (rounding_Allocate.l3 kq x9_36 x10_6 (x10_5.length : Int) x102_6 = some (r1, r2)) ∧ Aside0 (kq ≤ k5) ∧ Aside0 (Kd.R (Kd.int .i64) 3 w' w.heap.size (fun k_ => k_ ≠ gb102 ∧ k_ ≠ gb104) (.slice Ao91 x10_5.length co91) x10_6) ∧ Aside0 (w'.heap[gb102]? = some (.cells #[.int .i64 x103000_36] 3 (0, 0))) ∧ Aside0 (w'.heap[gb103]? = some (.cells #[(.slice A1 l1.length c1)] 22 (0, 0))) ∧ Aside0 (w'.heap[gb104]? = some (.cells #[.int .i64 x105000_2] 3 (0, 0))) ∧ Aside0 (Below w.heap.size w w'))
                     case atStart => exact ⟨(x10_5), (0), (by first | rfl | (simp; done) | (simp [*]; done)), H', ⟨Nat.le_refl _⟩, ⟨by (with_reducible repeat (first | apply Kd.R_alloc | apply Kd.R_drewN | apply Kd.R_drew)); exact Kd.R_mono HO_10.out (fun _ hk => ⟨hk.2.1, hk.2.2⟩)⟩, ⟨by (with_reducible repeat (first | refine blk_drewN ?_ _ | refine blk_drew ?_ | refine blk_alloc ?_ _)); exact BK102.out⟩, ⟨by (with_reducible repeat (first | refine blk_drewN ?_ _ | refine blk_drew ?_ | refine blk_alloc ?_ _)); exact BK103.out⟩, ⟨by (with_reducible repeat (first | refine blk_drewN ?_ _ | refine blk_drew ?_ | refine blk_alloc ?_ _)); exact BK104.out⟩, ⟨by repeat (first | (with_reducible first | exact HB.out | apply below_alloc | apply pw_below_drewN | apply below_drew1 | refine below_set ?_ GE102.out | refine below_set ?_ GE103.out | refine below_set ?_ GE104.out) | exact HB.out)⟩⟩
                     case round =>
                      clear H'
                      try clear c1
                      try clear p1
                      try clear q1
                      try clear hx1
                      try clear c2
                      try clear p2
                      try clear c3
                      try clear c3b0
                      try clear c3b1
                      try clear c4
                      try clear c5
                      try clear c6
                      try clear p6
                      try clear q6
                      try clear hx6
                      try clear hf6
                      try clear c7
                      try clear c8
                      try clear p8
                      try clear q8
                      try clear hx8
                      try clear hf8
                      try clear p10
                      try clear q10
                      try clear hx10
                      try clear c11
                      try clear p11
                      try clear q11
                      try clear hx11
                      try clear p12
                      try clear q12
                      try clear hx12
                      try clear c13
                      try clear c13b0
                      try clear c14
                      try clear c15
                      try clear c16
                      try clear c18
                      try clear c20
                      try clear c21
                      try clear c23
                      try clear c25
                      try clear c25b0
                      try clear c26
                      try clear c26b0
                      try clear c27
                      try clear c27b0
                      try clear c28
                      try clear c28b0
                      try clear c29
                      try clear c29b0
                      try clear c30
                      try clear c31
                      try clear c33
                      try clear c33b0
                      try clear c33b1
                      try clear c34
                      try clear c35
                      try clear c38
                      try clear c39
                      try clear c41
                      try clear c43
                      try clear c43b0
                      try clear c46
                      try clear c46b0
                      try clear c46b1
                      try clear c47
                      try clear c47b0
                      try clear c47b1
                      try clear c54
                      try clear c55
                      try clear c57
                      try clear c59
                      try clear c59b0
                      try clear c60
                      try clear c60b0
                      try clear c61
                      try clear c61b0
                      try clear c62
                      try clear c62b0
                      try clear c62b1
                      try clear c63
                      try clear c63b0
                      try clear p64
                      try clear q64
                      try clear hx64
                      try clear hf64
                      try clear c65
                      try clear c65b0
                      try clear p66
                      try clear q66
                      try clear hx66
                      try clear hf66
                      try clear c67
                      try clear c68
                      try clear c70
                      try clear c77
                      try clear c77b0
                      try clear c77b1
                      try clear c78
                      try clear c78b0
                      try clear c78b1
                      try clear q81
                      try clear c82
                      try clear c82b0
                      try clear c83
                      try clear c83b0
                      try clear c84
                      try clear c84b0
                      try clear c85
                      try clear c85b0
                      try clear c86
                      try clear c86b0
                      try clear p87
                      try clear q87
                      try clear hx87
                      try clear hf87
                      try clear hcz12_0
                      try clear hcz15_0
                      try clear hcz17_0
                      try clear hcz22_0
                      try clear hcz24_0
                      try clear hcz32_0
                      try clear hcz36_0
                      try clear hcz40_0
                      try clear hcz42_0
                      try clear hcz56_0
                      try clear hcz58_0
                      try clear hcz69_0
                      try clear hcz71_0
                      try clear hcz7_0
                      try clear hfz12_0
                      try clear hfz15_0
                      try clear hfz17_0
                      try clear hfz22_0
                      try clear hfz24_0
                      try clear hfz32_0
                      try clear hfz36_0
                      try clear hfz40_0
                      try clear hfz42_0
                      try clear hfz56_0
                      try clear hfz58_0
                      try clear hfz69_0
                      try clear hfz71_0
                      try clear hfz7_0
                      try clear hx105_0
                      try clear hx112_0
                      try clear hx115_0
                      try clear hx120_0
                      try clear hx121_0
                      try clear hx64_0
                      try clear hx66_0
                      try clear hx87_0
                      try clear p1
                      try clear p10
                      try clear p105
                      try clear p11
                      try clear p112
                      try clear p115
                      try clear p120
                      try clear p121
                      try clear p2
                      try clear p6
                      try clear p64
                      try clear p66
                      try clear p87
                      try clear q1
                      try clear q10
                      try clear q105
                      try clear q11
                      try clear q112
                      try clear q115
                      try clear q120
                      try clear q121
                      try clear q6
                      try clear q64
                      try clear q66
                      try clear q8
                      try clear q81
                      try clear q87
                      obtain ⟨x10_6, x102_6, rfl, HA, HK6, HO_10, BK102, BK103, BK104, HB⟩ := hrel
                      have hl10_6 := (Kd.R_reads' HO_10.out).1
                      rw [hl10_6] at HO_10
                      (try simp only [hl10_6])
                      (try simp only [hl10_6] at BK102)
                      (try simp only [hl10_6] at BK103)
                      (try simp only [hl10_6] at BK104)
                      cases gk with
                      | zero => exact absurd HA.out (by simp [rounding_Allocate.l3])
                      | succ k6 =>
                       have H := HA.out
                       clear HA
                       simp only [rounding_Allocate.l3] at H
                       by_cases c92 : x102_6 < (x10_5.length : Int)
                       ·
                        rw [if_pos c92] at H
                        have c92b0 : decide (x102_6 < (x10_5.length : Int)) = true := decide_eq_true c92
                        clear c92
                        by_cases c93 : 0 ≤ x102_6
                        ·
                         rw [if_pos c93] at H
                         have c93b0 : decide (0 ≤ x102_6) = true := decide_eq_true c93
                         clear c93
                         by_cases c94 : x102_6 < (x10_6.length : Int)
                         ·
                          rw [if_pos c94] at H
                          have c94b0 : decide (x102_6 < (x10_6.length : Int)) = true := decide_eq_true c94
                          clear c94
                          obtain ⟨y124, hy124⟩ : ∃ y_ : List Int, y_ = (x10_6.set (x102_6 : Int).toNat (wrap64 ((rd x10_6 x102_6) * x9_36))) := ⟨_, rfl⟩
                          replace H : (rounding_Allocate.l3 k6 x9_36 y124 (x10_5.length : Int) (wrap64 (x102_6 + 1))) = some (r1, r2) := by first | (rw [hy124]; with_reducible exact H) | (have H2_ := (Option.bind_some _ _).symm.trans H; rw [hy124]; with_reducible exact H2_) | (have H2_ := (Option.bind_some _ _).symm.trans H; with_reducible exact H2_) | with_reducible exact H | (rw [hy124]; exact H) | exact H
                          have Ny124 := Aside0.mk hy124
                          clear hy124
                          have H' := Aside0.mk H
                          clear H
                          have p123 : 0 ≤ (x102_6 : Int) := of_decide_eq_true (by first | (with_reducible assumption) | assumption)
                          have q123 : x102_6 < (x10_6.length : Int) := of_decide_eq_true (by first | (with_reducible assumption) | assumption)
                          obtain ⟨ad123, e123, hx123_0⟩ := Kd.at_int (Kd.R_reads' HO_10.out).2.2 x102_6 p123 q123
                          cases e123
                          replace p123 := eq_true p123
                          replace q123 := eq_true q123
                          have p95 : 0 ≤ (x102_6 : Int) := of_decide_eq_true (by first | (with_reducible assumption) | assumption)
                          have q95 : (x102_6 : Int) < ((x10_6.length : Int) : Int) := of_decide_eq_true (by first | (with_reducible assumption) | assumption)
                          obtain ⟨go95, co95, eo95, gb95, gl95, cl95, HG95⟩ := Kd.R_form HO_10.out (by omega)
                          (first | cases eo95 | (injection eo95 with ea_ en_ ec_; (first | subst ea_ | (injection ea_ with ea_; subst ea_)); subst ec_; clear en_))
                          have GB95 := Aside0.mk gb95
                          have GG95 := Aside0.mk HG95
                          clear gb95 gl95 HG95
                          (first | simp only [add_plain] at hx123_0 | skip)
                          obtain ⟨hx95_0, hf95_0⟩ := Kd.R_celln 0 HO_10.out (x102_6 : Int) p95 q95
                          replace p95 := eq_true p95
                          replace q95 := eq_true q95
                          have HP96 := Kd.R_putg HO_10.out (x102_6 : Int) (wrap64 ((rd x10_6 x102_6) * x9_36))
                          go_wp2_with (first | ((with_reducible refine gate_store (t := 3) (p := 111) rfl ?_); refine store_event (t := 3) (p := 111) (v := ?vo_w97) (w1 := (wr.setCell ⟨go95, (x102_6 : Int).toNat, none⟩ (.int .i64 (wrap64 ((rd x10_6 x102_6) * x9_36))))) ?hg ?ho ?hn ?hr ?_; (case ho => rfl); (case hg => rfl); (case hn => rfl); (case hr => first | (go_simp; done) | (go_simp; rfl)); intro w97 hw; have hg : wr.grownBy w97 (some go95) := (by rw [hw]; exact HP96.2); have hp_ : Kd.R (Kd.int .i64) 3 w97 w.heap.size (fun k_ => k_ ≠ gb102 ∧ k_ ≠ gb104) (.slice (some ⟨go95, 0, none⟩) x10_6.length co91) y124 := (by rw [hw, Ny124.out]; exact HP96.1); clear HP96; replace BK102 := Aside0.mk (blk_grown (g := gb102) (o := .cells #[.int .i64 x103000_36] 3 (0, 0)) (by (with_reducible repeat (first | refine blk_drewN ?_ _ | refine blk_drew ?_ | refine blk_alloc ?_ _)); exact BK102.out) hg (Kd.R_away HO_10.out (fun _ hk => hk.1))); replace BK103 := Aside0.mk (blk_grown (g := gb103) (o := .cells #[.slice A1 l1.length c1] 22 (0, 0)) (by (with_reducible repeat (first | refine blk_drewN ?_ _ | refine blk_drew ?_ | refine blk_alloc ?_ _)); exact BK103.out) hg (Kd.R_ne HO_10.out BK103.out (by decide))); replace BK104 := Aside0.mk (blk_grown (g := gb104) (o := .cells #[.int .i64 x105000_2] 3 (0, 0)) (by (with_reducible repeat (first | refine blk_drewN ?_ _ | refine blk_drew ?_ | refine blk_alloc ?_ _)); exact BK104.out) hg (Kd.R_away HO_10.out (fun _ hk => hk.2))); replace HO_10 := Aside0.mk (hp_); replace HB := Aside0.mk ((by rw [hw]; exact below_set (HB.out) GB95.out : Below w.heap.size w w97)); clear hg hw hp_))
                          (try simp only [← hl10_6])
                          go_roundg k6
                          case measure => have := HJ7.out; have := HK2.out; have := HJ36.out; have := HK4.out; have := HK5.out; have := HK6.out; omega
                          case rel => exact ⟨(y124), (wrap64 (x102_6 + 1)), (by first | rfl | (simp; done) | (simp [*]; done)), H', ⟨by have := HJ7.out; have := HK2.out; have := HJ36.out; have := HK4.out; have := HK5.out; have := HK6.out; omega⟩, ⟨by (try simp only [hl10_6]); (with_reducible repeat (first | apply Kd.R_alloc | apply Kd.R_drewN | apply Kd.R_drew)); exact HO_10.out⟩, ⟨by (try simp only [hl10_6]); (with_reducible repeat (first | refine blk_drewN ?_ _ | refine blk_drew ?_ | refine blk_alloc ?_ _)); exact BK102.out⟩, ⟨by (try simp only [hl10_6]); (with_reducible repeat (first | refine blk_drewN ?_ _ | refine blk_drew ?_ | refine blk_alloc ?_ _)); exact BK103.out⟩, ⟨by (try simp only [hl10_6]); (with_reducible repeat (first | refine blk_drewN ?_ _ | refine blk_drew ?_ | refine blk_alloc ?_ _)); exact BK104.out⟩, ⟨by repeat (first | (with_reducible first | exact HB.out | apply below_alloc | apply pw_below_drewN | apply below_drew1 | refine below_set ?_ GE102.out | refine below_set ?_ GE103.out | refine below_set ?_ GE104.out) | exact HB.out)⟩⟩
                         ·
                          rw [if_neg c94] at H
                          exact absurd H (by simp)
                        ·
                         rw [if_neg c93] at H
                         exact absurd H (by simp)
                       ·
                        rw [if_neg c92] at H
                        have c92b0 : decide (x102_6 < (x10_5.length : Int)) = false := decide_eq_false c92
                        (try (have c92b0z0 := c92b0; simp only [hl10_6] at c92b0z0))
                        clear c92
                        simp only [Option.some.injEq, Prod.mk.injEq] at H
                        obtain ⟨rfl, rfl⟩ := H
                        go_wp2
                        go_ret2
                        exact ⟨_, by first | rfl | (simp [errW_none, errW_some] <;> rfl) | (simp [*, errW_none, errW_some] <;> rfl), by (with_reducible repeat (first | apply Kd.R_alloc | apply Kd.R_drewN | apply Kd.R_drew)); exact Kd.R_mono HO_10.out (fun _ hk => trivial), be_ HB⟩
                 ·
                  rw [if_neg c78] at H
                  exact absurd H (by simp)
                ·
                 rw [if_neg c77] at H
                 exact absurd H (by simp)
            ·
             rw [if_neg c47] at H
             exact absurd H (by simp)
           ·
            rw [if_neg c46] at H
            exact absurd H (by simp)

end Go.Proofs.Ytcipegkeoheikaa.PN
