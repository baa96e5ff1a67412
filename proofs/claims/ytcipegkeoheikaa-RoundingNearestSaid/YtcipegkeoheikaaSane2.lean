/- The examples of chapter 2 hold of the program. -/
import Derived.Test.YtcipegkeoheikaaPNx3
import Derived.Test.YtcipegkeoheikaaPNx4
import Derived.Test.YtcipegkeoheikaaPNx5
import Derived.Test.YtcipegkeoheikaaAlloc2
import Derived.Test.YtcipegkeoheikaaPart
import Derived.KernelRfl
namespace Go.Proofs.Ytcipegkeoheikaa.Pure
open Go.RowKit Go.Proofs.Ytcipegkeoheikaa Go.Proofs.Ytcipegkeoheikaa.PN Go.Proofs.YtcipegkeoheikaaW.PrintWords
set_option linter.unusedVariables false
set_option linter.unusedSimpArgs false

theorem alloc_111 : allocS (-100) [1, 1, 1] = ([-34, -33, -33], 0) := by
  have ho : ordr 100 3 [1, 1, 1] = [0, 1, 2] := by
    unfold ordr
    rw [show idx ([1, 1, 1] : List Int).length = [0, 1, 2] from rfl]
    exact List.mergeSort_of_pairwise (by decide)
  have hv : allocV (- -100) 3 [1, 1, 1] = [34, 33, 33] := by
    rw [show (- -100 : Int) = 100 from rfl]
    unfold allocV
    rw [ho]; rfl
  unfold allocS
  rw [if_neg (by decide), if_neg (by decide), if_neg (by decide), if_neg (by decide), if_pos (by decide), show ([1, 1, 1] : List Int).sum = 3 from rfl, hv]
  rfl

theorem sane2 : Ev (fun k => payrolllaw2_sane.f k) true := by
  unfold payrolllaw2_sane.f
  refine Ev.bind (Ev.of (g := fun k => rounding_Cents.f k 5 2 4) (rounding_Cents.mono 5 2 4) (k := 30) (r := (3, 0)) (by kernel_rfl)) ?_
  refine Ev.bind (Ev.of (g := fun k => rounding_Cents.f k (-5) 2 6) (rounding_Cents.mono (-5) 2 6) (k := 30) (r := (-2, 0)) (by kernel_rfl)) ?_
  refine Ev.bind (alloc_is (-100) [1, 1, 1] (by decide)) ?_
  rw [alloc_111]
  refine Ev.bind (Ev.of (g := fun k => rounding_Part.f k 10 1 4 1 6) (rounding_Part.mono 10 1 4 1 6) (k := 5) (r := (2, 0)) (by kernel_rfl)) ?_
  exact Ev.now _
end Go.Proofs.Ytcipegkeoheikaa.Pure
