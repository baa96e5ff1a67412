-- Written by a program of this session: the machine side of the proofs, out of Lean's own print of the program. Lean checks it.
import Derived.Test.YtcipegkeoheikaaProg
import Derived.Below
import Derived.Deep.Draws
import Derived.Deep.AppendLies
import Derived.Maps.AppendAt
import Derived.OwnWalk
import Derived.Laws.BytesArg
import Derived.Laws.MakeOwn
import Derived.Laws.OwnMore
import Derived.Deep.OwnRows
import Derived.Tactics
import Derived.Lib.ConvBytes
import Derived.Laws.Slices
import Derived.WalkKit
import Derived.KernelRfl
import Derived.RowKit3
import Derived.Deep.LoopGhost
import Derived.Deep.QuietTactic
import Derived.BigQuiet
import Derived.WideLaws
import Derived.Deep.DeepCutAuto
import Derived.Deep.CutBlock
import Derived.Deep.RegionHeld3
import Derived.Laws.Rows
import Derived.Lib.AppendStr
import Derived.ArgAppend
import Derived.Laws.IdiomCopy
import Derived.OrdersHeld
import Derived.Laws.BitsLemmas
import Derived.RowKit
import Derived.Test.YtcipegkeoheikaaWWords
import Derived.Test.YtcipegkeoheikaaWLast
import Derived.Test.YtcipegkeoheikaaWTab
import Derived.Test.YtcipegkeoheikaaWFour
import Derived.Test.YtcipegkeoheikaaWQPut
import Derived.Test.YtcipegkeoheikaaWApart
import Derived.Test.YtcipegkeoheikaaWArr
import Derived.Test.YtcipegkeoheikaaWZeros
import Derived.Test.YtcipegkeoheikaaWFoot
import Derived.Test.YtcipegkeoheikaaWKept
import Derived.Test.YtcipegkeoheikaaWShare
import Derived.Test.YtcipegkeoheikaaWN
import Derived.Test.YtcipegkeoheikaaWFootNe
import Derived.Test.YtcipegkeoheikaaWAt
import Derived.Test.YtcipegkeoheikaaWEqStruct
import Derived.Test.YtcipegkeoheikaaWRepsOne
import Derived.Test.YtcipegkeoheikaaWInv
import Derived.Test.YtcipegkeoheikaaWInvWords
import Derived.Test.YtcipegkeoheikaaWGuard
import Derived.Test.YtcipegkeoheikaaWNEv
import Derived.Test.YtcipegkeoheikaaWMore
import Derived.Test.YtcipegkeoheikaaSort
import Derived.Test.YtcipegkeoheikaaSq
namespace Go.Proofs.Ytcipegkeoheikaa.PN
open Go.RowKit Go.Proofs.YtcipegkeoheikaaW.PrintWords Go.Proofs.YtcipegkeoheikaaW.PrintLast Go.Proofs.YtcipegkeoheikaaW.PrintMore
attribute [local go_sem] max2_int min2_int max_two min_two max_three min_three max_four min_four   -- for this text's walks alone
set_option linter.unusedVariables false
set_option linter.unusedSimpArgs false



def errW : Option Int → Value
  | none => .nilIface
  | some c => .iface 0 (.int .i64 c)
theorem errW_none : errW none = .nilIface := rfl
theorem errW_some (c : Int) : errW (some c) = .iface 0 (.int .i64 c) := rfl

theorem info3 : (Try.prog.info? 3).map (fun i => (i.zero, i.size, i.bytes)) = some (some (.int .i64 0), 1, 8) := by kernel_rfl
-- the values' own types

end Go.Proofs.Ytcipegkeoheikaa.PN
