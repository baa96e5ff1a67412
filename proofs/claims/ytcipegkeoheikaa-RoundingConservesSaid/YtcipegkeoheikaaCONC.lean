/- Part of a proof. -/
import Derived.Test.YtcipegkeoheikaaCONB
import Derived.Test.YtcipegkeoheikaaProg
import Derived.KernelRfl
import Derived.Test.YtcipegkeoheikaaRows
import Derived.ProofKit
import Derived.OpenShut
import Derived.ShutString
import Derived.SizedLaws
set_option linter.unusedVariables false
set_option linter.unusedSimpArgs false
namespace Go.Proofs.Ytcipegkeoheikaa.Dx
open Go
def tyL : List (Nat × TyD) := [(3, ⟨.int .i64, 1, 8, (some (.int .i64)), .val (.int .i64) (0 : Int)⟩), (4, ⟨.bool, 1, 1, (some .bool), .val .bool false⟩), (22, ⟨.sl 3, 1, 24, (some (.sl (.int .i64))), .nil⟩), (23, ⟨.ptr 53, 1, 8, none, .undef⟩), (25, ⟨.other, 1, 8, none, .undef⟩), (28, ⟨.int .i64, 1, 8, (some (.int .i64)), .val (.int .i64) (0 : Int)⟩), (41, ⟨.struct [⟨0, 1, false, (some (.int .i64))⟩, ⟨1, 1, false, (some (.int .i64))⟩], 2, 16, (some (.pair (.int .i64) (.pair (.int .i64) .unit))), .val (.pair (.int .i64) (.pair (.int .i64) .unit)) ((0 : Int), (0 : Int), ())⟩), (53, ⟨.struct [⟨0, 1, false, (some (.sl (.int .i64)))⟩, ⟨1, 1, false, (some (.int .i64))⟩], 2, 32, (some (.pair (.sl (.int .i64)) (.pair (.int .i64) .unit))), .agg (.ofL [.nil, .val (.int .i64) (0 : Int)])⟩), (60, ⟨.int .u64, 1, 8, (some (.int .u64)), .val (.int .u64) (0 : Int)⟩)]
def tyT : TypeId → TyD := tyGet tyL
def eqL : List Nat := []
def eqtT : TypeId → Bool := fun t => mem t eqL
def sigT : FuncId → Option Sig := sigGet [(11, ⟨[.val (.sl (.int .i64))]⟩), (12, ⟨[.val (.int .i64), .val (.int .i64)]⟩), (14, ⟨[.ref true, .val (.int .i64)]⟩), (13, ⟨[.ref true, .val (.sl (.int .i64))]⟩), (20, ⟨[.ref true]⟩), (35, ⟨[.val (.int .i64), .val (.int .i64), .ref true, .ref true, .ref true]⟩), (55, ⟨[.ref false, .val (.int .i64), .val (.int .i64), .ref true]⟩), (56, ⟨[.ref false, .val (.int .i64), .val (.int .i64), .val (.int .i64), .ref true]⟩), (50, ⟨[.ref false, .val (.int .i64), .ref true]⟩), (34, ⟨[.ref false, .ref true]⟩), (15, ⟨[.val (.int .i64), .val (.sl (.int .i64))]⟩), (53, ⟨[.val (.int .i64)]⟩), (52, ⟨[.val (.int .u64), .val (.int .u64)]⟩), (41, ⟨[.val (.pair (.int .i64) (.pair (.int .i64) .unit))]⟩), (51, ⟨[.val .bool, .val (.int .i64), .val (.int .i64), .val (.int .i64)]⟩), (38, ⟨[.val (.int .i64), .val (.int .i64), .val (.int .i64)]⟩), (42, ⟨[.val (.int .i64), .val (.int .i64)]⟩), (23, ⟨[.val (.pair (.int .i64) (.pair (.int .i64) .unit)), .val (.pair (.int .i64) (.pair (.int .i64) .unit)), .val (.int .i64)]⟩), (37, ⟨[.val (.pair (.int .i64) (.pair (.int .i64) .unit)), .val (.int .i64)]⟩), (18, ⟨[.val (.int .i64), .val (.int .i64), .val (.int .i64), .val (.int .i64), .val (.int .i64)]⟩), (17, ⟨[]⟩), (6, ⟨[.val (.sl (.int .i64)), .val (.int .i64)]⟩)]
def fnL : List Nat := [11, 12, 14, 13, 20, 35, 55, 56, 50, 34, 15, 53, 52, 41, 51, 38, 42, 23, 37, 18, 17, 6]
def fnOkT : FuncId → Bool := fun f => mem f fnL
def ac11 : AC := .seq (.region [0] [] []) (.seq (.region [2] [] []) (.ret [2]))
def tb11 : List (Nat × List Nat) := []
def rms11 : List RM := [.raw]
def ac12 : AC := .seq (.region [0, 1] [] []) (.seq (.region [1, 5] [] []) (.seq (.seq (.region [1, 5, 10] [] []) (.cond (.region [5] [] []) (.skip))) (.seq (.region [4] [] []) (.ret [4]))))
def tb12 : List (Nat × List Nat) := []
def rms12 : List RM := [.val (.int .i64)]
def ac14 : AC := .seq (.region [0, 1] [] []) (.seq (.seq (.region [0, 1, 18] [] []) (.cond (.seq (.region [4] [] []) (.ret [4])) (.skip))) (.seq (.region [0, 1] [] []) (.seq (.region [4] [] []) (.ret [4]))))
def tb14 : List (Nat × List Nat) := []
def rms14 : List RM := [.val (.int .i64)]
def ac13 : AC := .seq (.region [0, 1] [] []) (.seq (.region [4] [] []) (.ret [4]))
def tb13 : List (Nat × List Nat) := []
def rms13 : List RM := [.val (.int .i64)]
def ac20 : AC := .seq (.region [0] [] []) (.seq (.region [0, 3] [(3, 3, (.int .i64))] []) (.seq (.seq (.region [0, 3, 4] [(3, 3, (.int .i64))] []) (.block [3] [(3, 3, (.int .i64))] (.loop 0 [0, 3, 4] [(3, 3, (.int .i64))]))) (.seq (.region [2] [(2, 3, (.int .i64))] []) (.ret [2]))))
def ac20_0 : AC := .seq (.seq (.region [0, 3, 4, 8] [(3, 3, (.int .i64))] []) (.cond (.skip) (.exit [3] [(3, 3, (.int .i64))]))) (.seq (.block [0, 3, 4] [(3, 3, (.int .i64))] (.region [0, 3, 4] [(3, 3, (.int .i64))] [])) (.region [0, 3, 4] [(3, 3, (.int .i64))] []))
def tb20 : List (Nat × List Nat) := [(0, [1, 1, 0, 1, 0])]
def rms20 : List RM := [.own 3 (.int .i64)]
def ac35 : AC := .seq (.region [0, 1, 2, 3, 4] [] []) (.seq (.region [7] [] []) (.ret [7]))
def tb35 : List (Nat × List Nat) := []
def rms35 : List RM := [.val (.int .i64)]
def ac55 : AC := .seq (.region [0, 1, 2, 3, 8] [] []) (.block [] [] (.loop 0 [0, 1, 2, 3, 8] []))
def ac55_1 : AC := .seq (.seq (.region [0, 1, 2, 3, 8, 9, 34] [] []) (.cond (.skip) (.exit [0, 1, 2, 3, 8] []))) (.seq (.block [0, 1, 2, 3, 8, 9] [] (.region [0, 1, 2, 3, 8, 9] [] [])) (.region [0, 1, 2, 3, 8, 9] [] []))
def ac55_0 : AC := .seq (.seq (.region [0, 1, 2, 3, 8, 14] [] []) (.cond (.skip) (.exit [] []))) (.seq (.block [0, 1, 2, 3, 8] [] (.seq (.region [0, 1, 2, 3, 8, 9] [] []) (.block [0, 1, 2, 3, 8] [] (.loop 1 [0, 1, 2, 3, 8, 9] [])))) (.region [0, 1, 2, 3, 8] [] []))
def tb55 : List (Nat × List Nat) := [(0, [1, 0]), (1, [1, 0, 0, 1, 0, 0, 1, 0])]
def rms55 : List RM := []
def ac50 : AC := .seq (.region [0, 1, 2, 6] [] []) (.seq (.region [0, 1, 2, 6, 7, 8] [] []) (.seq (.block [0, 1, 2, 6, 7] [] (.loop 0 [0, 1, 2, 6, 7, 8] [])) (.seq (.region [0, 1, 2, 6] [] []) (.block [] [] (.loop 1 [0, 1, 2, 6] [])))))
def ac50_0 : AC := .seq (.seq (.region [0, 1, 2, 6, 7, 8, 13] [] []) (.cond (.skip) (.exit [0, 1, 2, 6, 7] []))) (.block [0, 1, 2, 6, 7, 8] [] (.seq (.region [0, 1, 2, 6, 8] [] []) (.seq (.region [0, 1, 2, 6, 7, 8] [] []) (.region [0, 1, 2, 6, 7, 8] [] []))))
def ac50_2 : AC := .seq (.seq (.region [0, 1, 2, 6, 7, 8, 35] [] []) (.cond (.skip) (.exit [0, 1, 2, 6, 7] []))) (.block [0, 1, 2, 6, 7, 8] [] (.seq (.region [0, 1, 2, 6, 8] [] []) (.seq (.region [0, 1, 2, 6, 7, 8] [] []) (.region [0, 1, 2, 6, 7, 8] [] []))))
def ac50_1 : AC := .seq (.seq (.region [0, 1, 2, 6, 30] [] []) (.cond (.skip) (.exit [] []))) (.block [0, 1, 2, 6] [] (.seq (.region [0, 1, 2, 6, 7, 8] [] []) (.seq (.block [0, 1, 2, 6, 7] [] (.loop 2 [0, 1, 2, 6, 7, 8] [])) (.seq (.seq (.region [0, 1, 2, 6, 7, 9] [] []) (.seq (.region [0, 1, 2, 6, 7, 9, 54] [] []) (.cond (.region [0, 1, 2, 6] [] []) (.skip)))) (.region [0, 1, 2, 6] [] [])))))
def tb50 : List (Nat × List Nat) := [(1, [1, 1, 1, 1, 0]), (2, [1, 1, 1, 1, 0, 0, 1, 0, 1, 0, 0]), (0, [1, 1, 0, 0])]
def rms50 : List RM := []
def ac34 : AC := .region [] [] []
def tb34 : List (Nat × List Nat) := []
def rms34 : List RM := []
def ac15 : AC := .seq (.region [2, 3] [] []) (.seq (.seq (.region [2, 3, 20] [] []) (.cond (.seq (.region [4, 5] [] []) (.ret [4, 5])) (.skip))) (.seq (.seq (.region [2, 3, 26] [] []) (.cond (.seq (.region [4, 5] [] []) (.ret [4, 5])) (.skip))) (.seq (.region [2, 3, 6] [] []) (.seq (.seq (.region [2, 3, 6, 27, 28, 29] [] []) (.block [2, 3, 6] [] (.loop 0 [2, 3, 6, 27, 28, 29] []))) (.seq (.seq (.region [2, 3, 6, 44] [] []) (.cond (.seq (.region [4, 5] [] []) (.ret [4, 5])) (.skip))) (.seq (.region [2, 3, 6, 9] [] []) (.seq (.name 1 [2, 3, 6, 9] []) (.seq (.region [2, 3, 6, 9, 10, 11] [] [(2, 3), (2, 4), (0, 5), (1, 5), (2, 5)]) (.seq (.region [2, 3, 6, 9, 10, 11, 12] [] []) (.seq (.seq (.region [2, 3, 6, 9, 10, 11, 12, 56, 57, 58] [] []) (.block [2, 3, 6, 9, 10, 11, 12] [] (.loop 2 [2, 3, 6, 9, 10, 11, 12, 56, 57, 58] []))) (.seq (.region [9, 10, 11, 12] [] []) (.seq (.seq (.region [9, 10, 87, 88, 89] [] []) (.block [9, 10] [] (.loop 3 [9, 10, 87, 88, 89] []))) (.seq (.seq (.region [9, 10, 101, 102] [] []) (.block [10] [] (.loop 4 [9, 10, 101, 102] []))) (.seq (.region [4, 5] [] []) (.ret [4, 5])))))))))))))))
def ac15_0 : AC := .seq (.region [2, 3, 6, 27, 28, 29, 30] [] []) (.seq (.cond (.skip) (.exit [2, 3, 6] [])) (.seq (.block [2, 3, 6, 27, 28, 29] [] (.seq (.region [2, 3, 6, 8, 27, 28, 29] [] []) (.seq (.seq (.region [2, 3, 6, 8, 27, 28, 29, 38] [] []) (.cond (.seq (.region [4, 5] [] []) (.ret [4, 5])) (.skip))) (.region [2, 3, 6, 27, 28, 29] [] [])))) (.region [2, 3, 6, 27, 28, 29] [] [])))
def ac15_1 : AC := .seq (.region [2, 3, 6, 9, 46] [] []) (.cond (.region [2, 3, 6, 9] [] []) (.skip))
def ac15_2 : AC := .seq (.region [2, 3, 6, 9, 10, 11, 12, 56, 57, 58, 59] [] []) (.seq (.cond (.skip) (.exit [2, 3, 6, 9, 10, 11, 12] [])) (.seq (.block [2, 3, 6, 9, 10, 11, 12, 56, 57, 58] [] (.seq (.region [2, 3, 6, 9, 10, 11, 12, 13, 14, 56, 57, 58] [] []) (.seq (.region [2, 3, 6, 9, 10, 11, 12, 13, 56, 57, 58] [] []) (.region [2, 3, 6, 9, 10, 11, 12, 56, 57, 58] [] [])))) (.region [2, 3, 6, 9, 10, 11, 12, 56, 57, 58] [] [])))
def ac15_3 : AC := .seq (.region [9, 10, 87, 88, 89, 90] [] []) (.seq (.cond (.skip) (.exit [9, 10] [])) (.seq (.block [9, 10, 87, 88, 89] [] (.seq (.region [9, 10, 16, 87, 88, 89] [] []) (.region [9, 10, 87, 88, 89] [] []))) (.region [9, 10, 87, 88, 89] [] [])))
def ac15_4 : AC := .seq (.region [9, 10, 101, 102, 103] [] []) (.seq (.cond (.skip) (.exit [10] [])) (.seq (.block [9, 10, 101, 102] [] (.seq (.region [9, 10, 17, 101, 102] [] []) (.region [9, 10, 101, 102] [] []))) (.region [9, 10, 101, 102] [] [])))
def tb15 : List (Nat × List Nat) := [(4, [1, 1, 1, 1, 1, 1, 1, 1, 1, 1, 1, 1, 1, 0, 1, 0]), (3, [1, 1, 1, 1, 1, 1, 1, 1, 1, 1, 1, 1, 0, 1, 0]), (2, [1, 1, 1, 1, 1, 1, 1, 1, 1, 1, 0, 1, 0]), (1, [1, 1, 1, 1, 1, 1, 1, 0]), (0, [1, 1, 1, 1, 0, 1, 0])]
def rms15 : List RM := [.own 3 (.int .i64), .val (.int .i64)]
def ac53 : AC := .seq (.region [0] [] []) (.seq (.seq (.region [0, 4] [] []) (.cond (.seq (.region [2] [] []) (.ret [2])) (.skip))) (.seq (.region [2] [] []) (.ret [2])))
def tb53 : List (Nat × List Nat) := []
def rms53 : List RM := [.val (.int .u64)]
def ac52 : AC := .seq (.region [0, 1] [] []) (.seq (.block [1] [] (.loop 0 [0, 1] [])) (.seq (.region [4] [] []) (.ret [4])))
def ac52_0 : AC := .seq (.seq (.region [0, 1, 6] [] []) (.cond (.skip) (.exit [1] []))) (.block [0, 1] [] (.region [0, 1] [] []))
def tb52 : List (Nat × List Nat) := [(0, [1, 0, 0])]
def rms52 : List RM := [.val (.int .u64)]
def ac41 : AC := .seq (.region [1] [] []) (.seq (.region [2] [] [(21, 22), (21, 23)]) (.ret [2]))
def tb41 : List (Nat × List Nat) := []
def rms41 : List RM := [.val .bool]
def ac51 : AC := .seq (.region [0, 1, 2, 3] [] []) (.seq (.seq (.region [0, 1, 2, 3, 9] [] []) (.block [0, 1, 2, 3] [] (.seq (.region [0, 1, 2, 3, 9, 10] [] []) (.cond (.seq (.region [8] [] []) (.ret [8])) (.seq (.region [0, 1, 2, 3, 9, 12] [] []) (.cond (.seq (.region [8] [] []) (.ret [8])) (.seq (.region [0, 1, 2, 3, 9, 14] [] []) (.cond (.seq (.region [8] [] []) (.ret [8])) (.seq (.region [0, 1, 2, 3, 18] [] []) (.cond (.seq (.region [8] [] []) (.ret [8])) (.skip))))))))))) (.seq (.seq (.region [0, 1, 2, 3, 22] [] []) (.cond (.seq (.region [8] [] []) (.ret [8])) (.skip))) (.seq (.seq (.region [0, 1, 25] [] []) (.block [1] [] (.seq (.region [0, 1, 25, 26] [] []) (.cond (.seq (.region [8] [] []) (.ret [8])) (.seq (.region [0, 1, 29] [] []) (.cond (.seq (.region [8] [] []) (.ret [8])) (.skip))))))) (.seq (.region [8] [] []) (.ret [8])))))
def tb51 : List (Nat × List Nat) := []
def rms51 : List RM := [.val .bool]
def ac38 : AC := .seq (.region [0, 1, 2] [] []) (.seq (.region [0, 1, 2, 7, 8] [] []) (.seq (.seq (.region [0, 1, 2, 7, 8, 16] [] []) (.cond (.region [0, 1, 2, 7, 8] [] []) (.skip))) (.seq (.seq (.region [7, 34] [] []) (.cond (.region [7] [] []) (.skip))) (.seq (.region [6] [] []) (.ret [6])))))
def tb38 : List (Nat × List Nat) := []
def rms38 : List RM := [.val (.int .i64)]
def ac42 : AC := .seq (.region [0, 1, 4] [] []) (.seq (.seq (.region [0, 1, 4, 11] [] []) (.cond (.seq (.region [4, 5] [] []) (.ret [4, 5])) (.skip))) (.seq (.region [0, 1, 4, 6, 7] [] []) (.seq (.region [0, 1, 4, 6, 7, 8] [] []) (.seq (.region [0, 1, 4, 6, 7] [] []) (.seq (.seq (.region [0, 1, 4, 6, 7, 31] [] []) (.cond (.seq (.region [4, 5] [] []) (.ret [4, 5])) (.skip))) (.seq (.region [0, 1, 4, 9] [] []) (.seq (.seq (.region [4, 9, 42] [] []) (.cond (.region [4, 9] [] []) (.skip))) (.seq (.region [4, 5] [] []) (.ret [4, 5])))))))))
def tb42 : List (Nat × List Nat) := []
def rms42 : List RM := [.val (.pair (.int .i64) (.pair (.int .i64) .unit)), .val (.int .i64)]
def ac23 : AC := .seq (.region [2, 3, 4, 6] [] []) (.seq (.seq (.region [2, 3, 4, 6, 15] [] []) (.cond (.seq (.region [6, 7] [] []) (.ret [6, 7])) (.skip))) (.seq (.seq (.region [2, 3, 4, 6, 27] [] []) (.cond (.seq (.region [6, 7] [] []) (.ret [6, 7])) (.skip))) (.seq (.region [6, 7] [] [(11, 12), (11, 13), (11, 15), (11, 16)]) (.ret [6, 7]))))
def tb23 : List (Nat × List Nat) := []
def rms23 : List RM := [.val (.pair (.int .i64) (.pair (.int .i64) .unit)), .val (.int .i64)]
def ac37 : AC := .seq (.region [1, 2] [] []) (.seq (.region [6, 7] [] []) (.seq (.region [4, 5] [] []) (.ret [4, 5])))
def tb37 : List (Nat × List Nat) := []
def rms37 : List RM := [.val (.int .i64), .val (.int .i64)]
def ac18 : AC := .seq (.region [0, 1, 2, 3, 4] [] []) (.seq (.seq (.region [0, 1, 2, 3, 4, 50] [] []) (.cond (.seq (.region [10, 11] [] []) (.ret [10, 11])) (.skip))) (.seq (.region [12] [] []) (.seq (.seq (.region [12, 66] [] []) (.cond (.seq (.region [10, 11] [] []) (.ret [10, 11])) (.skip))) (.seq (.region [10, 11] [] []) (.ret [10, 11])))))
def tb18 : List (Nat × List Nat) := []
def rms18 : List RM := [.val (.int .i64), .val (.int .i64)]
def ac17 : AC := .seq (.region [] [] []) (.seq (.region [1, 2] [] []) (.seq (.region [1, 2, 3, 4] [] []) (.seq (.region [1, 2, 3, 4, 5, 6] [] []) (.seq (.region [1, 2, 3, 4, 5, 6, 7, 8] [] []) (.seq (.region [0] [] []) (.ret [0]))))))
def tb17 : List (Nat × List Nat) := []
def rms17 : List RM := [.val .bool]
def ac6 : AC := .seq (.region [0, 1] [] []) (.seq (.region [1, 5] [] []) (.seq (.region [1, 5, 6] [] []) (.seq (.region [5, 6, 7] [] []) (.seq (.name 0 [5, 6, 7] []) (.seq (.region [6, 7, 8, 9] [] []) (.seq (.region [6, 7, 8, 9, 10] [] []) (.seq (.seq (.region [6, 7, 8, 9, 10, 11] [] []) (.block [6, 7, 8, 9, 10] [] (.loop 1 [6, 7, 8, 9, 10, 11] []))) (.seq (.seq (.region [6, 7, 8, 9, 10, 55] [] []) (.cond (.seq (.region [4] [] []) (.ret [4])) (.skip))) (.seq (.region [6, 7, 8, 10, 12] [] []) (.seq (.seq (.region [6, 7, 8, 10, 12, 13] [] []) (.block [7, 12] [] (.loop 2 [6, 7, 8, 10, 12, 13] []))) (.seq (.region [4] [] []) (.ret [4]))))))))))))
def ac6_0 : AC := .seq (.region [5, 6, 7, 25] [] []) (.cond (.region [6, 7] [] []) (.skip))
def ac6_1 : AC := .seq (.seq (.region [6, 7, 8, 9, 10, 11, 38] [] []) (.cond (.skip) (.exit [6, 7, 8, 9, 10] []))) (.seq (.block [6, 7, 8, 9, 10, 11] [] (.region [6, 7, 8, 9, 10, 11] [] [])) (.region [6, 7, 8, 9, 10, 11] [] []))
def ac6_4 : AC := .cond (.seq (.region [4] [] []) (.ret [4])) (.skip)
def ac6_3 : AC := .cut 4 [6, 7, 8, 10, 12, 13, 158] [] (.region [6, 7, 8, 10, 12, 13, 158] [] []) [6, 7, 8, 10, 12, 13]
def ac6_2 : AC := .seq (.seq (.region [6, 7, 8, 10, 12, 13, 68] [] []) (.cond (.skip) (.exit [7, 12] []))) (.seq (.block [6, 7, 8, 10, 12, 13] [] (.seq (.region [6, 7, 8, 10, 12, 13] [] []) (.seq (.region [6, 7, 8, 10, 12, 13, 14, 15] [] []) (.name 3 [6, 7, 8, 10, 12, 13, 14, 15] [])))) (.region [6, 7, 8, 10, 12, 13] [] []))
def tb6 : List (Nat × List Nat) := [(2, [1, 1, 1, 1, 1, 1, 1, 1, 1, 1, 0, 1, 0]), (3, [1, 1, 1, 1, 1, 1, 1, 1, 1, 1, 0, 1, 0, 0, 1, 0, 0, 1, 1]), (4, [1, 1, 1, 1, 1, 1, 1, 1, 1, 1, 0, 1, 0, 0, 1, 0, 0, 1, 1, 1]), (1, [1, 1, 1, 1, 1, 1, 1, 0, 1, 0]), (0, [1, 1, 1, 1, 0])]
def rms6 : List RM := [.val .bool]
-- ROOT|6|payroll/payrolllaw2.RoundingConserves|[4]|22;(some (.sl (.int .i64)));(List Int);.slice none 0 0|3;(some (.int .i64));Int;.int .i64 0
end Go.Proofs.Ytcipegkeoheikaa.Dx
/- The tables of types and of functions are true of the program. -/
namespace Go.Proofs.Ytcipegkeoheikaa.Dx
open Go
set_option maxRecDepth 100000
theorem fnsT : FnsOk Try.prog fnL := .cons Try.call11 (.cons Try.call12 (.cons Try.call14 (.cons Try.call13 (.cons Try.call20 (.cons Try.call35 (.cons Try.call55 (.cons Try.call56 (.cons Try.call50 (.cons Try.call34 (.cons Try.call15 (.cons Try.call53 (.cons Try.call52 (.cons Try.call41 (.cons Try.call51 (.cons Try.call38 (.cons Try.call42 (.cons Try.call23 (.cons Try.call37 (.cons Try.call18 (.cons Try.call17 (.cons Try.call6 (.nil))))))))))))))))))))))
theorem baseT : Base Try.prog tyT eqtT fnOkT := Base.mk' (by kernel_rfl) (by kernel_rfl) fnsT (by kernel_rfl)
end Go.Proofs.Ytcipegkeoheikaa.Dx
/- Printed by a program of this session: the functions of the program as plain functions, and that each is told soundly. -/
namespace Go.Proofs.Ytcipegkeoheikaa.Dx
open Go
set_option linter.unusedVariables false
set_option maxRecDepth 100000
def symMerge.k {R : Type} (F : Nat) (a0 : Int) (a1 : Int) (a2 : Int) (a3 : (List Int)) (a4 : Int) (a5 : (List Int)) (a6 : Int) (K : ((List Int) → Int → (List Int) → Int → Option R)) : Option R := none
def symMerge.c {R : Type} (F : Nat) (args : List V) (rows : List (Option Row)) (K : List V → List (Option Row) → Option R) : Option R := none
theorem symMerge.ok {R : Type} (F : Nat) : FnOk (R := R) Try.prog 56 (symMerge.c F) := CsOk.nil 56
def payrollgen_New.k {R : Type} (F : Nat) (a0 : (List Int)) (K : (((List Int) × (Int × Unit)) → Option R)) : Option R := (K ((a0, 0, ())))
def payrollgen_New.C {R : Type} (F : Nat) : FuncId → List V → List (Option Row) → (List V → List (Option Row) → Option R) → Option R := fun g args rows K => none
def payrollgen_New.L {R : Type} (F : Nat) : Nat → St → (St → Option R) → List (Nat × (St → Option R)) → (St → Option R) → Option R := fun i s kn ex kr => none
def payrollgen_New.X {R : Type} (F : Nat) : Ctx R := ⟨tyT, eqtT, sigT, fnOkT, payrollgen_New.C F, payrollgen_New.L F⟩
def payrollgen_New.pa : List V := [(.val (.sl (.int .i64)) [])]
def payrollgen_New.pr : List (Option Row) := []
def payrollgen_New.c {R : Type} (F : Nat) (args : List V) (rows : List (Option Row)) (K : List V → List (Option Row) → Option R) : Option R := decl payrollgen_New.pa args fun x => decr payrollgen_New.pr rows fun y => payrollgen_New.k F x.1 (fun r0 => K [(.ptr 0 0 0 0)] [some ⟨0, false, true, .one (.pair (.sl (.int .i64)) (.pair (.int .i64) .unit)) r0⟩])
theorem payrollgen_New_eq {R : Type} (F : Nat) (a0 : (List Int)) (K : List V → List (Option Row) → Option R) : payrollgen_New.k F a0 (fun r0 => K [(.ptr 0 0 0 0)] [some ⟨0, false, true, .one (.pair (.sl (.int .i64)) (.pair (.int .i64) .unit)) r0⟩]) = evFn (payrollgen_New.X F) Go.Proofs.Try.f11.results.toList rms11 (bodyC Go.Proofs.Try.f11) ac11 (encl payrollgen_New.pa (a0, ())) (encr payrollgen_New.pr ()) K := by kernel_rfl
theorem payrollgen_New.cs {R : Type} (F : Nat) : CsOk (R := R) Try.prog (payrollgen_New.C F) := CsOk.nil
theorem payrollgen_New.tb {R : Type} (F : Nat) : TblOk (R := R) Try.prog (payrollgen_New.X F) Try.f11.ntmps (bodyC Try.f11) tb11 := TblOk.nil
theorem payrollgen_New.ok {R : Type} (F : Nat) : FnOk (R := R) Try.prog 11 (payrollgen_New.c F) := fnP_ok (X := payrollgen_New.X F) baseT (payrollgen_New.cs F) Try.func11 (by kernel_rfl) (payrollgen_New.tb F) (ac := ac11) (rms := rms11) (by kernel_rfl) (pa := payrollgen_New.pa) (pr := payrollgen_New.pr) (by kernel_rfl) (fun x y K => payrollgen_New_eq F x.1 K)
def payrollgen_Mod.k {R : Type} (F : Nat) (a0 : Int) (a1 : Int) (K : (Int → Option R)) : Option R := (cond (Decidable.decide (a1 = 0)) none (cond (Decidable.decide (Int.tmod a0 a1 < 0)) (K (Go.IntKind.wrap Go.IntKind.i64 (Int.tmod a0 a1 + a1))) (K (Int.tmod a0 a1))))
def payrollgen_Mod.C {R : Type} (F : Nat) : FuncId → List V → List (Option Row) → (List V → List (Option Row) → Option R) → Option R := fun g args rows K => none
def payrollgen_Mod.L {R : Type} (F : Nat) : Nat → St → (St → Option R) → List (Nat × (St → Option R)) → (St → Option R) → Option R := fun i s kn ex kr => none
def payrollgen_Mod.X {R : Type} (F : Nat) : Ctx R := ⟨tyT, eqtT, sigT, fnOkT, payrollgen_Mod.C F, payrollgen_Mod.L F⟩
def payrollgen_Mod.pa : List V := [(.val (.int .i64) (Sh.dflt _)), (.val (.int .i64) (Sh.dflt _))]
def payrollgen_Mod.pr : List (Option Row) := []
def payrollgen_Mod.c {R : Type} (F : Nat) (args : List V) (rows : List (Option Row)) (K : List V → List (Option Row) → Option R) : Option R := decl payrollgen_Mod.pa args fun x => decr payrollgen_Mod.pr rows fun y => payrollgen_Mod.k F x.1 x.2.1 (fun r0 => K [(.val (.int .i64) r0)] [])
theorem payrollgen_Mod_eq {R : Type} (F : Nat) (a0 : Int) (a1 : Int) (K : List V → List (Option Row) → Option R) : payrollgen_Mod.k F a0 a1 (fun r0 => K [(.val (.int .i64) r0)] []) = evFn (payrollgen_Mod.X F) Go.Proofs.Try.f12.results.toList rms12 (bodyC Go.Proofs.Try.f12) ac12 (encl payrollgen_Mod.pa (a0, (a1, ()))) (encr payrollgen_Mod.pr ()) K := by kernel_rfl
theorem payrollgen_Mod.cs {R : Type} (F : Nat) : CsOk (R := R) Try.prog (payrollgen_Mod.C F) := CsOk.nil
theorem payrollgen_Mod.tb {R : Type} (F : Nat) : TblOk (R := R) Try.prog (payrollgen_Mod.X F) Try.f12.ntmps (bodyC Try.f12) tb12 := TblOk.nil
theorem payrollgen_Mod.ok {R : Type} (F : Nat) : FnOk (R := R) Try.prog 12 (payrollgen_Mod.c F) := fnP_ok (X := payrollgen_Mod.X F) baseT (payrollgen_Mod.cs F) Try.func12 (by kernel_rfl) (payrollgen_Mod.tb F) (ac := ac12) (rms := rms12) (by kernel_rfl) (pa := payrollgen_Mod.pa) (pr := payrollgen_Mod.pr) (by kernel_rfl) (fun x y K => payrollgen_Mod_eq F x.1 x.2.1 K)
def payrollgen_Tape_Next.k {R : Type} (F : Nat) (a0 : Int) (a1 : ((List Int) × (Int × Unit))) (K : (Int → ((List Int) × (Int × Unit)) → Option R)) : Option R := (cond (Decidable.decide (a0 < 1)) (K 0 a1) (cond (Decidable.decide (Prod.fst (Prod.snd a1) ≥ (↑(List.length (Prod.fst a1)) : Int))) (K 0 a1) (cond (Decidable.decide (0 ≤ Go.IntKind.wrap Go.IntKind.i64 (Go.IntKind.wrap Go.IntKind.i64 (Prod.fst (Prod.snd a1) + 1) - 1))) (cond (Decidable.decide (Go.IntKind.wrap Go.IntKind.i64 (Go.IntKind.wrap Go.IntKind.i64 (Prod.fst (Prod.snd a1) + 1) - 1) < (↑(List.length (Prod.fst a1)) : Int))) (payrollgen_Mod.k F (List.getD (Prod.fst a1) (Int.toNat (Go.IntKind.wrap Go.IntKind.i64 (Go.IntKind.wrap Go.IntKind.i64 (Prod.fst (Prod.snd a1) + 1) - 1))) 0) a0 (fun r2 => (K r2 ((Prod.fst a1, Go.IntKind.wrap Go.IntKind.i64 (Prod.fst (Prod.snd a1) + 1), ()))))) none) none)))
def payrollgen_Tape_Next.C {R : Type} (F : Nat) : FuncId → List V → List (Option Row) → (List V → List (Option Row) → Option R) → Option R := fun g args rows K => cnd (Nat.beq g 12) (payrollgen_Mod.c F args rows K) (none)
def payrollgen_Tape_Next.L {R : Type} (F : Nat) : Nat → St → (St → Option R) → List (Nat × (St → Option R)) → (St → Option R) → Option R := fun i s kn ex kr => none
def payrollgen_Tape_Next.X {R : Type} (F : Nat) : Ctx R := ⟨tyT, eqtT, sigT, fnOkT, payrollgen_Tape_Next.C F, payrollgen_Tape_Next.L F⟩
def payrollgen_Tape_Next.pa : List V := [(.ptr 0 0 0 0), (.val (.int .i64) (Sh.dflt _))]
def payrollgen_Tape_Next.pr : List (Option Row) := [some ⟨0, false, true, .one (.pair (.sl (.int .i64)) (.pair (.int .i64) .unit)) (Sh.dflt _)⟩]
def payrollgen_Tape_Next.c {R : Type} (F : Nat) (args : List V) (rows : List (Option Row)) (K : List V → List (Option Row) → Option R) : Option R := decl payrollgen_Tape_Next.pa args fun x => decr payrollgen_Tape_Next.pr rows fun y => payrollgen_Tape_Next.k F x.2.1 y.1 (fun r0 r1 => K [(.val (.int .i64) r0)] [some ⟨0, false, true, .one (.pair (.sl (.int .i64)) (.pair (.int .i64) .unit)) r1⟩])
theorem payrollgen_Tape_Next_eq {R : Type} (F : Nat) (a0 : Int) (a1 : ((List Int) × (Int × Unit))) (K : List V → List (Option Row) → Option R) : payrollgen_Tape_Next.k F a0 a1 (fun r0 r1 => K [(.val (.int .i64) r0)] [some ⟨0, false, true, .one (.pair (.sl (.int .i64)) (.pair (.int .i64) .unit)) r1⟩]) = evFn (payrollgen_Tape_Next.X F) Go.Proofs.Try.f14.results.toList rms14 (bodyC Go.Proofs.Try.f14) ac14 (encl payrollgen_Tape_Next.pa ((), (a0, ()))) (encr payrollgen_Tape_Next.pr (a1, ())) K := by kernel_rfl
theorem payrollgen_Tape_Next.cs {R : Type} (F : Nat) : CsOk (R := R) Try.prog (payrollgen_Tape_Next.C F) := (CsOk.cons (payrollgen_Mod.ok F) CsOk.nil)
theorem payrollgen_Tape_Next.tb {R : Type} (F : Nat) : TblOk (R := R) Try.prog (payrollgen_Tape_Next.X F) Try.f14.ntmps (bodyC Try.f14) tb14 := TblOk.nil
theorem payrollgen_Tape_Next.ok {R : Type} (F : Nat) : FnOk (R := R) Try.prog 14 (payrollgen_Tape_Next.c F) := fnP_ok (X := payrollgen_Tape_Next.X F) baseT (payrollgen_Tape_Next.cs F) Try.func14 (by kernel_rfl) (payrollgen_Tape_Next.tb F) (ac := ac14) (rms := rms14) (by kernel_rfl) (pa := payrollgen_Tape_Next.pa) (pr := payrollgen_Tape_Next.pr) (by kernel_rfl) (fun x y K => payrollgen_Tape_Next_eq F x.2.1 y.1 K)
def payrollgen_Tape_Pick.k {R : Type} (F : Nat) (a0 : (List Int)) (a1 : ((List Int) × (Int × Unit))) (K : (Int → ((List Int) × (Int × Unit)) → Option R)) : Option R := (payrollgen_Tape_Next.k F ((↑(List.length a0) : Int)) a1 (fun r2 r3 => (cond (Decidable.decide (0 ≤ r2)) (cond (Decidable.decide (r2 < (↑(List.length a0) : Int))) (K (List.getD a0 (Int.toNat r2) 0) r3) none) none)))
def payrollgen_Tape_Pick.C {R : Type} (F : Nat) : FuncId → List V → List (Option Row) → (List V → List (Option Row) → Option R) → Option R := fun g args rows K => cnd (Nat.beq g 14) (payrollgen_Tape_Next.c F args rows K) (none)
def payrollgen_Tape_Pick.L {R : Type} (F : Nat) : Nat → St → (St → Option R) → List (Nat × (St → Option R)) → (St → Option R) → Option R := fun i s kn ex kr => none
def payrollgen_Tape_Pick.X {R : Type} (F : Nat) : Ctx R := ⟨tyT, eqtT, sigT, fnOkT, payrollgen_Tape_Pick.C F, payrollgen_Tape_Pick.L F⟩
def payrollgen_Tape_Pick.pa : List V := [(.ptr 0 0 0 0), (.val (.sl (.int .i64)) [])]
def payrollgen_Tape_Pick.pr : List (Option Row) := [some ⟨0, false, true, .one (.pair (.sl (.int .i64)) (.pair (.int .i64) .unit)) (Sh.dflt _)⟩]
def payrollgen_Tape_Pick.c {R : Type} (F : Nat) (args : List V) (rows : List (Option Row)) (K : List V → List (Option Row) → Option R) : Option R := decl payrollgen_Tape_Pick.pa args fun x => decr payrollgen_Tape_Pick.pr rows fun y => payrollgen_Tape_Pick.k F x.2.1 y.1 (fun r0 r1 => K [(.val (.int .i64) r0)] [some ⟨0, false, true, .one (.pair (.sl (.int .i64)) (.pair (.int .i64) .unit)) r1⟩])
theorem payrollgen_Tape_Pick_eq {R : Type} (F : Nat) (a0 : (List Int)) (a1 : ((List Int) × (Int × Unit))) (K : List V → List (Option Row) → Option R) : payrollgen_Tape_Pick.k F a0 a1 (fun r0 r1 => K [(.val (.int .i64) r0)] [some ⟨0, false, true, .one (.pair (.sl (.int .i64)) (.pair (.int .i64) .unit)) r1⟩]) = evFn (payrollgen_Tape_Pick.X F) Go.Proofs.Try.f13.results.toList rms13 (bodyC Go.Proofs.Try.f13) ac13 (encl payrollgen_Tape_Pick.pa ((), (a0, ()))) (encr payrollgen_Tape_Pick.pr (a1, ())) K := by kernel_rfl
theorem payrollgen_Tape_Pick.cs {R : Type} (F : Nat) : CsOk (R := R) Try.prog (payrollgen_Tape_Pick.C F) := (CsOk.cons (payrollgen_Tape_Next.ok F) CsOk.nil)
theorem payrollgen_Tape_Pick.tb {R : Type} (F : Nat) : TblOk (R := R) Try.prog (payrollgen_Tape_Pick.X F) Try.f13.ntmps (bodyC Try.f13) tb13 := TblOk.nil
theorem payrollgen_Tape_Pick.ok {R : Type} (F : Nat) : FnOk (R := R) Try.prog 13 (payrollgen_Tape_Pick.c F) := fnP_ok (X := payrollgen_Tape_Pick.X F) baseT (payrollgen_Tape_Pick.cs F) Try.func13 (by kernel_rfl) (payrollgen_Tape_Pick.tb F) (ac := ac13) (rms := rms13) (by kernel_rfl) (pa := payrollgen_Tape_Pick.pa) (pr := payrollgen_Tape_Pick.pr) (by kernel_rfl) (fun x y K => payrollgen_Tape_Pick_eq F x.2.1 y.1 K)
def payrolllaw2_weights.l0 {R : Type} (F : Nat) : Nat → Int → ((List Int) × (Int × Unit)) → (List Int) → (((List Int) × (Int × Unit)) → (List Int) → Option R) → Option R
  | 0, _, _, _, _ => none
  | n + 1, x3, x4, x5, K0 => (cond (Decidable.decide (x3 > 0)) (payrollgen_Tape_Next.k F 10 x4 (fun r9 r10 => (payrollgen_Tape_Pick.k F ([1, r9, 0, 1000000000, 3]) r10 (fun r11 r12 => (cond (Go.Proofs.Ytcipegkeoheikaa.Dx.lim 8 (List.length x5 + List.length [r11])) (payrolllaw2_weights.l0 F n (Go.IntKind.wrap Go.IntKind.i64 (x3 - 1)) r12 (x5 ++ [r11]) K0) none))))) (K0 x4 x5))
def payrolllaw2_weights.l0_p : St := ⟨[(0, (.ptr 0 0 0 0)), (3, (.own 1 0)), (4, (.val (.int .i64) (Sh.dflt _)))], [some ⟨0, false, true, .one (.pair (.sl (.int .i64)) (.pair (.int .i64) .unit)) (Sh.dflt _)⟩, some ⟨0, false, true, .arr 3 (.int .i64) []⟩], 1⟩
def payrolllaw2_weights.l0_0 : St := ⟨[(3, (.own 1 0))], [some ⟨0, false, true, .one (.pair (.sl (.int .i64)) (.pair (.int .i64) .unit)) (Sh.dflt _)⟩, some ⟨0, false, true, .arr 3 (.int .i64) []⟩], 1⟩
def payrolllaw2_weights.l0_L {R : Type} (F n : Nat) (s : St) (kn : St → Option R) (ex : List (Nat × (St → Option R))) (kr : St → Option R) : Option R := payrolllaw2_weights.l0_p.dec s fun y => payrolllaw2_weights.l0 F n y.1.2.2.1 y.2.1 y.2.2.1 (fun v0 v1 => exitK ex 0 (payrolllaw2_weights.l0_0.enc (((), ()), (v0, (v1, ())))))
def payrolllaw2_weights.k {R : Type} (F : Nat) (a0 : ((List Int) × (Int × Unit))) (K : (((List Int) × (Int × Unit)) → (List Int) → Option R)) : Option R := (payrollgen_Tape_Next.k F 7 a0 (fun r1 r2 => (payrolllaw2_weights.l0 F F r1 r2 ([]) (fun v13 v14 => (K v13 v14)))))
def payrolllaw2_weights.C {R : Type} (F : Nat) : FuncId → List V → List (Option Row) → (List V → List (Option Row) → Option R) → Option R := fun g args rows K => cnd (Nat.beq g 14) (payrollgen_Tape_Next.c F args rows K) (cnd (Nat.beq g 13) (payrollgen_Tape_Pick.c F args rows K) (none))
def payrolllaw2_weights.L {R : Type} (F : Nat) : Nat → St → (St → Option R) → List (Nat × (St → Option R)) → (St → Option R) → Option R := fun i s kn ex kr => cnd (Nat.beq i 0) (payrolllaw2_weights.l0_L F F s kn ex kr) (none)
def payrolllaw2_weights.X {R : Type} (F : Nat) : Ctx R := ⟨tyT, eqtT, sigT, fnOkT, payrolllaw2_weights.C F, payrolllaw2_weights.L F⟩
theorem payrolllaw2_weights.l0_eq {R : Type} (F n : Nat) (x3 : Int) (x4 : ((List Int) × (Int × Unit))) (x5 : (List Int)) (kn : St → Option R) (ex : List (Nat × (St → Option R))) (kr : St → Option R) : payrolllaw2_weights.l0 F (n + 1) x3 x4 x5 (fun v0 v1 => exitK ex 0 (payrolllaw2_weights.l0_0.enc (((), ()), (v0, (v1, ()))))) = ev (payrolllaw2_weights.X F) (subC [1, 1, 0, 1, 0, 0] (bodyC Go.Proofs.Try.f20)) ac20_0 (fun s => canonK [0, 3, 4] [(3, 3, (.int .i64))] s fun s' => payrolllaw2_weights.l0_L F n s' kn ex kr) ex kr (payrolllaw2_weights.l0_p.enc (((), ((), (x3, ()))), (x4, (x5, ())))) := by kernel_rfl
def payrolllaw2_weights.pa : List V := [(.ptr 0 0 0 0)]
def payrolllaw2_weights.pr : List (Option Row) := [some ⟨0, false, true, .one (.pair (.sl (.int .i64)) (.pair (.int .i64) .unit)) (Sh.dflt _)⟩]
def payrolllaw2_weights.c {R : Type} (F : Nat) (args : List V) (rows : List (Option Row)) (K : List V → List (Option Row) → Option R) : Option R := decl payrolllaw2_weights.pa args fun x => decr payrolllaw2_weights.pr rows fun y => payrolllaw2_weights.k F y.1 (fun r0 r1 => K [(.own 1 0)] [some ⟨0, false, true, .one (.pair (.sl (.int .i64)) (.pair (.int .i64) .unit)) r0⟩, some ⟨0, false, true, .arr 3 (.int .i64) r1⟩])
theorem payrolllaw2_weights_eq {R : Type} (F : Nat) (a0 : ((List Int) × (Int × Unit))) (K : List V → List (Option Row) → Option R) : payrolllaw2_weights.k F a0 (fun r0 r1 => K [(.own 1 0)] [some ⟨0, false, true, .one (.pair (.sl (.int .i64)) (.pair (.int .i64) .unit)) r0⟩, some ⟨0, false, true, .arr 3 (.int .i64) r1⟩]) = evFn (payrolllaw2_weights.X F) Go.Proofs.Try.f20.results.toList rms20 (bodyC Go.Proofs.Try.f20) ac20 (encl payrolllaw2_weights.pa ((), ())) (encr payrolllaw2_weights.pr (a0, ())) K := by kernel_rfl
theorem payrolllaw2_weights.cs {R : Type} (F : Nat) : CsOk (R := R) Try.prog (payrolllaw2_weights.C F) := (CsOk.cons (payrollgen_Tape_Next.ok F) (CsOk.cons (payrollgen_Tape_Pick.ok F) CsOk.nil))
theorem payrolllaw2_weights.tb {R : Type} (F : Nat) : TblOk (R := R) Try.prog (payrolllaw2_weights.X F) Try.f20.ntmps (bodyC Try.f20) tb20 := (TblOk.loop (i := 0) (p := [1, 1, 0, 1, 0]) (c := subC [1, 1, 0, 1, 0, 0] (bodyC Try.f20)) (F := F) (live := [0, 3, 4]) (co := [(3, 3, (.int .i64))]) (ac := ac20_0) baseT (payrolllaw2_weights.cs F) (payrolllaw2_weights.l0_L F) (by kernel_rfl) (by kernel_rfl) (fun _ _ _ _ => dec_zero) (fun k => dec_or fun x kn ex kr => payrolllaw2_weights.l0_eq F k x.1.2.2.1 x.2.1 x.2.2.1 kn ex kr) (fun _ _ _ _ => rfl) TblOk.nil)
theorem payrolllaw2_weights.ok {R : Type} (F : Nat) : FnOk (R := R) Try.prog 20 (payrolllaw2_weights.c F) := fnP_ok (X := payrolllaw2_weights.X F) baseT (payrolllaw2_weights.cs F) Try.func20 (by kernel_rfl) (payrolllaw2_weights.tb F) (ac := ac20) (rms := rms20) (by kernel_rfl) (pa := payrolllaw2_weights.pa) (pr := payrolllaw2_weights.pr) (by kernel_rfl) (fun x y K => payrolllaw2_weights_eq F y.1 K)
def rounding_Allocate_1.k {R : Type} (F : Nat) (a0 : Int) (a1 : Int) (a2 : Int) (a3 : (List Int)) (a4 : Int) (K : (Int → Int → (List Int) → Int → Option R)) : Option R := (cond (Decidable.decide (0 ≤ a1)) (cond (Decidable.decide (a1 < (↑(List.length a3) : Int))) (cond (Decidable.decide (a4 = 0)) none (cond (Decidable.decide (0 ≤ a0)) (cond (Decidable.decide (a0 < (↑(List.length a3) : Int))) (cond (Decidable.decide (a4 = 0)) none (K (Go.IntKind.wrap Go.IntKind.i64 (Int.tmod (Go.IntKind.wrap Go.IntKind.i64 (a2 * List.getD a3 (Int.toNat a1) 0)) a4 - Int.tmod (Go.IntKind.wrap Go.IntKind.i64 (a2 * List.getD a3 (Int.toNat a0) 0)) a4)) a2 a3 a4)) none) none)) none) none)
def rounding_Allocate_1.C {R : Type} (F : Nat) : FuncId → List V → List (Option Row) → (List V → List (Option Row) → Option R) → Option R := fun g args rows K => none
def rounding_Allocate_1.L {R : Type} (F : Nat) : Nat → St → (St → Option R) → List (Nat × (St → Option R)) → (St → Option R) → Option R := fun i s kn ex kr => none
def rounding_Allocate_1.X {R : Type} (F : Nat) : Ctx R := ⟨tyT, eqtT, sigT, fnOkT, rounding_Allocate_1.C F, rounding_Allocate_1.L F⟩
def rounding_Allocate_1.pa : List V := [(.val (.int .i64) (Sh.dflt _)), (.val (.int .i64) (Sh.dflt _)), (.ptr 0 0 0 0), (.ptr 1 0 0 0), (.ptr 2 0 0 0)]
def rounding_Allocate_1.pr : List (Option Row) := [some ⟨0, false, true, .one (.int .i64) (Sh.dflt _)⟩, some ⟨0, false, true, .one (.sl (.int .i64)) []⟩, some ⟨0, false, true, .one (.int .i64) (Sh.dflt _)⟩]
def rounding_Allocate_1.c {R : Type} (F : Nat) (args : List V) (rows : List (Option Row)) (K : List V → List (Option Row) → Option R) : Option R := decl rounding_Allocate_1.pa args fun x => decr rounding_Allocate_1.pr rows fun y => rounding_Allocate_1.k F x.1 x.2.1 y.1 y.2.1 y.2.2.1 (fun r0 r1 r2 r3 => K [(.val (.int .i64) r0)] [some ⟨0, false, true, .one (.int .i64) r1⟩, some ⟨0, false, true, .one (.sl (.int .i64)) r2⟩, some ⟨0, false, true, .one (.int .i64) r3⟩])
theorem rounding_Allocate_1_eq {R : Type} (F : Nat) (a0 : Int) (a1 : Int) (a2 : Int) (a3 : (List Int)) (a4 : Int) (K : List V → List (Option Row) → Option R) : rounding_Allocate_1.k F a0 a1 a2 a3 a4 (fun r0 r1 r2 r3 => K [(.val (.int .i64) r0)] [some ⟨0, false, true, .one (.int .i64) r1⟩, some ⟨0, false, true, .one (.sl (.int .i64)) r2⟩, some ⟨0, false, true, .one (.int .i64) r3⟩]) = evFn (rounding_Allocate_1.X F) Go.Proofs.Try.f35.results.toList rms35 (bodyC Go.Proofs.Try.f35) ac35 (encl rounding_Allocate_1.pa (a0, (a1, ((), ((), ((), ())))))) (encr rounding_Allocate_1.pr (a2, (a3, (a4, ())))) K := by kernel_rfl
theorem rounding_Allocate_1.cs {R : Type} (F : Nat) : CsOk (R := R) Try.prog (rounding_Allocate_1.C F) := CsOk.nil
theorem rounding_Allocate_1.tb {R : Type} (F : Nat) : TblOk (R := R) Try.prog (rounding_Allocate_1.X F) Try.f35.ntmps (bodyC Try.f35) tb35 := TblOk.nil
theorem rounding_Allocate_1.ok {R : Type} (F : Nat) : FnOk (R := R) Try.prog 35 (rounding_Allocate_1.c F) := fnP_ok (X := rounding_Allocate_1.X F) baseT (rounding_Allocate_1.cs F) Try.func35 (by kernel_rfl) (rounding_Allocate_1.tb F) (ac := ac35) (rms := rms35) (by kernel_rfl) (pa := rounding_Allocate_1.pa) (pr := rounding_Allocate_1.pr) (by kernel_rfl) (fun x y K => rounding_Allocate_1_eq F x.1 x.2.1 y.1 y.2.1 y.2.2.1 K)
def slices_insertionSortCmpFuncint.l1 {R : Type} (F : Nat) : Nat → Int → Int → Int → Int → (List Int) → Int → (List Int) → Int → (Int → Int → Int → (List Int) → Int → (List Int) → Int → Option R) → Option R
  | 0, _, _, _, _, _, _, _, _, _ => none
  | n + 1, x16, x17, x18, x19, x20, x21, x22, x23, K2 => (cond (Decidable.decide (x19 > x16)) (cond (Decidable.decide (0 ≤ x19)) (cond (Decidable.decide (x19 < (↑(List.length x20) : Int))) (cond (Decidable.decide (0 ≤ Go.IntKind.wrap Go.IntKind.i64 (x19 - 1))) (cond (Decidable.decide (Go.IntKind.wrap Go.IntKind.i64 (x19 - 1) < (↑(List.length x20) : Int))) (rounding_Allocate_1.k F (List.getD x20 (Int.toNat x19) 0) (List.getD x20 (Int.toNat (Go.IntKind.wrap Go.IntKind.i64 (x19 - 1))) 0) x21 x22 x23 (fun r29 r30 r31 r32 => (cond (Decidable.decide (r29 < 0)) (cond (Decidable.decide (0 ≤ Go.IntKind.wrap Go.IntKind.i64 (x19 - 1))) (cond (Decidable.decide (Go.IntKind.wrap Go.IntKind.i64 (x19 - 1) < (↑(List.length x20) : Int))) (cond (Decidable.decide (0 ≤ x19)) (cond (Decidable.decide (x19 < (↑(List.length x20) : Int))) (cond (Decidable.decide (0 ≤ x19)) (cond (Decidable.decide (x19 < (↑(List.length x20) : Int))) (cond (Decidable.decide (0 ≤ Go.IntKind.wrap Go.IntKind.i64 (x19 - 1))) (cond (Decidable.decide (Go.IntKind.wrap Go.IntKind.i64 (x19 - 1) < (↑(List.length (List.set x20 (Int.toNat x19) (List.getD x20 (Int.toNat (Go.IntKind.wrap Go.IntKind.i64 (x19 - 1))) 0))) : Int))) (slices_insertionSortCmpFuncint.l1 F n x16 x17 x18 (Go.IntKind.wrap Go.IntKind.i64 (x19 - 1)) (List.set (List.set x20 (Int.toNat x19) (List.getD x20 (Int.toNat (Go.IntKind.wrap Go.IntKind.i64 (x19 - 1))) 0)) (Int.toNat (Go.IntKind.wrap Go.IntKind.i64 (x19 - 1))) (List.getD x20 (Int.toNat x19) 0)) r30 r31 r32 K2) none) none) none) none) none) none) none) none) (K2 x16 x17 x18 x20 r30 r31 r32)))) none) none) none) none) (K2 x16 x17 x18 x20 x21 x22 x23))
def slices_insertionSortCmpFuncint.l1_p : St := ⟨[(0, (.own 0 0)), (1, (.val (.int .i64) (Sh.dflt _))), (2, (.val (.int .i64) (Sh.dflt _))), (3, (.fn 35 .lnil (.lcons (.ptr 1 0 0 0) (.lcons (.ptr 2 0 0 0) (.lcons (.ptr 3 0 0 0) .lnil))))), (8, (.val (.int .i64) (Sh.dflt _))), (9, (.val (.int .i64) (Sh.dflt _)))], [some ⟨0, false, false, .arr 3 (.int .i64) []⟩, some ⟨0, false, true, .one (.int .i64) (Sh.dflt _)⟩, some ⟨0, false, true, .one (.sl (.int .i64)) []⟩, some ⟨0, false, true, .one (.int .i64) (Sh.dflt _)⟩], 4⟩
def slices_insertionSortCmpFuncint.l1_2 : St := ⟨[(0, (.own 0 0)), (1, (.val (.int .i64) (Sh.dflt _))), (2, (.val (.int .i64) (Sh.dflt _))), (3, (.fn 35 .lnil (.lcons (.ptr 1 0 0 0) (.lcons (.ptr 2 0 0 0) (.lcons (.ptr 3 0 0 0) .lnil))))), (8, (.val (.int .i64) (Sh.dflt _)))], [some ⟨0, false, false, .arr 3 (.int .i64) []⟩, some ⟨0, false, true, .one (.int .i64) (Sh.dflt _)⟩, some ⟨0, false, true, .one (.sl (.int .i64)) []⟩, some ⟨0, false, true, .one (.int .i64) (Sh.dflt _)⟩], 4⟩
def slices_insertionSortCmpFuncint.l1_L {R : Type} (F n : Nat) (s : St) (kn : St → Option R) (ex : List (Nat × (St → Option R))) (kr : St → Option R) : Option R := slices_insertionSortCmpFuncint.l1_p.dec s fun y => slices_insertionSortCmpFuncint.l1 F n y.1.2.1 y.1.2.2.1 y.1.2.2.2.2.1 y.1.2.2.2.2.2.1 y.2.1 y.2.2.1 y.2.2.2.1 y.2.2.2.2.1 (fun v0 v1 v2 v3 v4 v5 v6 => exitK ex 2 (slices_insertionSortCmpFuncint.l1_2.enc (((), (v0, (v1, (((), ((), ((), ((), ())))), (v2, ()))))), (v3, (v4, (v5, (v6, ())))))))
def slices_insertionSortCmpFuncint.l0 {R : Type} (F : Nat) : Nat → Int → Int → Int → (List Int) → Int → (List Int) → Int → ((List Int) → Int → (List Int) → Int → Option R) → Option R
  | 0, _, _, _, _, _, _, _, _ => none
  | n + 1, x6, x7, x8, x9, x10, x11, x12, K0 => (cond (Decidable.decide (x8 < x7)) (slices_insertionSortCmpFuncint.l1 F F x6 x7 x8 x8 x9 x10 x11 x12 (fun v33 v34 v35 v36 v37 v38 v39 => (slices_insertionSortCmpFuncint.l0 F n v33 v34 (Go.IntKind.wrap Go.IntKind.i64 (v35 + 1)) v36 v37 v38 v39 K0))) (K0 x9 x10 x11 x12))
def slices_insertionSortCmpFuncint.l0_p : St := ⟨[(0, (.own 0 0)), (1, (.val (.int .i64) (Sh.dflt _))), (2, (.val (.int .i64) (Sh.dflt _))), (3, (.fn 35 .lnil (.lcons (.ptr 1 0 0 0) (.lcons (.ptr 2 0 0 0) (.lcons (.ptr 3 0 0 0) .lnil))))), (8, (.val (.int .i64) (Sh.dflt _)))], [some ⟨0, false, false, .arr 3 (.int .i64) []⟩, some ⟨0, false, true, .one (.int .i64) (Sh.dflt _)⟩, some ⟨0, false, true, .one (.sl (.int .i64)) []⟩, some ⟨0, false, true, .one (.int .i64) (Sh.dflt _)⟩], 4⟩
def slices_insertionSortCmpFuncint.l0_0 : St := ⟨[], [some ⟨0, false, false, .arr 3 (.int .i64) []⟩, some ⟨0, false, true, .one (.int .i64) (Sh.dflt _)⟩, some ⟨0, false, true, .one (.sl (.int .i64)) []⟩, some ⟨0, false, true, .one (.int .i64) (Sh.dflt _)⟩], 4⟩
def slices_insertionSortCmpFuncint.l0_L {R : Type} (F n : Nat) (s : St) (kn : St → Option R) (ex : List (Nat × (St → Option R))) (kr : St → Option R) : Option R := slices_insertionSortCmpFuncint.l0_p.dec s fun y => slices_insertionSortCmpFuncint.l0 F n y.1.2.1 y.1.2.2.1 y.1.2.2.2.2.1 y.2.1 y.2.2.1 y.2.2.2.1 y.2.2.2.2.1 (fun v0 v1 v2 v3 => exitK ex 0 (slices_insertionSortCmpFuncint.l0_0.enc ((), (v0, (v1, (v2, (v3, ())))))))
def slices_insertionSortCmpFuncint.k {R : Type} (F : Nat) (a0 : Int) (a1 : Int) (a2 : (List Int)) (a3 : Int) (a4 : (List Int)) (a5 : Int) (K : ((List Int) → Int → (List Int) → Int → Option R)) : Option R := (slices_insertionSortCmpFuncint.l0 F F a0 a1 (Go.IntKind.wrap Go.IntKind.i64 (a0 + 1)) a2 a3 a4 a5 (fun v40 v41 v42 v43 => (K v40 v41 v42 v43)))
def slices_insertionSortCmpFuncint.C {R : Type} (F : Nat) : FuncId → List V → List (Option Row) → (List V → List (Option Row) → Option R) → Option R := fun g args rows K => cnd (Nat.beq g 35) (rounding_Allocate_1.c F args rows K) (none)
def slices_insertionSortCmpFuncint.L {R : Type} (F : Nat) : Nat → St → (St → Option R) → List (Nat × (St → Option R)) → (St → Option R) → Option R := fun i s kn ex kr => cnd (Nat.beq i 1) (slices_insertionSortCmpFuncint.l1_L F F s kn ex kr) (cnd (Nat.beq i 0) (slices_insertionSortCmpFuncint.l0_L F F s kn ex kr) (none))
def slices_insertionSortCmpFuncint.X {R : Type} (F : Nat) : Ctx R := ⟨tyT, eqtT, sigT, fnOkT, slices_insertionSortCmpFuncint.C F, slices_insertionSortCmpFuncint.L F⟩
theorem slices_insertionSortCmpFuncint.l1_eq {R : Type} (F n : Nat) (x16 : Int) (x17 : Int) (x18 : Int) (x19 : Int) (x20 : (List Int)) (x21 : Int) (x22 : (List Int)) (x23 : Int) (kn : St → Option R) (ex : List (Nat × (St → Option R))) (kr : St → Option R) : slices_insertionSortCmpFuncint.l1 F (n + 1) x16 x17 x18 x19 x20 x21 x22 x23 (fun v0 v1 v2 v3 v4 v5 v6 => exitK ex 2 (slices_insertionSortCmpFuncint.l1_2.enc (((), (v0, (v1, (((), ((), ((), ((), ())))), (v2, ()))))), (v3, (v4, (v5, (v6, ()))))))) = ev (slices_insertionSortCmpFuncint.X F) (subC [1, 0, 0, 1, 0, 0, 1, 0, 0] (bodyC Go.Proofs.Try.f55)) ac55_1 (fun s => canonK [0, 1, 2, 3, 8, 9] [] s fun s' => slices_insertionSortCmpFuncint.l1_L F n s' kn ex kr) ex kr (slices_insertionSortCmpFuncint.l1_p.enc (((), (x16, (x17, (((), ((), ((), ((), ())))), (x18, (x19, ())))))), (x20, (x21, (x22, (x23, ())))))) := by kernel_rfl
theorem slices_insertionSortCmpFuncint.l0_eq {R : Type} (F n : Nat) (x6 : Int) (x7 : Int) (x8 : Int) (x9 : (List Int)) (x10 : Int) (x11 : (List Int)) (x12 : Int) (kn : St → Option R) (ex : List (Nat × (St → Option R))) (kr : St → Option R) : slices_insertionSortCmpFuncint.l0 F (n + 1) x6 x7 x8 x9 x10 x11 x12 (fun v0 v1 v2 v3 => exitK ex 0 (slices_insertionSortCmpFuncint.l0_0.enc ((), (v0, (v1, (v2, (v3, ()))))))) = ev (slices_insertionSortCmpFuncint.X F) (subC [1, 0, 0] (bodyC Go.Proofs.Try.f55)) ac55_0 (fun s => canonK [0, 1, 2, 3, 8] [] s fun s' => slices_insertionSortCmpFuncint.l0_L F n s' kn ex kr) ex kr (slices_insertionSortCmpFuncint.l0_p.enc (((), (x6, (x7, (((), ((), ((), ((), ())))), (x8, ()))))), (x9, (x10, (x11, (x12, ())))))) := by kernel_rfl
def slices_insertionSortCmpFuncint.pa : List V := [(.own 0 0), (.val (.int .i64) (Sh.dflt _)), (.val (.int .i64) (Sh.dflt _)), (.fn 35 .lnil (.lcons (.ptr 1 0 0 0) (.lcons (.ptr 2 0 0 0) (.lcons (.ptr 3 0 0 0) .lnil))))]
def slices_insertionSortCmpFuncint.pr : List (Option Row) := [some ⟨0, false, false, .arr 3 (.int .i64) []⟩, some ⟨0, false, true, .one (.int .i64) (Sh.dflt _)⟩, some ⟨0, false, true, .one (.sl (.int .i64)) []⟩, some ⟨0, false, true, .one (.int .i64) (Sh.dflt _)⟩]
def slices_insertionSortCmpFuncint.c {R : Type} (F : Nat) (args : List V) (rows : List (Option Row)) (K : List V → List (Option Row) → Option R) : Option R := decl slices_insertionSortCmpFuncint.pa args fun x => decr slices_insertionSortCmpFuncint.pr rows fun y => slices_insertionSortCmpFuncint.k F x.2.1 x.2.2.1 y.1 y.2.1 y.2.2.1 y.2.2.2.1 (fun r0 r1 r2 r3 => K [] [some ⟨0, false, false, .arr 3 (.int .i64) r0⟩, some ⟨0, false, true, .one (.int .i64) r1⟩, some ⟨0, false, true, .one (.sl (.int .i64)) r2⟩, some ⟨0, false, true, .one (.int .i64) r3⟩])
theorem slices_insertionSortCmpFuncint_eq {R : Type} (F : Nat) (a0 : Int) (a1 : Int) (a2 : (List Int)) (a3 : Int) (a4 : (List Int)) (a5 : Int) (K : List V → List (Option Row) → Option R) : slices_insertionSortCmpFuncint.k F a0 a1 a2 a3 a4 a5 (fun r0 r1 r2 r3 => K [] [some ⟨0, false, false, .arr 3 (.int .i64) r0⟩, some ⟨0, false, true, .one (.int .i64) r1⟩, some ⟨0, false, true, .one (.sl (.int .i64)) r2⟩, some ⟨0, false, true, .one (.int .i64) r3⟩]) = evFn (slices_insertionSortCmpFuncint.X F) Go.Proofs.Try.f55.results.toList rms55 (bodyC Go.Proofs.Try.f55) ac55 (encl slices_insertionSortCmpFuncint.pa ((), (a0, (a1, (((), ((), ((), ((), ())))), ()))))) (encr slices_insertionSortCmpFuncint.pr (a2, (a3, (a4, (a5, ()))))) K := by kernel_rfl
theorem slices_insertionSortCmpFuncint.cs {R : Type} (F : Nat) : CsOk (R := R) Try.prog (slices_insertionSortCmpFuncint.C F) := (CsOk.cons (rounding_Allocate_1.ok F) CsOk.nil)
theorem slices_insertionSortCmpFuncint.tb {R : Type} (F : Nat) : TblOk (R := R) Try.prog (slices_insertionSortCmpFuncint.X F) Try.f55.ntmps (bodyC Try.f55) tb55 := (TblOk.loop (i := 0) (p := [1, 0]) (c := subC [1, 0, 0] (bodyC Try.f55)) (F := F) (live := [0, 1, 2, 3, 8]) (co := []) (ac := ac55_0) baseT (slices_insertionSortCmpFuncint.cs F) (slices_insertionSortCmpFuncint.l0_L F) (by kernel_rfl) (by kernel_rfl) (fun _ _ _ _ => dec_zero) (fun k => dec_or fun x kn ex kr => slices_insertionSortCmpFuncint.l0_eq F k x.1.2.1 x.1.2.2.1 x.1.2.2.2.2.1 x.2.1 x.2.2.1 x.2.2.2.1 x.2.2.2.2.1 kn ex kr) (fun _ _ _ _ => rfl) (TblOk.loop (i := 1) (p := [1, 0, 0, 1, 0, 0, 1, 0]) (c := subC [1, 0, 0, 1, 0, 0, 1, 0, 0] (bodyC Try.f55)) (F := F) (live := [0, 1, 2, 3, 8, 9]) (co := []) (ac := ac55_1) baseT (slices_insertionSortCmpFuncint.cs F) (slices_insertionSortCmpFuncint.l1_L F) (by kernel_rfl) (by kernel_rfl) (fun _ _ _ _ => dec_zero) (fun k => dec_or fun x kn ex kr => slices_insertionSortCmpFuncint.l1_eq F k x.1.2.1 x.1.2.2.1 x.1.2.2.2.2.1 x.1.2.2.2.2.2.1 x.2.1 x.2.2.1 x.2.2.2.1 x.2.2.2.2.1 kn ex kr) (fun _ _ _ _ => rfl) TblOk.nil))
theorem slices_insertionSortCmpFuncint.ok {R : Type} (F : Nat) : FnOk (R := R) Try.prog 55 (slices_insertionSortCmpFuncint.c F) := fnP_ok (X := slices_insertionSortCmpFuncint.X F) baseT (slices_insertionSortCmpFuncint.cs F) Try.func55 (by kernel_rfl) (slices_insertionSortCmpFuncint.tb F) (ac := ac55) (rms := rms55) (by kernel_rfl) (pa := slices_insertionSortCmpFuncint.pa) (pr := slices_insertionSortCmpFuncint.pr) (by kernel_rfl) (fun x y K => slices_insertionSortCmpFuncint_eq F x.2.1 x.2.2.1 y.1 y.2.1 y.2.2.1 y.2.2.2.1 K)
def slices_stableCmpFuncint.l0 {R : Type} (F : Nat) : Nat → Int → Int → Int → Int → (List Int) → Int → (List Int) → Int → (Int → Int → Int → (List Int) → Int → (List Int) → Int → Option R) → Option R
  | 0, _, _, _, _, _, _, _, _, _ => none
  | n + 1, x5, x6, x7, x8, x9, x10, x11, x12, K0 => (cond (Decidable.decide (x8 ≤ x5)) (slices_insertionSortCmpFuncint.k F x7 x8 x9 x10 x11 x12 (fun r16 r17 r18 r19 => (slices_stableCmpFuncint.l0 F n x5 x6 x8 (Go.IntKind.wrap Go.IntKind.i64 (x8 + x6)) r16 r17 r18 r19 K0))) (K0 x5 x6 x7 x9 x10 x11 x12))
def slices_stableCmpFuncint.l0_p : St := ⟨[(0, (.own 0 0)), (1, (.val (.int .i64) (Sh.dflt _))), (2, (.fn 35 .lnil (.lcons (.ptr 1 0 0 0) (.lcons (.ptr 2 0 0 0) (.lcons (.ptr 3 0 0 0) .lnil))))), (6, (.val (.int .i64) (Sh.dflt _))), (7, (.val (.int .i64) (Sh.dflt _))), (8, (.val (.int .i64) (Sh.dflt _)))], [some ⟨0, false, false, .arr 3 (.int .i64) []⟩, some ⟨0, false, true, .one (.int .i64) (Sh.dflt _)⟩, some ⟨0, false, true, .one (.sl (.int .i64)) []⟩, some ⟨0, false, true, .one (.int .i64) (Sh.dflt _)⟩], 4⟩
def slices_stableCmpFuncint.l0_0 : St := ⟨[(0, (.own 0 0)), (1, (.val (.int .i64) (Sh.dflt _))), (2, (.fn 35 .lnil (.lcons (.ptr 1 0 0 0) (.lcons (.ptr 2 0 0 0) (.lcons (.ptr 3 0 0 0) .lnil))))), (6, (.val (.int .i64) (Sh.dflt _))), (7, (.val (.int .i64) (Sh.dflt _)))], [some ⟨0, false, false, .arr 3 (.int .i64) []⟩, some ⟨0, false, true, .one (.int .i64) (Sh.dflt _)⟩, some ⟨0, false, true, .one (.sl (.int .i64)) []⟩, some ⟨0, false, true, .one (.int .i64) (Sh.dflt _)⟩], 4⟩
def slices_stableCmpFuncint.l0_L {R : Type} (F n : Nat) (s : St) (kn : St → Option R) (ex : List (Nat × (St → Option R))) (kr : St → Option R) : Option R := slices_stableCmpFuncint.l0_p.dec s fun y => slices_stableCmpFuncint.l0 F n y.1.2.1 y.1.2.2.2.1 y.1.2.2.2.2.1 y.1.2.2.2.2.2.1 y.2.1 y.2.2.1 y.2.2.2.1 y.2.2.2.2.1 (fun v0 v1 v2 v3 v4 v5 v6 => exitK ex 0 (slices_stableCmpFuncint.l0_0.enc (((), (v0, (((), ((), ((), ((), ())))), (v1, (v2, ()))))), (v3, (v4, (v5, (v6, ())))))))
def slices_stableCmpFuncint.l2 {R : Type} (F : Nat) : Nat → Int → Int → Int → Int → (List Int) → Int → (List Int) → Int → (Int → Int → Int → (List Int) → Int → (List Int) → Int → Option R) → Option R
  | 0, _, _, _, _, _, _, _, _, _ => none
  | n + 1, x40, x41, x42, x43, x44, x45, x46, x47, K4 => (cond (Decidable.decide (x43 ≤ x40)) (symMerge.k F x42 (Go.IntKind.wrap Go.IntKind.i64 (x42 + x41)) x43 x44 x45 x46 x47 (fun r53 r54 r55 r56 => (slices_stableCmpFuncint.l2 F n x40 x41 x43 (Go.IntKind.wrap Go.IntKind.i64 (x43 + Go.IntKind.wrap Go.IntKind.i64 (2 * x41))) r53 r54 r55 r56 K4))) (K4 x40 x41 x42 x44 x45 x46 x47))
def slices_stableCmpFuncint.l2_p : St := ⟨[(0, (.own 0 0)), (1, (.val (.int .i64) (Sh.dflt _))), (2, (.fn 35 .lnil (.lcons (.ptr 1 0 0 0) (.lcons (.ptr 2 0 0 0) (.lcons (.ptr 3 0 0 0) .lnil))))), (6, (.val (.int .i64) (Sh.dflt _))), (7, (.val (.int .i64) (Sh.dflt _))), (8, (.val (.int .i64) (Sh.dflt _)))], [some ⟨0, false, false, .arr 3 (.int .i64) []⟩, some ⟨0, false, true, .one (.int .i64) (Sh.dflt _)⟩, some ⟨0, false, true, .one (.sl (.int .i64)) []⟩, some ⟨0, false, true, .one (.int .i64) (Sh.dflt _)⟩], 4⟩
def slices_stableCmpFuncint.l2_4 : St := ⟨[(0, (.own 0 0)), (1, (.val (.int .i64) (Sh.dflt _))), (2, (.fn 35 .lnil (.lcons (.ptr 1 0 0 0) (.lcons (.ptr 2 0 0 0) (.lcons (.ptr 3 0 0 0) .lnil))))), (6, (.val (.int .i64) (Sh.dflt _))), (7, (.val (.int .i64) (Sh.dflt _)))], [some ⟨0, false, false, .arr 3 (.int .i64) []⟩, some ⟨0, false, true, .one (.int .i64) (Sh.dflt _)⟩, some ⟨0, false, true, .one (.sl (.int .i64)) []⟩, some ⟨0, false, true, .one (.int .i64) (Sh.dflt _)⟩], 4⟩
def slices_stableCmpFuncint.l2_L {R : Type} (F n : Nat) (s : St) (kn : St → Option R) (ex : List (Nat × (St → Option R))) (kr : St → Option R) : Option R := slices_stableCmpFuncint.l2_p.dec s fun y => slices_stableCmpFuncint.l2 F n y.1.2.1 y.1.2.2.2.1 y.1.2.2.2.2.1 y.1.2.2.2.2.2.1 y.2.1 y.2.2.1 y.2.2.2.1 y.2.2.2.2.1 (fun v0 v1 v2 v3 v4 v5 v6 => exitK ex 4 (slices_stableCmpFuncint.l2_4.enc (((), (v0, (((), ((), ((), ((), ())))), (v1, (v2, ()))))), (v3, (v4, (v5, (v6, ())))))))
def slices_stableCmpFuncint.l1 {R : Type} (F : Nat) : Nat → Int → Int → (List Int) → Int → (List Int) → Int → ((List Int) → Int → (List Int) → Int → Option R) → Option R
  | 0, _, _, _, _, _, _, _ => none
  | n + 1, x31, x32, x33, x34, x35, x36, K2 => (cond (Decidable.decide (x32 < x31)) (slices_stableCmpFuncint.l2 F F x31 x32 0 (Go.IntKind.wrap Go.IntKind.i64 (2 * x32)) x33 x34 x35 x36 (fun v57 v58 v59 v60 v61 v62 v63 => (cond (Decidable.decide (Go.IntKind.wrap Go.IntKind.i64 (v59 + v58) < v57)) (symMerge.k F v59 (Go.IntKind.wrap Go.IntKind.i64 (v59 + v58)) v57 v60 v61 v62 v63 (fun r64 r65 r66 r67 => (slices_stableCmpFuncint.l1 F n v57 (Go.IntKind.wrap Go.IntKind.i64 (v58 * 2)) r64 r65 r66 r67 K2))) (slices_stableCmpFuncint.l1 F n v57 (Go.IntKind.wrap Go.IntKind.i64 (v58 * 2)) v60 v61 v62 v63 K2)))) (K2 x33 x34 x35 x36))
def slices_stableCmpFuncint.l1_p : St := ⟨[(0, (.own 0 0)), (1, (.val (.int .i64) (Sh.dflt _))), (2, (.fn 35 .lnil (.lcons (.ptr 1 0 0 0) (.lcons (.ptr 2 0 0 0) (.lcons (.ptr 3 0 0 0) .lnil))))), (6, (.val (.int .i64) (Sh.dflt _)))], [some ⟨0, false, false, .arr 3 (.int .i64) []⟩, some ⟨0, false, true, .one (.int .i64) (Sh.dflt _)⟩, some ⟨0, false, true, .one (.sl (.int .i64)) []⟩, some ⟨0, false, true, .one (.int .i64) (Sh.dflt _)⟩], 4⟩
def slices_stableCmpFuncint.l1_2 : St := ⟨[], [some ⟨0, false, false, .arr 3 (.int .i64) []⟩, some ⟨0, false, true, .one (.int .i64) (Sh.dflt _)⟩, some ⟨0, false, true, .one (.sl (.int .i64)) []⟩, some ⟨0, false, true, .one (.int .i64) (Sh.dflt _)⟩], 4⟩
def slices_stableCmpFuncint.l1_L {R : Type} (F n : Nat) (s : St) (kn : St → Option R) (ex : List (Nat × (St → Option R))) (kr : St → Option R) : Option R := slices_stableCmpFuncint.l1_p.dec s fun y => slices_stableCmpFuncint.l1 F n y.1.2.1 y.1.2.2.2.1 y.2.1 y.2.2.1 y.2.2.2.1 y.2.2.2.2.1 (fun v0 v1 v2 v3 => exitK ex 2 (slices_stableCmpFuncint.l1_2.enc ((), (v0, (v1, (v2, (v3, ())))))))
def slices_stableCmpFuncint.k {R : Type} (F : Nat) (a0 : Int) (a1 : (List Int)) (a2 : Int) (a3 : (List Int)) (a4 : Int) (K : ((List Int) → Int → (List Int) → Int → Option R)) : Option R := (slices_stableCmpFuncint.l0 F F a0 20 0 20 a1 a2 a3 a4 (fun v20 v21 v22 v23 v24 v25 v26 => (slices_insertionSortCmpFuncint.k F v22 v20 v23 v24 v25 v26 (fun r27 r28 r29 r30 => (slices_stableCmpFuncint.l1 F F v20 v21 r27 r28 r29 r30 (fun v68 v69 v70 v71 => (K v68 v69 v70 v71)))))))
def slices_stableCmpFuncint.C {R : Type} (F : Nat) : FuncId → List V → List (Option Row) → (List V → List (Option Row) → Option R) → Option R := fun g args rows K => cnd (Nat.beq g 55) (slices_insertionSortCmpFuncint.c F args rows K) (cnd (Nat.beq g 56) (symMerge.c F args rows K) (none))
def slices_stableCmpFuncint.L {R : Type} (F : Nat) : Nat → St → (St → Option R) → List (Nat × (St → Option R)) → (St → Option R) → Option R := fun i s kn ex kr => cnd (Nat.beq i 0) (slices_stableCmpFuncint.l0_L F F s kn ex kr) (cnd (Nat.beq i 2) (slices_stableCmpFuncint.l2_L F F s kn ex kr) (cnd (Nat.beq i 1) (slices_stableCmpFuncint.l1_L F F s kn ex kr) (none)))
def slices_stableCmpFuncint.X {R : Type} (F : Nat) : Ctx R := ⟨tyT, eqtT, sigT, fnOkT, slices_stableCmpFuncint.C F, slices_stableCmpFuncint.L F⟩
theorem slices_stableCmpFuncint.l0_eq {R : Type} (F n : Nat) (x5 : Int) (x6 : Int) (x7 : Int) (x8 : Int) (x9 : (List Int)) (x10 : Int) (x11 : (List Int)) (x12 : Int) (kn : St → Option R) (ex : List (Nat × (St → Option R))) (kr : St → Option R) : slices_stableCmpFuncint.l0 F (n + 1) x5 x6 x7 x8 x9 x10 x11 x12 (fun v0 v1 v2 v3 v4 v5 v6 => exitK ex 0 (slices_stableCmpFuncint.l0_0.enc (((), (v0, (((), ((), ((), ((), ())))), (v1, (v2, ()))))), (v3, (v4, (v5, (v6, ()))))))) = ev (slices_stableCmpFuncint.X F) (subC [1, 1, 0, 0, 0] (bodyC Go.Proofs.Try.f50)) ac50_0 (fun s => canonK [0, 1, 2, 6, 7, 8] [] s fun s' => slices_stableCmpFuncint.l0_L F n s' kn ex kr) ex kr (slices_stableCmpFuncint.l0_p.enc (((), (x5, (((), ((), ((), ((), ())))), (x6, (x7, (x8, ())))))), (x9, (x10, (x11, (x12, ())))))) := by kernel_rfl
theorem slices_stableCmpFuncint.l2_eq {R : Type} (F n : Nat) (x40 : Int) (x41 : Int) (x42 : Int) (x43 : Int) (x44 : (List Int)) (x45 : Int) (x46 : (List Int)) (x47 : Int) (kn : St → Option R) (ex : List (Nat × (St → Option R))) (kr : St → Option R) : slices_stableCmpFuncint.l2 F (n + 1) x40 x41 x42 x43 x44 x45 x46 x47 (fun v0 v1 v2 v3 v4 v5 v6 => exitK ex 4 (slices_stableCmpFuncint.l2_4.enc (((), (v0, (((), ((), ((), ((), ())))), (v1, (v2, ()))))), (v3, (v4, (v5, (v6, ()))))))) = ev (slices_stableCmpFuncint.X F) (subC [1, 1, 1, 1, 0, 0, 1, 0, 1, 0, 0, 0] (bodyC Go.Proofs.Try.f50)) ac50_2 (fun s => canonK [0, 1, 2, 6, 7, 8] [] s fun s' => slices_stableCmpFuncint.l2_L F n s' kn ex kr) ex kr (slices_stableCmpFuncint.l2_p.enc (((), (x40, (((), ((), ((), ((), ())))), (x41, (x42, (x43, ())))))), (x44, (x45, (x46, (x47, ())))))) := by kernel_rfl
theorem slices_stableCmpFuncint.l1_eq {R : Type} (F n : Nat) (x31 : Int) (x32 : Int) (x33 : (List Int)) (x34 : Int) (x35 : (List Int)) (x36 : Int) (kn : St → Option R) (ex : List (Nat × (St → Option R))) (kr : St → Option R) : slices_stableCmpFuncint.l1 F (n + 1) x31 x32 x33 x34 x35 x36 (fun v0 v1 v2 v3 => exitK ex 2 (slices_stableCmpFuncint.l1_2.enc ((), (v0, (v1, (v2, (v3, ()))))))) = ev (slices_stableCmpFuncint.X F) (subC [1, 1, 1, 1, 0, 0] (bodyC Go.Proofs.Try.f50)) ac50_1 (fun s => canonK [0, 1, 2, 6] [] s fun s' => slices_stableCmpFuncint.l1_L F n s' kn ex kr) ex kr (slices_stableCmpFuncint.l1_p.enc (((), (x31, (((), ((), ((), ((), ())))), (x32, ())))), (x33, (x34, (x35, (x36, ())))))) := by kernel_rfl
def slices_stableCmpFuncint.pa : List V := [(.own 0 0), (.val (.int .i64) (Sh.dflt _)), (.fn 35 .lnil (.lcons (.ptr 1 0 0 0) (.lcons (.ptr 2 0 0 0) (.lcons (.ptr 3 0 0 0) .lnil))))]
def slices_stableCmpFuncint.pr : List (Option Row) := [some ⟨0, false, false, .arr 3 (.int .i64) []⟩, some ⟨0, false, true, .one (.int .i64) (Sh.dflt _)⟩, some ⟨0, false, true, .one (.sl (.int .i64)) []⟩, some ⟨0, false, true, .one (.int .i64) (Sh.dflt _)⟩]
def slices_stableCmpFuncint.c {R : Type} (F : Nat) (args : List V) (rows : List (Option Row)) (K : List V → List (Option Row) → Option R) : Option R := decl slices_stableCmpFuncint.pa args fun x => decr slices_stableCmpFuncint.pr rows fun y => slices_stableCmpFuncint.k F x.2.1 y.1 y.2.1 y.2.2.1 y.2.2.2.1 (fun r0 r1 r2 r3 => K [] [some ⟨0, false, false, .arr 3 (.int .i64) r0⟩, some ⟨0, false, true, .one (.int .i64) r1⟩, some ⟨0, false, true, .one (.sl (.int .i64)) r2⟩, some ⟨0, false, true, .one (.int .i64) r3⟩])
theorem slices_stableCmpFuncint_eq {R : Type} (F : Nat) (a0 : Int) (a1 : (List Int)) (a2 : Int) (a3 : (List Int)) (a4 : Int) (K : List V → List (Option Row) → Option R) : slices_stableCmpFuncint.k F a0 a1 a2 a3 a4 (fun r0 r1 r2 r3 => K [] [some ⟨0, false, false, .arr 3 (.int .i64) r0⟩, some ⟨0, false, true, .one (.int .i64) r1⟩, some ⟨0, false, true, .one (.sl (.int .i64)) r2⟩, some ⟨0, false, true, .one (.int .i64) r3⟩]) = evFn (slices_stableCmpFuncint.X F) Go.Proofs.Try.f50.results.toList rms50 (bodyC Go.Proofs.Try.f50) ac50 (encl slices_stableCmpFuncint.pa ((), (a0, (((), ((), ((), ((), ())))), ())))) (encr slices_stableCmpFuncint.pr (a1, (a2, (a3, (a4, ()))))) K := by kernel_rfl
theorem slices_stableCmpFuncint.cs {R : Type} (F : Nat) : CsOk (R := R) Try.prog (slices_stableCmpFuncint.C F) := (CsOk.cons (slices_insertionSortCmpFuncint.ok F) (CsOk.cons (symMerge.ok F) CsOk.nil))
theorem slices_stableCmpFuncint.tb {R : Type} (F : Nat) : TblOk (R := R) Try.prog (slices_stableCmpFuncint.X F) Try.f50.ntmps (bodyC Try.f50) tb50 := (TblOk.loop (i := 1) (p := [1, 1, 1, 1, 0]) (c := subC [1, 1, 1, 1, 0, 0] (bodyC Try.f50)) (F := F) (live := [0, 1, 2, 6]) (co := []) (ac := ac50_1) baseT (slices_stableCmpFuncint.cs F) (slices_stableCmpFuncint.l1_L F) (by kernel_rfl) (by kernel_rfl) (fun _ _ _ _ => dec_zero) (fun k => dec_or fun x kn ex kr => slices_stableCmpFuncint.l1_eq F k x.1.2.1 x.1.2.2.2.1 x.2.1 x.2.2.1 x.2.2.2.1 x.2.2.2.2.1 kn ex kr) (fun _ _ _ _ => rfl) (TblOk.loop (i := 2) (p := [1, 1, 1, 1, 0, 0, 1, 0, 1, 0, 0]) (c := subC [1, 1, 1, 1, 0, 0, 1, 0, 1, 0, 0, 0] (bodyC Try.f50)) (F := F) (live := [0, 1, 2, 6, 7, 8]) (co := []) (ac := ac50_2) baseT (slices_stableCmpFuncint.cs F) (slices_stableCmpFuncint.l2_L F) (by kernel_rfl) (by kernel_rfl) (fun _ _ _ _ => dec_zero) (fun k => dec_or fun x kn ex kr => slices_stableCmpFuncint.l2_eq F k x.1.2.1 x.1.2.2.2.1 x.1.2.2.2.2.1 x.1.2.2.2.2.2.1 x.2.1 x.2.2.1 x.2.2.2.1 x.2.2.2.2.1 kn ex kr) (fun _ _ _ _ => rfl) (TblOk.loop (i := 0) (p := [1, 1, 0, 0]) (c := subC [1, 1, 0, 0, 0] (bodyC Try.f50)) (F := F) (live := [0, 1, 2, 6, 7, 8]) (co := []) (ac := ac50_0) baseT (slices_stableCmpFuncint.cs F) (slices_stableCmpFuncint.l0_L F) (by kernel_rfl) (by kernel_rfl) (fun _ _ _ _ => dec_zero) (fun k => dec_or fun x kn ex kr => slices_stableCmpFuncint.l0_eq F k x.1.2.1 x.1.2.2.2.1 x.1.2.2.2.2.1 x.1.2.2.2.2.2.1 x.2.1 x.2.2.1 x.2.2.2.1 x.2.2.2.2.1 kn ex kr) (fun _ _ _ _ => rfl) TblOk.nil)))
theorem slices_stableCmpFuncint.ok {R : Type} (F : Nat) : FnOk (R := R) Try.prog 50 (slices_stableCmpFuncint.c F) := fnP_ok (X := slices_stableCmpFuncint.X F) baseT (slices_stableCmpFuncint.cs F) Try.func50 (by kernel_rfl) (slices_stableCmpFuncint.tb F) (ac := ac50) (rms := rms50) (by kernel_rfl) (pa := slices_stableCmpFuncint.pa) (pr := slices_stableCmpFuncint.pr) (by kernel_rfl) (fun x y K => slices_stableCmpFuncint_eq F x.2.1 y.1 y.2.1 y.2.2.1 y.2.2.2.1 K)
def slices_SortStableFuncintint.k {R : Type} (F : Nat) (a0 : (List Int)) (a1 : Int) (a2 : (List Int)) (a3 : Int) (K : ((List Int) → Int → (List Int) → Int → Option R)) : Option R := (slices_stableCmpFuncint.k F ((↑(List.length a0) : Int)) a0 a1 a2 a3 (fun r4 r5 r6 r7 => (K r4 r5 r6 r7)))
def slices_SortStableFuncintint.C {R : Type} (F : Nat) : FuncId → List V → List (Option Row) → (List V → List (Option Row) → Option R) → Option R := fun g args rows K => cnd (Nat.beq g 50) (slices_stableCmpFuncint.c F args rows K) (none)
def slices_SortStableFuncintint.L {R : Type} (F : Nat) : Nat → St → (St → Option R) → List (Nat × (St → Option R)) → (St → Option R) → Option R := fun i s kn ex kr => none
def slices_SortStableFuncintint.X {R : Type} (F : Nat) : Ctx R := ⟨tyT, eqtT, sigT, fnOkT, slices_SortStableFuncintint.C F, slices_SortStableFuncintint.L F⟩
def slices_SortStableFuncintint.pa : List V := [(.own 0 0), (.fn 35 .lnil (.lcons (.ptr 1 0 0 0) (.lcons (.ptr 2 0 0 0) (.lcons (.ptr 3 0 0 0) .lnil))))]
def slices_SortStableFuncintint.pr : List (Option Row) := [some ⟨0, false, false, .arr 3 (.int .i64) []⟩, some ⟨0, false, true, .one (.int .i64) (Sh.dflt _)⟩, some ⟨0, false, true, .one (.sl (.int .i64)) []⟩, some ⟨0, false, true, .one (.int .i64) (Sh.dflt _)⟩]
def slices_SortStableFuncintint.c {R : Type} (F : Nat) (args : List V) (rows : List (Option Row)) (K : List V → List (Option Row) → Option R) : Option R := decl slices_SortStableFuncintint.pa args fun x => decr slices_SortStableFuncintint.pr rows fun y => slices_SortStableFuncintint.k F y.1 y.2.1 y.2.2.1 y.2.2.2.1 (fun r0 r1 r2 r3 => K [] [some ⟨0, false, false, .arr 3 (.int .i64) r0⟩, some ⟨0, false, true, .one (.int .i64) r1⟩, some ⟨0, false, true, .one (.sl (.int .i64)) r2⟩, some ⟨0, false, true, .one (.int .i64) r3⟩])
theorem slices_SortStableFuncintint_eq {R : Type} (F : Nat) (a0 : (List Int)) (a1 : Int) (a2 : (List Int)) (a3 : Int) (K : List V → List (Option Row) → Option R) : slices_SortStableFuncintint.k F a0 a1 a2 a3 (fun r0 r1 r2 r3 => K [] [some ⟨0, false, false, .arr 3 (.int .i64) r0⟩, some ⟨0, false, true, .one (.int .i64) r1⟩, some ⟨0, false, true, .one (.sl (.int .i64)) r2⟩, some ⟨0, false, true, .one (.int .i64) r3⟩]) = evFn (slices_SortStableFuncintint.X F) Go.Proofs.Try.f34.results.toList rms34 (bodyC Go.Proofs.Try.f34) ac34 (encl slices_SortStableFuncintint.pa ((), (((), ((), ((), ((), ())))), ()))) (encr slices_SortStableFuncintint.pr (a0, (a1, (a2, (a3, ()))))) K := by kernel_rfl
theorem slices_SortStableFuncintint.cs {R : Type} (F : Nat) : CsOk (R := R) Try.prog (slices_SortStableFuncintint.C F) := (CsOk.cons (slices_stableCmpFuncint.ok F) CsOk.nil)
theorem slices_SortStableFuncintint.tb {R : Type} (F : Nat) : TblOk (R := R) Try.prog (slices_SortStableFuncintint.X F) Try.f34.ntmps (bodyC Try.f34) tb34 := TblOk.nil
theorem slices_SortStableFuncintint.ok {R : Type} (F : Nat) : FnOk (R := R) Try.prog 34 (slices_SortStableFuncintint.c F) := fnP_ok (X := slices_SortStableFuncintint.X F) baseT (slices_SortStableFuncintint.cs F) Try.func34 (by kernel_rfl) (slices_SortStableFuncintint.tb F) (ac := ac34) (rms := rms34) (by kernel_rfl) (pa := slices_SortStableFuncintint.pa) (pr := slices_SortStableFuncintint.pr) (by kernel_rfl) (fun x y K => slices_SortStableFuncintint_eq F y.1 y.2.1 y.2.2.1 y.2.2.2.1 K)
def rounding_Allocate.l0 {R : Type} (F : Nat) : Nat → (List Int) → Int → Int → Int → (List Int) → Int → (Int → Option R) → (Int → (List Int) → Int → Option R) → Option R
  | 0, _, _, _, _, _, _, _, _ => none
  | n + 1, x2, x3, x4, x5, x6, x7, KR, K0 => (cond (Decidable.decide (x4 < x3)) (cond (Decidable.decide (0 ≤ x4)) (cond (Decidable.decide (x4 < (↑(List.length x2) : Int))) (cond (Decidable.decide (List.getD x2 (Int.toNat x4) 0 < 0)) (KR 2) (cond (Decidable.decide (List.getD x2 (Int.toNat x4) 0 > 1000000000)) (KR 2) (rounding_Allocate.l0 F n x2 x3 (Go.IntKind.wrap Go.IntKind.i64 (x4 + 1)) x5 x6 (Go.IntKind.wrap Go.IntKind.i64 (x7 + List.getD x2 (Int.toNat x4) 0)) KR K0))) none) none) (K0 x5 x6 x7))
def rounding_Allocate.l0_p : St := ⟨[(2, (.ptr 0 0 0 0)), (3, (.ptr 1 0 0 0)), (6, (.ptr 2 0 0 0)), (27, (.val (.sl (.int .i64)) [])), (28, (.val (.int .i64) (Sh.dflt _))), (29, (.val (.int .i64) (Sh.dflt _)))], [some ⟨0, false, true, .one (.int .i64) (Sh.dflt _)⟩, some ⟨0, false, true, .one (.sl (.int .i64)) []⟩, some ⟨0, false, true, .one (.int .i64) (Sh.dflt _)⟩], 0⟩
def rounding_Allocate.l0_R : St := ⟨[(4, .nil), (5, (.val (.int .i64) (Sh.dflt _)))], [], 0⟩
def rounding_Allocate.l0_0 : St := ⟨[(2, (.ptr 0 0 0 0)), (3, (.ptr 1 0 0 0)), (6, (.ptr 2 0 0 0))], [some ⟨0, false, true, .one (.int .i64) (Sh.dflt _)⟩, some ⟨0, false, true, .one (.sl (.int .i64)) []⟩, some ⟨0, false, true, .one (.int .i64) (Sh.dflt _)⟩], 0⟩
def rounding_Allocate.l0_L {R : Type} (F n : Nat) (s : St) (kn : St → Option R) (ex : List (Nat × (St → Option R))) (kr : St → Option R) : Option R := rounding_Allocate.l0_p.dec s fun y => rounding_Allocate.l0 F n y.1.2.2.2.1 y.1.2.2.2.2.1 y.1.2.2.2.2.2.1 y.2.1 y.2.2.1 y.2.2.2.1 (fun v0 => kr (rounding_Allocate.l0_R.enc (((), (v0, ())), ()))) (fun v0 v1 v2 => exitK ex 0 (rounding_Allocate.l0_0.enc (((), ((), ((), ()))), (v0, (v1, (v2, ()))))))
def rounding_Allocate.j0 {R : Type} (F : Nat) (x15 : Int) (x16 : Int) (x17 : (List Int)) (x18 : Int) (KN : (Int → Int → (List Int) → Int → Option R)) : Option R := (cond (Decidable.decide (x16 < 0)) (KN (-1) (Go.IntKind.wrap Go.IntKind.i64 (0 - x16)) x17 x18) (KN x15 x16 x17 x18))
def rounding_Allocate.j0_p : St := ⟨[(2, (.ptr 0 0 0 0)), (3, (.ptr 1 0 0 0)), (6, (.ptr 2 0 0 0)), (9, (.val (.int .i64) (Sh.dflt _)))], [some ⟨0, false, true, .one (.int .i64) (Sh.dflt _)⟩, some ⟨0, false, true, .one (.sl (.int .i64)) []⟩, some ⟨0, false, true, .one (.int .i64) (Sh.dflt _)⟩], 0⟩
def rounding_Allocate.j0_N : St := ⟨[(2, (.ptr 0 0 0 0)), (3, (.ptr 1 0 0 0)), (6, (.ptr 2 0 0 0)), (9, (.val (.int .i64) (Sh.dflt _)))], [some ⟨0, false, true, .one (.int .i64) (Sh.dflt _)⟩, some ⟨0, false, true, .one (.sl (.int .i64)) []⟩, some ⟨0, false, true, .one (.int .i64) (Sh.dflt _)⟩], 0⟩
def rounding_Allocate.j0_L {R : Type} (F : Nat) (s : St) (kn : St → Option R) (ex : List (Nat × (St → Option R))) (kr : St → Option R) : Option R := rounding_Allocate.j0_p.dec s fun y => rounding_Allocate.j0 F y.1.2.2.2.1 y.2.1 y.2.2.1 y.2.2.2.1 (fun v0 v1 v2 v3 => kn (rounding_Allocate.j0_N.enc (((), ((), ((), (v0, ())))), (v1, (v2, (v3, ()))))))
def rounding_Allocate.l1 {R : Type} (F : Nat) : Nat → Int → Int → (List Int) → Int → Int → Int → (List Int) → Int → (List Int) → (List Int) → (Int → Int → Int → (List Int) → Int → (List Int) → (List Int) → Option R) → Option R
  | 0, _, _, _, _, _, _, _, _, _, _, _ => none
  | n + 1, x25, x26, x27, x28, x29, x30, x31, x32, x33, x34, K2 => (cond (Decidable.decide (x29 < x28)) (cond (Decidable.decide (0 ≤ x29)) (cond (Decidable.decide (x29 < (↑(List.length x27) : Int))) (cond (Decidable.decide (x32 = 0)) none (cond (Decidable.decide (0 ≤ x29)) (cond (Decidable.decide (x29 < (↑(List.length x33) : Int))) (cond (Decidable.decide (0 ≤ x29)) (cond (Decidable.decide (x29 < (↑(List.length x34) : Int))) (cond (Decidable.decide (0 ≤ x29)) (cond (Decidable.decide (x29 < (↑(List.length (List.set x33 (Int.toNat x29) (Go.IntKind.wrap Go.IntKind.i64 (Int.tdiv (Go.IntKind.wrap Go.IntKind.i64 (x30 * List.getD x27 (Int.toNat x29) 0)) x32)))) : Int))) (rounding_Allocate.l1 F n x25 (Go.IntKind.wrap Go.IntKind.i64 (x26 - List.getD (List.set x33 (Int.toNat x29) (Go.IntKind.wrap Go.IntKind.i64 (Int.tdiv (Go.IntKind.wrap Go.IntKind.i64 (x30 * List.getD x27 (Int.toNat x29) 0)) x32))) (Int.toNat x29) 0)) x27 x28 (Go.IntKind.wrap Go.IntKind.i64 (x29 + 1)) x30 x31 x32 (List.set x33 (Int.toNat x29) (Go.IntKind.wrap Go.IntKind.i64 (Int.tdiv (Go.IntKind.wrap Go.IntKind.i64 (x30 * List.getD x27 (Int.toNat x29) 0)) x32))) (List.set x34 (Int.toNat x29) x29) K2) none) none) none) none) none) none)) none) none) (K2 x25 x26 x30 x31 x32 x33 x34))
def rounding_Allocate.l1_p : St := ⟨[(2, (.ptr 0 0 0 0)), (3, (.ptr 1 0 0 0)), (6, (.ptr 2 0 0 0)), (9, (.val (.int .i64) (Sh.dflt _))), (10, (.own 3 0)), (11, (.own 4 0)), (12, (.val (.int .i64) (Sh.dflt _))), (56, (.val (.sl (.int .i64)) [])), (57, (.val (.int .i64) (Sh.dflt _))), (58, (.val (.int .i64) (Sh.dflt _)))], [some ⟨0, false, true, .one (.int .i64) (Sh.dflt _)⟩, some ⟨0, false, true, .one (.sl (.int .i64)) []⟩, some ⟨0, false, true, .one (.int .i64) (Sh.dflt _)⟩, some ⟨0, false, true, .arr 3 (.int .i64) []⟩, some ⟨0, false, true, .arr 3 (.int .i64) []⟩], 0⟩
def rounding_Allocate.l1_2 : St := ⟨[(2, (.ptr 0 0 0 0)), (3, (.ptr 1 0 0 0)), (6, (.ptr 2 0 0 0)), (9, (.val (.int .i64) (Sh.dflt _))), (10, (.own 3 0)), (11, (.own 4 0)), (12, (.val (.int .i64) (Sh.dflt _)))], [some ⟨0, false, true, .one (.int .i64) (Sh.dflt _)⟩, some ⟨0, false, true, .one (.sl (.int .i64)) []⟩, some ⟨0, false, true, .one (.int .i64) (Sh.dflt _)⟩, some ⟨0, false, true, .arr 3 (.int .i64) []⟩, some ⟨0, false, true, .arr 3 (.int .i64) []⟩], 0⟩
def rounding_Allocate.l1_L {R : Type} (F n : Nat) (s : St) (kn : St → Option R) (ex : List (Nat × (St → Option R))) (kr : St → Option R) : Option R := rounding_Allocate.l1_p.dec s fun y => rounding_Allocate.l1 F n y.1.2.2.2.1 y.1.2.2.2.2.2.2.1 y.1.2.2.2.2.2.2.2.1 y.1.2.2.2.2.2.2.2.2.1 y.1.2.2.2.2.2.2.2.2.2.1 y.2.1 y.2.2.1 y.2.2.2.1 y.2.2.2.2.1 y.2.2.2.2.2.1 (fun v0 v1 v2 v3 v4 v5 v6 => exitK ex 2 (rounding_Allocate.l1_2.enc (((), ((), ((), (v0, ((), ((), (v1, ()))))))), (v2, (v3, (v4, (v5, (v6, ()))))))))
def rounding_Allocate.l2 {R : Type} (F : Nat) : Nat → Int → Nat → Nat → Int → Int → (List Int) → (List Int) → (Int → (List Int) → Option R) → Option R
  | 0, _, _, _, _, _, _, _, _ => none
  | n + 1, x49, x50, x51, x52, x53, x54, x55, K4 => (cond (Decidable.decide (x53 < x52)) (cond (Decidable.decide (0 ≤ x53)) (cond (Decidable.decide (x53 < (↑x51 : Int))) (cond (Decidable.decide (0 ≤ List.getD x55 (x50 + Int.toNat x53) 0)) (cond (Decidable.decide (List.getD x55 (x50 + Int.toNat x53) 0 < (↑(List.length x54) : Int))) (cond (Decidable.decide (0 ≤ List.getD x55 (x50 + Int.toNat x53) 0)) (cond (Decidable.decide (List.getD x55 (x50 + Int.toNat x53) 0 < (↑(List.length x54) : Int))) (rounding_Allocate.l2 F n x49 x50 x51 x52 (Go.IntKind.wrap Go.IntKind.i64 (x53 + 1)) (List.set x54 (Int.toNat (List.getD x55 (x50 + Int.toNat x53) 0)) (Go.IntKind.wrap Go.IntKind.i64 (List.getD x54 (Int.toNat (List.getD x55 (x50 + Int.toNat x53) 0)) 0 + 1))) x55 K4) none) none) none) none) none) none) (K4 x49 x54))
def rounding_Allocate.l2_p : St := ⟨[(9, (.val (.int .i64) (Sh.dflt _))), (10, (.own 0 0)), (87, (.sub 1 0 0 0)), (88, (.val (.int .i64) (Sh.dflt _))), (89, (.val (.int .i64) (Sh.dflt _)))], [some ⟨0, false, true, .arr 3 (.int .i64) []⟩, some ⟨0, false, true, .arr 3 (.int .i64) []⟩], 0⟩
def rounding_Allocate.l2_4 : St := ⟨[(9, (.val (.int .i64) (Sh.dflt _))), (10, (.own 0 0))], [some ⟨0, false, true, .arr 3 (.int .i64) []⟩], 0⟩
def rounding_Allocate.l2_L {R : Type} (F n : Nat) (s : St) (kn : St → Option R) (ex : List (Nat × (St → Option R))) (kr : St → Option R) : Option R := rounding_Allocate.l2_p.dec s fun y => rounding_Allocate.l2 F n y.1.1 y.1.2.2.1.1 y.1.2.2.1.2 y.1.2.2.2.1 y.1.2.2.2.2.1 y.2.1 y.2.2.1 (fun v0 v1 => exitK ex 4 (rounding_Allocate.l2_4.enc ((v0, ((), ())), (v1, ()))))
def rounding_Allocate.l3 {R : Type} (F : Nat) : Nat → Int → Int → Int → (List Int) → ((List Int) → Option R) → Option R
  | 0, _, _, _, _, _ => none
  | n + 1, x61, x62, x63, x64, K6 => (cond (Decidable.decide (x63 < x62)) (cond (Decidable.decide (0 ≤ x63)) (cond (Decidable.decide (x63 < (↑(List.length x64) : Int))) (cond (Decidable.decide (0 ≤ x63)) (cond (Decidable.decide (x63 < (↑(List.length x64) : Int))) (rounding_Allocate.l3 F n x61 x62 (Go.IntKind.wrap Go.IntKind.i64 (x63 + 1)) (List.set x64 (Int.toNat x63) (Go.IntKind.wrap Go.IntKind.i64 (List.getD x64 (Int.toNat x63) 0 * x61))) K6) none) none) none) none) (K6 x64))
def rounding_Allocate.l3_p : St := ⟨[(9, (.val (.int .i64) (Sh.dflt _))), (10, (.own 0 0)), (101, (.val (.int .i64) (Sh.dflt _))), (102, (.val (.int .i64) (Sh.dflt _)))], [some ⟨0, false, true, .arr 3 (.int .i64) []⟩], 0⟩
def rounding_Allocate.l3_6 : St := ⟨[(10, (.own 0 0))], [some ⟨0, false, true, .arr 3 (.int .i64) []⟩], 0⟩
def rounding_Allocate.l3_L {R : Type} (F n : Nat) (s : St) (kn : St → Option R) (ex : List (Nat × (St → Option R))) (kr : St → Option R) : Option R := rounding_Allocate.l3_p.dec s fun y => rounding_Allocate.l3 F n y.1.1 y.1.2.2.1 y.1.2.2.2.1 y.2.1 (fun v0 => exitK ex 6 (rounding_Allocate.l3_6.enc (((), ()), (v0, ()))))
def rounding_Allocate.k {R : Type} (F : Nat) (a0 : Int) (a1 : (List Int)) (K : (Int → (List Int) → Option R)) : Option R := (cond (Decidable.decide ((↑(List.length a1) : Int) > 1024)) (K 3 ([])) (cond (Decidable.decide (a0 < -1000000000)) (K 2 ([])) (cond (Decidable.decide (a0 > 1000000000)) (K 2 ([])) (rounding_Allocate.l0 F F a1 ((↑(List.length a1) : Int)) 0 a0 a1 0 (fun v11 => (K v11 ([]))) (fun v12 v13 v14 => (cond (Decidable.decide (v14 = 0)) (K 5 ([])) (rounding_Allocate.j0 F 1 v12 v13 v14 (fun v21 v22 v23 v24 => (cond (Decidable.decide (0 ≤ (↑(List.length v23) : Int))) (cond (Decidable.decide ((↑(List.length v23) : Int) ≤ (↑(List.length v23) : Int))) (cond (Go.Proofs.Ytcipegkeoheikaa.Dx.lim 8 (Int.toNat (↑(List.length v23) : Int))) (cond (Decidable.decide (0 ≤ (↑(List.length v23) : Int))) (cond (Decidable.decide ((↑(List.length v23) : Int) ≤ (↑(List.length v23) : Int))) (cond (Go.Proofs.Ytcipegkeoheikaa.Dx.lim 8 (Int.toNat (↑(List.length v23) : Int))) (rounding_Allocate.l1 F F v21 v22 v23 ((↑(List.length v23) : Int)) 0 v22 v23 v24 (List.replicate (Int.toNat (↑(List.length v23) : Int)) 0) (List.replicate (Int.toNat (↑(List.length v23) : Int)) 0) (fun v38 v39 v40 v41 v42 v43 v44 => (slices_SortStableFuncintint.k F v44 v40 v41 v42 (fun r45 r46 r47 r48 => (cond (Decidable.decide (0 ≤ v39)) (cond (Decidable.decide (v39 ≤ (↑(List.length r45) : Int))) (rounding_Allocate.l2 F F v38 0 (Int.toNat v39 - 0) ((↑(Int.toNat v39 - 0) : Int)) 0 v43 r45 (fun v59 v60 => (rounding_Allocate.l3 F F v59 ((↑(List.length v60) : Int)) 0 v60 (fun v68 => (K 0 v68))))) none) none))))) none) none) none) none) none) none)))))))))
def rounding_Allocate.C {R : Type} (F : Nat) : FuncId → List V → List (Option Row) → (List V → List (Option Row) → Option R) → Option R := fun g args rows K => cnd (Nat.beq g 34) (slices_SortStableFuncintint.c F args rows K) (none)
def rounding_Allocate.L {R : Type} (F : Nat) : Nat → St → (St → Option R) → List (Nat × (St → Option R)) → (St → Option R) → Option R := fun i s kn ex kr => cnd (Nat.beq i 0) (rounding_Allocate.l0_L F F s kn ex kr) (cnd (Nat.beq i 1) (rounding_Allocate.j0_L F s kn ex kr) (cnd (Nat.beq i 2) (rounding_Allocate.l1_L F F s kn ex kr) (cnd (Nat.beq i 3) (rounding_Allocate.l2_L F F s kn ex kr) (cnd (Nat.beq i 4) (rounding_Allocate.l3_L F F s kn ex kr) (none)))))
def rounding_Allocate.X {R : Type} (F : Nat) : Ctx R := ⟨tyT, eqtT, sigT, fnOkT, rounding_Allocate.C F, rounding_Allocate.L F⟩
theorem rounding_Allocate.l0_eq {R : Type} (F n : Nat) (x2 : (List Int)) (x3 : Int) (x4 : Int) (x5 : Int) (x6 : (List Int)) (x7 : Int) (kn : St → Option R) (ex : List (Nat × (St → Option R))) (kr : St → Option R) : rounding_Allocate.l0 F (n + 1) x2 x3 x4 x5 x6 x7 (fun v0 => kr (rounding_Allocate.l0_R.enc (((), (v0, ())), ()))) (fun v0 v1 v2 => exitK ex 0 (rounding_Allocate.l0_0.enc (((), ((), ((), ()))), (v0, (v1, (v2, ())))))) = ev (rounding_Allocate.X F) (subC [1, 1, 1, 1, 0, 1, 0, 0] (bodyC Go.Proofs.Try.f15)) ac15_0 (fun s => canonK [2, 3, 6, 27, 28, 29] [] s fun s' => rounding_Allocate.l0_L F n s' kn ex kr) ex kr (rounding_Allocate.l0_p.enc (((), ((), ((), (x2, (x3, (x4, ())))))), (x5, (x6, (x7, ()))))) := by kernel_rfl
theorem rounding_Allocate.j0_eq {R : Type} (F : Nat) (x15 : Int) (x16 : Int) (x17 : (List Int)) (x18 : Int) (kn : St → Option R) (ex : List (Nat × (St → Option R))) (kr : St → Option R) : rounding_Allocate.j0 F x15 x16 x17 x18 (fun v0 v1 v2 v3 => kn (rounding_Allocate.j0_N.enc (((), ((), ((), (v0, ())))), (v1, (v2, (v3, ())))))) = ev (rounding_Allocate.X F) (subC [1, 1, 1, 1, 1, 1, 1, 0] (bodyC Go.Proofs.Try.f15)) ac15_1 (fun s => canonK [2, 3, 6, 9] [] s kn) ex kr (rounding_Allocate.j0_p.enc (((), ((), ((), (x15, ())))), (x16, (x17, (x18, ()))))) := by kernel_rfl
theorem rounding_Allocate.l1_eq {R : Type} (F n : Nat) (x25 : Int) (x26 : Int) (x27 : (List Int)) (x28 : Int) (x29 : Int) (x30 : Int) (x31 : (List Int)) (x32 : Int) (x33 : (List Int)) (x34 : (List Int)) (kn : St → Option R) (ex : List (Nat × (St → Option R))) (kr : St → Option R) : rounding_Allocate.l1 F (n + 1) x25 x26 x27 x28 x29 x30 x31 x32 x33 x34 (fun v0 v1 v2 v3 v4 v5 v6 => exitK ex 2 (rounding_Allocate.l1_2.enc (((), ((), ((), (v0, ((), ((), (v1, ()))))))), (v2, (v3, (v4, (v5, (v6, ())))))))) = ev (rounding_Allocate.X F) (subC [1, 1, 1, 1, 1, 1, 1, 1, 1, 1, 0, 1, 0, 0] (bodyC Go.Proofs.Try.f15)) ac15_2 (fun s => canonK [2, 3, 6, 9, 10, 11, 12, 56, 57, 58] [] s fun s' => rounding_Allocate.l1_L F n s' kn ex kr) ex kr (rounding_Allocate.l1_p.enc (((), ((), ((), (x25, ((), ((), (x26, (x27, (x28, (x29, ())))))))))), (x30, (x31, (x32, (x33, (x34, ()))))))) := by kernel_rfl
theorem rounding_Allocate.l2_eq {R : Type} (F n : Nat) (x49 : Int) (x50 : Nat) (x51 : Nat) (x52 : Int) (x53 : Int) (x54 : (List Int)) (x55 : (List Int)) (kn : St → Option R) (ex : List (Nat × (St → Option R))) (kr : St → Option R) : rounding_Allocate.l2 F (n + 1) x49 x50 x51 x52 x53 x54 x55 (fun v0 v1 => exitK ex 4 (rounding_Allocate.l2_4.enc ((v0, ((), ())), (v1, ())))) = ev (rounding_Allocate.X F) (subC [1, 1, 1, 1, 1, 1, 1, 1, 1, 1, 1, 1, 0, 1, 0, 0] (bodyC Go.Proofs.Try.f15)) ac15_3 (fun s => canonK [9, 10, 87, 88, 89] [] s fun s' => rounding_Allocate.l2_L F n s' kn ex kr) ex kr (rounding_Allocate.l2_p.enc ((x49, ((), ((x50, x51), (x52, (x53, ()))))), (x54, (x55, ())))) := by kernel_rfl
theorem rounding_Allocate.l3_eq {R : Type} (F n : Nat) (x61 : Int) (x62 : Int) (x63 : Int) (x64 : (List Int)) (kn : St → Option R) (ex : List (Nat × (St → Option R))) (kr : St → Option R) : rounding_Allocate.l3 F (n + 1) x61 x62 x63 x64 (fun v0 => exitK ex 6 (rounding_Allocate.l3_6.enc (((), ()), (v0, ())))) = ev (rounding_Allocate.X F) (subC [1, 1, 1, 1, 1, 1, 1, 1, 1, 1, 1, 1, 1, 0, 1, 0, 0] (bodyC Go.Proofs.Try.f15)) ac15_4 (fun s => canonK [9, 10, 101, 102] [] s fun s' => rounding_Allocate.l3_L F n s' kn ex kr) ex kr (rounding_Allocate.l3_p.enc ((x61, ((), (x62, (x63, ())))), (x64, ()))) := by kernel_rfl
def rounding_Allocate.pa : List V := [(.val (.int .i64) (Sh.dflt _)), (.val (.sl (.int .i64)) [])]
def rounding_Allocate.pr : List (Option Row) := []
def rounding_Allocate.c {R : Type} (F : Nat) (args : List V) (rows : List (Option Row)) (K : List V → List (Option Row) → Option R) : Option R := decl rounding_Allocate.pa args fun x => decr rounding_Allocate.pr rows fun y => rounding_Allocate.k F x.1 x.2.1 (fun r0 r1 => K [(.own 0 0), (.val (.int .i64) r0)] [some ⟨0, false, true, .arr 3 (.int .i64) r1⟩])
theorem rounding_Allocate_eq {R : Type} (F : Nat) (a0 : Int) (a1 : (List Int)) (K : List V → List (Option Row) → Option R) : rounding_Allocate.k F a0 a1 (fun r0 r1 => K [(.own 0 0), (.val (.int .i64) r0)] [some ⟨0, false, true, .arr 3 (.int .i64) r1⟩]) = evFn (rounding_Allocate.X F) Go.Proofs.Try.f15.results.toList rms15 (bodyC Go.Proofs.Try.f15) ac15 (encl rounding_Allocate.pa (a0, (a1, ()))) (encr rounding_Allocate.pr ()) K := by kernel_rfl
theorem rounding_Allocate.cs {R : Type} (F : Nat) : CsOk (R := R) Try.prog (rounding_Allocate.C F) := (CsOk.cons (slices_SortStableFuncintint.ok F) CsOk.nil)
theorem rounding_Allocate.tb {R : Type} (F : Nat) : TblOk (R := R) Try.prog (rounding_Allocate.X F) Try.f15.ntmps (bodyC Try.f15) tb15 := (TblOk.loop (i := 4) (p := [1, 1, 1, 1, 1, 1, 1, 1, 1, 1, 1, 1, 1, 0, 1, 0]) (c := subC [1, 1, 1, 1, 1, 1, 1, 1, 1, 1, 1, 1, 1, 0, 1, 0, 0] (bodyC Try.f15)) (F := F) (live := [9, 10, 101, 102]) (co := []) (ac := ac15_4) baseT (rounding_Allocate.cs F) (rounding_Allocate.l3_L F) (by kernel_rfl) (by kernel_rfl) (fun _ _ _ _ => dec_zero) (fun k => dec_or fun x kn ex kr => rounding_Allocate.l3_eq F k x.1.1 x.1.2.2.1 x.1.2.2.2.1 x.2.1 kn ex kr) (fun _ _ _ _ => rfl) (TblOk.loop (i := 3) (p := [1, 1, 1, 1, 1, 1, 1, 1, 1, 1, 1, 1, 0, 1, 0]) (c := subC [1, 1, 1, 1, 1, 1, 1, 1, 1, 1, 1, 1, 0, 1, 0, 0] (bodyC Try.f15)) (F := F) (live := [9, 10, 87, 88, 89]) (co := []) (ac := ac15_3) baseT (rounding_Allocate.cs F) (rounding_Allocate.l2_L F) (by kernel_rfl) (by kernel_rfl) (fun _ _ _ _ => dec_zero) (fun k => dec_or fun x kn ex kr => rounding_Allocate.l2_eq F k x.1.1 x.1.2.2.1.1 x.1.2.2.1.2 x.1.2.2.2.1 x.1.2.2.2.2.1 x.2.1 x.2.2.1 kn ex kr) (fun _ _ _ _ => rfl) (TblOk.loop (i := 2) (p := [1, 1, 1, 1, 1, 1, 1, 1, 1, 1, 0, 1, 0]) (c := subC [1, 1, 1, 1, 1, 1, 1, 1, 1, 1, 0, 1, 0, 0] (bodyC Try.f15)) (F := F) (live := [2, 3, 6, 9, 10, 11, 12, 56, 57, 58]) (co := []) (ac := ac15_2) baseT (rounding_Allocate.cs F) (rounding_Allocate.l1_L F) (by kernel_rfl) (by kernel_rfl) (fun _ _ _ _ => dec_zero) (fun k => dec_or fun x kn ex kr => rounding_Allocate.l1_eq F k x.1.2.2.2.1 x.1.2.2.2.2.2.2.1 x.1.2.2.2.2.2.2.2.1 x.1.2.2.2.2.2.2.2.2.1 x.1.2.2.2.2.2.2.2.2.2.1 x.2.1 x.2.2.1 x.2.2.2.1 x.2.2.2.2.1 x.2.2.2.2.2.1 kn ex kr) (fun _ _ _ _ => rfl) (TblOk.behind (i := 1) (p := [1, 1, 1, 1, 1, 1, 1, 0]) (c := subC [1, 1, 1, 1, 1, 1, 1, 0] (bodyC Try.f15)) (live := [2, 3, 6, 9]) (co := []) (ac := ac15_1) baseT (rounding_Allocate.cs F) (rounding_Allocate.j0_L F) rfl (by kernel_rfl) (dec_or fun x kn ex kr => rounding_Allocate.j0_eq F x.1.2.2.2.1 x.2.1 x.2.2.1 x.2.2.2.1 kn ex kr) (fun _ _ _ _ => rfl) (TblOk.loop (i := 0) (p := [1, 1, 1, 1, 0, 1, 0]) (c := subC [1, 1, 1, 1, 0, 1, 0, 0] (bodyC Try.f15)) (F := F) (live := [2, 3, 6, 27, 28, 29]) (co := []) (ac := ac15_0) baseT (rounding_Allocate.cs F) (rounding_Allocate.l0_L F) (by kernel_rfl) (by kernel_rfl) (fun _ _ _ _ => dec_zero) (fun k => dec_or fun x kn ex kr => rounding_Allocate.l0_eq F k x.1.2.2.2.1 x.1.2.2.2.2.1 x.1.2.2.2.2.2.1 x.2.1 x.2.2.1 x.2.2.2.1 kn ex kr) (fun _ _ _ _ => rfl) TblOk.nil)))))
theorem rounding_Allocate.ok {R : Type} (F : Nat) : FnOk (R := R) Try.prog 15 (rounding_Allocate.c F) := fnP_ok (X := rounding_Allocate.X F) baseT (rounding_Allocate.cs F) Try.func15 (by kernel_rfl) (rounding_Allocate.tb F) (ac := ac15) (rms := rms15) (by kernel_rfl) (pa := rounding_Allocate.pa) (pr := rounding_Allocate.pr) (by kernel_rfl) (fun x y K => rounding_Allocate_eq F x.1 x.2.1 K)
def ratio_size.k {R : Type} (F : Nat) (a0 : Int) (K : (Int → Option R)) : Option R := (cond (Decidable.decide (a0 < 0)) (K (Go.IntKind.wrap Go.IntKind.u64 (0 - Go.IntKind.wrap Go.IntKind.u64 a0))) (K (Go.IntKind.wrap Go.IntKind.u64 a0)))
def ratio_size.C {R : Type} (F : Nat) : FuncId → List V → List (Option Row) → (List V → List (Option Row) → Option R) → Option R := fun g args rows K => none
def ratio_size.L {R : Type} (F : Nat) : Nat → St → (St → Option R) → List (Nat × (St → Option R)) → (St → Option R) → Option R := fun i s kn ex kr => none
def ratio_size.X {R : Type} (F : Nat) : Ctx R := ⟨tyT, eqtT, sigT, fnOkT, ratio_size.C F, ratio_size.L F⟩
def ratio_size.pa : List V := [(.val (.int .i64) (Sh.dflt _))]
def ratio_size.pr : List (Option Row) := []
def ratio_size.c {R : Type} (F : Nat) (args : List V) (rows : List (Option Row)) (K : List V → List (Option Row) → Option R) : Option R := decl ratio_size.pa args fun x => decr ratio_size.pr rows fun y => ratio_size.k F x.1 (fun r0 => K [(.val (.int .u64) r0)] [])
theorem ratio_size_eq {R : Type} (F : Nat) (a0 : Int) (K : List V → List (Option Row) → Option R) : ratio_size.k F a0 (fun r0 => K [(.val (.int .u64) r0)] []) = evFn (ratio_size.X F) Go.Proofs.Try.f53.results.toList rms53 (bodyC Go.Proofs.Try.f53) ac53 (encl ratio_size.pa (a0, ())) (encr ratio_size.pr ()) K := by kernel_rfl
theorem ratio_size.cs {R : Type} (F : Nat) : CsOk (R := R) Try.prog (ratio_size.C F) := CsOk.nil
theorem ratio_size.tb {R : Type} (F : Nat) : TblOk (R := R) Try.prog (ratio_size.X F) Try.f53.ntmps (bodyC Try.f53) tb53 := TblOk.nil
theorem ratio_size.ok {R : Type} (F : Nat) : FnOk (R := R) Try.prog 53 (ratio_size.c F) := fnP_ok (X := ratio_size.X F) baseT (ratio_size.cs F) Try.func53 (by kernel_rfl) (ratio_size.tb F) (ac := ac53) (rms := rms53) (by kernel_rfl) (pa := ratio_size.pa) (pr := ratio_size.pr) (by kernel_rfl) (fun x y K => ratio_size_eq F x.1 K)
def ratio_gcd.l0 {R : Type} (F : Nat) : Nat → Int → Int → (Int → Option R) → Option R
  | 0, _, _, _ => none
  | n + 1, x2, x3, K0 => (cond (!Decidable.decide (x2 = 0)) (cond (Decidable.decide (x2 = 0)) none (ratio_gcd.l0 F n (Int.tmod x3 x2) x2 K0)) (K0 x3))
def ratio_gcd.l0_p : St := ⟨[(0, (.val (.int .u64) (Sh.dflt _))), (1, (.val (.int .u64) (Sh.dflt _)))], [], 0⟩
def ratio_gcd.l0_0 : St := ⟨[(1, (.val (.int .u64) (Sh.dflt _)))], [], 0⟩
def ratio_gcd.l0_L {R : Type} (F n : Nat) (s : St) (kn : St → Option R) (ex : List (Nat × (St → Option R))) (kr : St → Option R) : Option R := ratio_gcd.l0_p.dec s fun y => ratio_gcd.l0 F n y.1.1 y.1.2.1 (fun v0 => exitK ex 0 (ratio_gcd.l0_0.enc ((v0, ()), ())))
def ratio_gcd.k {R : Type} (F : Nat) (a0 : Int) (a1 : Int) (K : (Int → Option R)) : Option R := (ratio_gcd.l0 F F a0 a1 (fun v7 => (K v7)))
def ratio_gcd.C {R : Type} (F : Nat) : FuncId → List V → List (Option Row) → (List V → List (Option Row) → Option R) → Option R := fun g args rows K => none
def ratio_gcd.L {R : Type} (F : Nat) : Nat → St → (St → Option R) → List (Nat × (St → Option R)) → (St → Option R) → Option R := fun i s kn ex kr => cnd (Nat.beq i 0) (ratio_gcd.l0_L F F s kn ex kr) (none)
def ratio_gcd.X {R : Type} (F : Nat) : Ctx R := ⟨tyT, eqtT, sigT, fnOkT, ratio_gcd.C F, ratio_gcd.L F⟩
theorem ratio_gcd.l0_eq {R : Type} (F n : Nat) (x2 : Int) (x3 : Int) (kn : St → Option R) (ex : List (Nat × (St → Option R))) (kr : St → Option R) : ratio_gcd.l0 F (n + 1) x2 x3 (fun v0 => exitK ex 0 (ratio_gcd.l0_0.enc ((v0, ()), ()))) = ev (ratio_gcd.X F) (subC [1, 0, 0, 0] (bodyC Go.Proofs.Try.f52)) ac52_0 (fun s => canonK [0, 1] [] s fun s' => ratio_gcd.l0_L F n s' kn ex kr) ex kr (ratio_gcd.l0_p.enc ((x2, (x3, ())), ())) := by kernel_rfl
def ratio_gcd.pa : List V := [(.val (.int .u64) (Sh.dflt _)), (.val (.int .u64) (Sh.dflt _))]
def ratio_gcd.pr : List (Option Row) := []
def ratio_gcd.c {R : Type} (F : Nat) (args : List V) (rows : List (Option Row)) (K : List V → List (Option Row) → Option R) : Option R := decl ratio_gcd.pa args fun x => decr ratio_gcd.pr rows fun y => ratio_gcd.k F x.1 x.2.1 (fun r0 => K [(.val (.int .u64) r0)] [])
theorem ratio_gcd_eq {R : Type} (F : Nat) (a0 : Int) (a1 : Int) (K : List V → List (Option Row) → Option R) : ratio_gcd.k F a0 a1 (fun r0 => K [(.val (.int .u64) r0)] []) = evFn (ratio_gcd.X F) Go.Proofs.Try.f52.results.toList rms52 (bodyC Go.Proofs.Try.f52) ac52 (encl ratio_gcd.pa (a0, (a1, ()))) (encr ratio_gcd.pr ()) K := by kernel_rfl
theorem ratio_gcd.cs {R : Type} (F : Nat) : CsOk (R := R) Try.prog (ratio_gcd.C F) := CsOk.nil
theorem ratio_gcd.tb {R : Type} (F : Nat) : TblOk (R := R) Try.prog (ratio_gcd.X F) Try.f52.ntmps (bodyC Try.f52) tb52 := (TblOk.loop (i := 0) (p := [1, 0, 0]) (c := subC [1, 0, 0, 0] (bodyC Try.f52)) (F := F) (live := [0, 1]) (co := []) (ac := ac52_0) baseT (ratio_gcd.cs F) (ratio_gcd.l0_L F) (by kernel_rfl) (by kernel_rfl) (fun _ _ _ _ => dec_zero) (fun k => dec_or fun x kn ex kr => ratio_gcd.l0_eq F k x.1.1 x.1.2.1 kn ex kr) (fun _ _ _ _ => rfl) TblOk.nil)
theorem ratio_gcd.ok {R : Type} (F : Nat) : FnOk (R := R) Try.prog 52 (ratio_gcd.c F) := fnP_ok (X := ratio_gcd.X F) baseT (ratio_gcd.cs F) Try.func52 (by kernel_rfl) (ratio_gcd.tb F) (ac := ac52) (rms := rms52) (by kernel_rfl) (pa := ratio_gcd.pa) (pr := ratio_gcd.pr) (by kernel_rfl) (fun x y K => ratio_gcd_eq F x.1 x.2.1 K)
def ratio_Valid.k {R : Type} (F : Nat) (a0 : (Int × (Int × Unit))) (K : (Bool → Option R)) : Option R := (cond (Decidable.decide (Prod.fst (Prod.snd a0) ≥ 1)) (cond (Decidable.decide (Prod.fst (Prod.snd a0) ≤ 1000000)) (cond (Decidable.decide (Prod.fst a0 ≥ -1000000000000)) (cond (Decidable.decide (Prod.fst a0 ≤ 1000000000000)) (ratio_size.k F (Prod.fst a0) (fun r1 => (ratio_size.k F (Prod.fst (Prod.snd a0)) (fun r2 => (ratio_gcd.k F r1 r2 (fun r3 => (K (Decidable.decide (r3 = 1))))))))) (K Bool.false)) (K Bool.false)) (K Bool.false)) (K Bool.false))
def ratio_Valid.C {R : Type} (F : Nat) : FuncId → List V → List (Option Row) → (List V → List (Option Row) → Option R) → Option R := fun g args rows K => cnd (Nat.beq g 53) (ratio_size.c F args rows K) (cnd (Nat.beq g 52) (ratio_gcd.c F args rows K) (none))
def ratio_Valid.L {R : Type} (F : Nat) : Nat → St → (St → Option R) → List (Nat × (St → Option R)) → (St → Option R) → Option R := fun i s kn ex kr => none
def ratio_Valid.X {R : Type} (F : Nat) : Ctx R := ⟨tyT, eqtT, sigT, fnOkT, ratio_Valid.C F, ratio_Valid.L F⟩
def ratio_Valid.pa : List V := [(.val (.pair (.int .i64) (.pair (.int .i64) .unit)) (Sh.dflt _))]
def ratio_Valid.pr : List (Option Row) := []
def ratio_Valid.c {R : Type} (F : Nat) (args : List V) (rows : List (Option Row)) (K : List V → List (Option Row) → Option R) : Option R := decl ratio_Valid.pa args fun x => decr ratio_Valid.pr rows fun y => ratio_Valid.k F x.1 (fun r0 => K [(.val .bool r0)] [])
theorem ratio_Valid_eq {R : Type} (F : Nat) (a0 : (Int × (Int × Unit))) (K : List V → List (Option Row) → Option R) : ratio_Valid.k F a0 (fun r0 => K [(.val .bool r0)] []) = evFn (ratio_Valid.X F) Go.Proofs.Try.f41.results.toList rms41 (bodyC Go.Proofs.Try.f41) ac41 (encl ratio_Valid.pa (a0, ())) (encr ratio_Valid.pr ()) K := by kernel_rfl
theorem ratio_Valid.cs {R : Type} (F : Nat) : CsOk (R := R) Try.prog (ratio_Valid.C F) := (CsOk.cons (ratio_size.ok F) (CsOk.cons (ratio_gcd.ok F) CsOk.nil))
theorem ratio_Valid.tb {R : Type} (F : Nat) : TblOk (R := R) Try.prog (ratio_Valid.X F) Try.f41.ntmps (bodyC Try.f41) tb41 := TblOk.nil
theorem ratio_Valid.ok {R : Type} (F : Nat) : FnOk (R := R) Try.prog 41 (ratio_Valid.c F) := fnP_ok (X := ratio_Valid.X F) baseT (ratio_Valid.cs F) Try.func41 (by kernel_rfl) (ratio_Valid.tb F) (ac := ac41) (rms := rms41) (by kernel_rfl) (pa := ratio_Valid.pa) (pr := ratio_Valid.pr) (by kernel_rfl) (fun x y K => ratio_Valid_eq F x.1 K)
def rounding_up.k {R : Type} (F : Nat) (a0 : Bool) (a1 : Int) (a2 : Int) (a3 : Int) (K : (Bool → Option R)) : Option R := (cond (Decidable.decide (a3 = 2)) (K Bool.false) (cond (Decidable.decide (a3 = 3)) (K Bool.true) (cond (Decidable.decide (a3 = 0)) (K (!a0)) (cond (Decidable.decide (a3 = 1)) (K a0) (cond (!Decidable.decide (a2 = 0)) (K (Decidable.decide (a2 > 0))) (cond (Decidable.decide (a3 = 4)) (K a0) (cond (Decidable.decide (a3 = 5)) (K (!a0)) (K (!Decidable.decide (Int.tmod a1 2 = 0))))))))))
def rounding_up.C {R : Type} (F : Nat) : FuncId → List V → List (Option Row) → (List V → List (Option Row) → Option R) → Option R := fun g args rows K => none
def rounding_up.L {R : Type} (F : Nat) : Nat → St → (St → Option R) → List (Nat × (St → Option R)) → (St → Option R) → Option R := fun i s kn ex kr => none
def rounding_up.X {R : Type} (F : Nat) : Ctx R := ⟨tyT, eqtT, sigT, fnOkT, rounding_up.C F, rounding_up.L F⟩
def rounding_up.pa : List V := [(.val .bool (Sh.dflt _)), (.val (.int .i64) (Sh.dflt _)), (.val (.int .i64) (Sh.dflt _)), (.val (.int .i64) (Sh.dflt _))]
def rounding_up.pr : List (Option Row) := []
def rounding_up.c {R : Type} (F : Nat) (args : List V) (rows : List (Option Row)) (K : List V → List (Option Row) → Option R) : Option R := decl rounding_up.pa args fun x => decr rounding_up.pr rows fun y => rounding_up.k F x.1 x.2.1 x.2.2.1 x.2.2.2.1 (fun r0 => K [(.val .bool r0)] [])
theorem rounding_up_eq {R : Type} (F : Nat) (a0 : Bool) (a1 : Int) (a2 : Int) (a3 : Int) (K : List V → List (Option Row) → Option R) : rounding_up.k F a0 a1 a2 a3 (fun r0 => K [(.val .bool r0)] []) = evFn (rounding_up.X F) Go.Proofs.Try.f51.results.toList rms51 (bodyC Go.Proofs.Try.f51) ac51 (encl rounding_up.pa (a0, (a1, (a2, (a3, ()))))) (encr rounding_up.pr ()) K := by kernel_rfl
theorem rounding_up.cs {R : Type} (F : Nat) : CsOk (R := R) Try.prog (rounding_up.C F) := CsOk.nil
theorem rounding_up.tb {R : Type} (F : Nat) : TblOk (R := R) Try.prog (rounding_up.X F) Try.f51.ntmps (bodyC Try.f51) tb51 := TblOk.nil
theorem rounding_up.ok {R : Type} (F : Nat) : FnOk (R := R) Try.prog 51 (rounding_up.c F) := fnP_ok (X := rounding_up.X F) baseT (rounding_up.cs F) Try.func51 (by kernel_rfl) (rounding_up.tb F) (ac := ac51) (rms := rms51) (by kernel_rfl) (pa := rounding_up.pa) (pr := rounding_up.pr) (by kernel_rfl) (fun x y K => rounding_up_eq F x.1 x.2.1 x.2.2.1 x.2.2.2.1 K)
def rounding_whole.k {R : Type} (F : Nat) (a0 : Int) (a1 : Int) (a2 : Int) (K : (Int → Option R)) : Option R := (cond (Decidable.decide (a1 = 0)) none (cond (Decidable.decide (a1 = 0)) none (cond (Decidable.decide (Int.tmod a0 a1 < 0)) (cond (Decidable.decide (Go.IntKind.wrap Go.IntKind.i64 (Int.tmod a0 a1 + a1) > 0)) (rounding_up.k F (Decidable.decide (a0 > 0)) (Go.IntKind.wrap Go.IntKind.i64 (Go.IntKind.wrap Go.IntKind.i64 (Int.tdiv a0 a1) - 1)) (Go.IntKind.wrap Go.IntKind.i64 (Go.IntKind.wrap Go.IntKind.i64 (2 * Go.IntKind.wrap Go.IntKind.i64 (Int.tmod a0 a1 + a1)) - a1)) a2 (fun r3 => (cond r3 (K (Go.IntKind.wrap Go.IntKind.i64 (Go.IntKind.wrap Go.IntKind.i64 (Go.IntKind.wrap Go.IntKind.i64 (Int.tdiv a0 a1) - 1) + 1))) (K (Go.IntKind.wrap Go.IntKind.i64 (Go.IntKind.wrap Go.IntKind.i64 (Int.tdiv a0 a1) - 1)))))) (K (Go.IntKind.wrap Go.IntKind.i64 (Go.IntKind.wrap Go.IntKind.i64 (Int.tdiv a0 a1) - 1)))) (cond (Decidable.decide (Int.tmod a0 a1 > 0)) (rounding_up.k F (Decidable.decide (a0 > 0)) (Go.IntKind.wrap Go.IntKind.i64 (Int.tdiv a0 a1)) (Go.IntKind.wrap Go.IntKind.i64 (Go.IntKind.wrap Go.IntKind.i64 (2 * Int.tmod a0 a1) - a1)) a2 (fun r4 => (cond r4 (K (Go.IntKind.wrap Go.IntKind.i64 (Go.IntKind.wrap Go.IntKind.i64 (Int.tdiv a0 a1) + 1))) (K (Go.IntKind.wrap Go.IntKind.i64 (Int.tdiv a0 a1)))))) (K (Go.IntKind.wrap Go.IntKind.i64 (Int.tdiv a0 a1)))))))
def rounding_whole.C {R : Type} (F : Nat) : FuncId → List V → List (Option Row) → (List V → List (Option Row) → Option R) → Option R := fun g args rows K => cnd (Nat.beq g 51) (rounding_up.c F args rows K) (none)
def rounding_whole.L {R : Type} (F : Nat) : Nat → St → (St → Option R) → List (Nat × (St → Option R)) → (St → Option R) → Option R := fun i s kn ex kr => none
def rounding_whole.X {R : Type} (F : Nat) : Ctx R := ⟨tyT, eqtT, sigT, fnOkT, rounding_whole.C F, rounding_whole.L F⟩
def rounding_whole.pa : List V := [(.val (.int .i64) (Sh.dflt _)), (.val (.int .i64) (Sh.dflt _)), (.val (.int .i64) (Sh.dflt _))]
def rounding_whole.pr : List (Option Row) := []
def rounding_whole.c {R : Type} (F : Nat) (args : List V) (rows : List (Option Row)) (K : List V → List (Option Row) → Option R) : Option R := decl rounding_whole.pa args fun x => decr rounding_whole.pr rows fun y => rounding_whole.k F x.1 x.2.1 x.2.2.1 (fun r0 => K [(.val (.int .i64) r0)] [])
theorem rounding_whole_eq {R : Type} (F : Nat) (a0 : Int) (a1 : Int) (a2 : Int) (K : List V → List (Option Row) → Option R) : rounding_whole.k F a0 a1 a2 (fun r0 => K [(.val (.int .i64) r0)] []) = evFn (rounding_whole.X F) Go.Proofs.Try.f38.results.toList rms38 (bodyC Go.Proofs.Try.f38) ac38 (encl rounding_whole.pa (a0, (a1, (a2, ())))) (encr rounding_whole.pr ()) K := by kernel_rfl
theorem rounding_whole.cs {R : Type} (F : Nat) : CsOk (R := R) Try.prog (rounding_whole.C F) := (CsOk.cons (rounding_up.ok F) CsOk.nil)
theorem rounding_whole.tb {R : Type} (F : Nat) : TblOk (R := R) Try.prog (rounding_whole.X F) Try.f38.ntmps (bodyC Try.f38) tb38 := TblOk.nil
theorem rounding_whole.ok {R : Type} (F : Nat) : FnOk (R := R) Try.prog 38 (rounding_whole.c F) := fnP_ok (X := rounding_whole.X F) baseT (rounding_whole.cs F) Try.func38 (by kernel_rfl) (rounding_whole.tb F) (ac := ac38) (rms := rms38) (by kernel_rfl) (pa := rounding_whole.pa) (pr := rounding_whole.pr) (by kernel_rfl) (fun x y K => rounding_whole_eq F x.1 x.2.1 x.2.2.1 K)
def ratio_New.k {R : Type} (F : Nat) (a0 : Int) (a1 : Int) (K : ((Int × (Int × Unit)) → Int → Option R)) : Option R := (cond (Decidable.decide (a1 = 0)) (K ((0, 0, ())) 5) (ratio_size.k F a0 (fun r2 => (ratio_size.k F a1 (fun r3 => (ratio_gcd.k F r2 r3 (fun r4 => (cond (Decidable.decide (r4 = 0)) none (cond (Decidable.decide (r4 = 0)) none (cond (Decidable.decide (Go.IntKind.wrap Go.IntKind.u64 (Int.tdiv r2 r4) > 1000000000000)) (K ((0, 0, ())) 4) (cond (Decidable.decide (Go.IntKind.wrap Go.IntKind.u64 (Int.tdiv r3 r4) > 1000000)) (K ((0, 0, ())) 4) (cond (!Decidable.decide (a0 < 0) == Decidable.decide (a1 < 0)) (K ((Go.IntKind.wrap Go.IntKind.i64 (0 - Go.IntKind.wrap Go.IntKind.i64 (Go.IntKind.wrap Go.IntKind.u64 (Int.tdiv r2 r4))), Go.IntKind.wrap Go.IntKind.i64 (Go.IntKind.wrap Go.IntKind.u64 (Int.tdiv r3 r4)), ())) 0) (K ((Go.IntKind.wrap Go.IntKind.i64 (Go.IntKind.wrap Go.IntKind.u64 (Int.tdiv r2 r4)), Go.IntKind.wrap Go.IntKind.i64 (Go.IntKind.wrap Go.IntKind.u64 (Int.tdiv r3 r4)), ())) 0)))))))))))))
def ratio_New.C {R : Type} (F : Nat) : FuncId → List V → List (Option Row) → (List V → List (Option Row) → Option R) → Option R := fun g args rows K => cnd (Nat.beq g 53) (ratio_size.c F args rows K) (cnd (Nat.beq g 52) (ratio_gcd.c F args rows K) (none))
def ratio_New.L {R : Type} (F : Nat) : Nat → St → (St → Option R) → List (Nat × (St → Option R)) → (St → Option R) → Option R := fun i s kn ex kr => none
def ratio_New.X {R : Type} (F : Nat) : Ctx R := ⟨tyT, eqtT, sigT, fnOkT, ratio_New.C F, ratio_New.L F⟩
def ratio_New.pa : List V := [(.val (.int .i64) (Sh.dflt _)), (.val (.int .i64) (Sh.dflt _))]
def ratio_New.pr : List (Option Row) := []
def ratio_New.c {R : Type} (F : Nat) (args : List V) (rows : List (Option Row)) (K : List V → List (Option Row) → Option R) : Option R := decl ratio_New.pa args fun x => decr ratio_New.pr rows fun y => ratio_New.k F x.1 x.2.1 (fun r0 r1 => K [(.val (.pair (.int .i64) (.pair (.int .i64) .unit)) r0), (.val (.int .i64) r1)] [])
theorem ratio_New_eq {R : Type} (F : Nat) (a0 : Int) (a1 : Int) (K : List V → List (Option Row) → Option R) : ratio_New.k F a0 a1 (fun r0 r1 => K [(.val (.pair (.int .i64) (.pair (.int .i64) .unit)) r0), (.val (.int .i64) r1)] []) = evFn (ratio_New.X F) Go.Proofs.Try.f42.results.toList rms42 (bodyC Go.Proofs.Try.f42) ac42 (encl ratio_New.pa (a0, (a1, ()))) (encr ratio_New.pr ()) K := by kernel_rfl
theorem ratio_New.cs {R : Type} (F : Nat) : CsOk (R := R) Try.prog (ratio_New.C F) := (CsOk.cons (ratio_size.ok F) (CsOk.cons (ratio_gcd.ok F) CsOk.nil))
theorem ratio_New.tb {R : Type} (F : Nat) : TblOk (R := R) Try.prog (ratio_New.X F) Try.f42.ntmps (bodyC Try.f42) tb42 := TblOk.nil
theorem ratio_New.ok {R : Type} (F : Nat) : FnOk (R := R) Try.prog 42 (ratio_New.c F) := fnP_ok (X := ratio_New.X F) baseT (ratio_New.cs F) Try.func42 (by kernel_rfl) (ratio_New.tb F) (ac := ac42) (rms := rms42) (by kernel_rfl) (pa := ratio_New.pa) (pr := ratio_New.pr) (by kernel_rfl) (fun x y K => ratio_New_eq F x.1 x.2.1 K)
def rounding_Round.k {R : Type} (F : Nat) (a0 : (Int × (Int × Unit))) (a1 : (Int × (Int × Unit))) (a2 : Int) (K : ((Int × (Int × Unit)) → Int → Option R)) : Option R := (ratio_Valid.k F a0 (fun r3 => (cond (!r3) (K ((0, 0, ())) 1) (ratio_Valid.k F a1 (fun r4 => (cond (!r4) (K ((0, 0, ())) 1) (cond (Decidable.decide (Prod.fst a1 ≤ 0)) (K ((0, 0, ())) 2) (cond (Decidable.decide (a2 < 0)) (K ((0, 0, ())) 2) (cond (Decidable.decide (a2 > 6)) (K ((0, 0, ())) 2) (rounding_whole.k F (Go.IntKind.wrap Go.IntKind.i64 (Prod.fst a0 * Prod.fst (Prod.snd a1))) (Go.IntKind.wrap Go.IntKind.i64 (Prod.fst (Prod.snd a0) * Prod.fst a1)) a2 (fun r5 => (ratio_New.k F (Go.IntKind.wrap Go.IntKind.i64 (r5 * Prod.fst a1)) (Prod.fst (Prod.snd a1)) (fun r6 r7 => (K ((Prod.fst r6, Prod.fst (Prod.snd r6), ())) r7))))))))))))))
def rounding_Round.C {R : Type} (F : Nat) : FuncId → List V → List (Option Row) → (List V → List (Option Row) → Option R) → Option R := fun g args rows K => cnd (Nat.beq g 41) (ratio_Valid.c F args rows K) (cnd (Nat.beq g 38) (rounding_whole.c F args rows K) (cnd (Nat.beq g 42) (ratio_New.c F args rows K) (none)))
def rounding_Round.L {R : Type} (F : Nat) : Nat → St → (St → Option R) → List (Nat × (St → Option R)) → (St → Option R) → Option R := fun i s kn ex kr => none
def rounding_Round.X {R : Type} (F : Nat) : Ctx R := ⟨tyT, eqtT, sigT, fnOkT, rounding_Round.C F, rounding_Round.L F⟩
def rounding_Round.pa : List V := [(.val (.pair (.int .i64) (.pair (.int .i64) .unit)) (Sh.dflt _)), (.val (.pair (.int .i64) (.pair (.int .i64) .unit)) (Sh.dflt _)), (.val (.int .i64) (Sh.dflt _))]
def rounding_Round.pr : List (Option Row) := []
def rounding_Round.c {R : Type} (F : Nat) (args : List V) (rows : List (Option Row)) (K : List V → List (Option Row) → Option R) : Option R := decl rounding_Round.pa args fun x => decr rounding_Round.pr rows fun y => rounding_Round.k F x.1 x.2.1 x.2.2.1 (fun r0 r1 => K [(.val (.pair (.int .i64) (.pair (.int .i64) .unit)) r0), (.val (.int .i64) r1)] [])
theorem rounding_Round_eq {R : Type} (F : Nat) (a0 : (Int × (Int × Unit))) (a1 : (Int × (Int × Unit))) (a2 : Int) (K : List V → List (Option Row) → Option R) : rounding_Round.k F a0 a1 a2 (fun r0 r1 => K [(.val (.pair (.int .i64) (.pair (.int .i64) .unit)) r0), (.val (.int .i64) r1)] []) = evFn (rounding_Round.X F) Go.Proofs.Try.f23.results.toList rms23 (bodyC Go.Proofs.Try.f23) ac23 (encl rounding_Round.pa (a0, (a1, (a2, ())))) (encr rounding_Round.pr ()) K := by kernel_rfl
theorem rounding_Round.cs {R : Type} (F : Nat) : CsOk (R := R) Try.prog (rounding_Round.C F) := (CsOk.cons (ratio_Valid.ok F) (CsOk.cons (rounding_whole.ok F) (CsOk.cons (ratio_New.ok F) CsOk.nil)))
theorem rounding_Round.tb {R : Type} (F : Nat) : TblOk (R := R) Try.prog (rounding_Round.X F) Try.f23.ntmps (bodyC Try.f23) tb23 := TblOk.nil
theorem rounding_Round.ok {R : Type} (F : Nat) : FnOk (R := R) Try.prog 23 (rounding_Round.c F) := fnP_ok (X := rounding_Round.X F) baseT (rounding_Round.cs F) Try.func23 (by kernel_rfl) (rounding_Round.tb F) (ac := ac23) (rms := rms23) (by kernel_rfl) (pa := rounding_Round.pa) (pr := rounding_Round.pr) (by kernel_rfl) (fun x y K => rounding_Round_eq F x.1 x.2.1 x.2.2.1 K)
def rounding_Cents.k {R : Type} (F : Nat) (a0 : (Int × (Int × Unit))) (a1 : Int) (K : (Int → Int → Option R)) : Option R := (rounding_Round.k F a0 ((1, 1, ())) a1 (fun r2 r3 => (K (Prod.fst r2) r3)))
def rounding_Cents.C {R : Type} (F : Nat) : FuncId → List V → List (Option Row) → (List V → List (Option Row) → Option R) → Option R := fun g args rows K => cnd (Nat.beq g 23) (rounding_Round.c F args rows K) (none)
def rounding_Cents.L {R : Type} (F : Nat) : Nat → St → (St → Option R) → List (Nat × (St → Option R)) → (St → Option R) → Option R := fun i s kn ex kr => none
def rounding_Cents.X {R : Type} (F : Nat) : Ctx R := ⟨tyT, eqtT, sigT, fnOkT, rounding_Cents.C F, rounding_Cents.L F⟩
def rounding_Cents.pa : List V := [(.val (.pair (.int .i64) (.pair (.int .i64) .unit)) (Sh.dflt _)), (.val (.int .i64) (Sh.dflt _))]
def rounding_Cents.pr : List (Option Row) := []
def rounding_Cents.c {R : Type} (F : Nat) (args : List V) (rows : List (Option Row)) (K : List V → List (Option Row) → Option R) : Option R := decl rounding_Cents.pa args fun x => decr rounding_Cents.pr rows fun y => rounding_Cents.k F x.1 x.2.1 (fun r0 r1 => K [(.val (.int .i64) r0), (.val (.int .i64) r1)] [])
theorem rounding_Cents_eq {R : Type} (F : Nat) (a0 : (Int × (Int × Unit))) (a1 : Int) (K : List V → List (Option Row) → Option R) : rounding_Cents.k F a0 a1 (fun r0 r1 => K [(.val (.int .i64) r0), (.val (.int .i64) r1)] []) = evFn (rounding_Cents.X F) Go.Proofs.Try.f37.results.toList rms37 (bodyC Go.Proofs.Try.f37) ac37 (encl rounding_Cents.pa (a0, (a1, ()))) (encr rounding_Cents.pr ()) K := by kernel_rfl
theorem rounding_Cents.cs {R : Type} (F : Nat) : CsOk (R := R) Try.prog (rounding_Cents.C F) := (CsOk.cons (rounding_Round.ok F) CsOk.nil)
theorem rounding_Cents.tb {R : Type} (F : Nat) : TblOk (R := R) Try.prog (rounding_Cents.X F) Try.f37.ntmps (bodyC Try.f37) tb37 := TblOk.nil
theorem rounding_Cents.ok {R : Type} (F : Nat) : FnOk (R := R) Try.prog 37 (rounding_Cents.c F) := fnP_ok (X := rounding_Cents.X F) baseT (rounding_Cents.cs F) Try.func37 (by kernel_rfl) (rounding_Cents.tb F) (ac := ac37) (rms := rms37) (by kernel_rfl) (pa := rounding_Cents.pa) (pr := rounding_Cents.pr) (by kernel_rfl) (fun x y K => rounding_Cents_eq F x.1 x.2.1 K)
def rounding_Part.k {R : Type} (F : Nat) (a0 : Int) (a1 : Int) (a2 : Int) (a3 : Int) (a4 : Int) (K : (Int → Int → Option R)) : Option R := (cond (Decidable.decide (a0 < -1000000000000)) (K 0 2) (cond (Decidable.decide (a0 > 1000000000000)) (K 0 2) (cond (Decidable.decide (a1 < 0)) (K 0 2) (cond (Decidable.decide (a1 > 1000000)) (K 0 2) (cond (Decidable.decide (a2 < 1)) (K 0 2) (cond (Decidable.decide (a2 > 1000000)) (K 0 2) (cond (Decidable.decide (a3 < 1)) (K 0 2) (cond (Decidable.decide (a3 > 1000000)) (K 0 2) (cond (Decidable.decide (a4 < 0)) (K 0 2) (cond (Decidable.decide (a4 > 6)) (K 0 2) (rounding_whole.k F (Go.IntKind.wrap Go.IntKind.i64 (a0 * a1)) (Go.IntKind.wrap Go.IntKind.i64 (a2 * a3)) a4 (fun r5 => (cond (Decidable.decide (Go.IntKind.wrap Go.IntKind.i64 (r5 * a3) < -1000000000000)) (K 0 4) (cond (Decidable.decide (Go.IntKind.wrap Go.IntKind.i64 (r5 * a3) > 1000000000000)) (K 0 4) (K (Go.IntKind.wrap Go.IntKind.i64 (r5 * a3)) 0)))))))))))))))
def rounding_Part.C {R : Type} (F : Nat) : FuncId → List V → List (Option Row) → (List V → List (Option Row) → Option R) → Option R := fun g args rows K => cnd (Nat.beq g 38) (rounding_whole.c F args rows K) (none)
def rounding_Part.L {R : Type} (F : Nat) : Nat → St → (St → Option R) → List (Nat × (St → Option R)) → (St → Option R) → Option R := fun i s kn ex kr => none
def rounding_Part.X {R : Type} (F : Nat) : Ctx R := ⟨tyT, eqtT, sigT, fnOkT, rounding_Part.C F, rounding_Part.L F⟩
def rounding_Part.pa : List V := [(.val (.int .i64) (Sh.dflt _)), (.val (.int .i64) (Sh.dflt _)), (.val (.int .i64) (Sh.dflt _)), (.val (.int .i64) (Sh.dflt _)), (.val (.int .i64) (Sh.dflt _))]
def rounding_Part.pr : List (Option Row) := []
def rounding_Part.c {R : Type} (F : Nat) (args : List V) (rows : List (Option Row)) (K : List V → List (Option Row) → Option R) : Option R := decl rounding_Part.pa args fun x => decr rounding_Part.pr rows fun y => rounding_Part.k F x.1 x.2.1 x.2.2.1 x.2.2.2.1 x.2.2.2.2.1 (fun r0 r1 => K [(.val (.int .i64) r0), (.val (.int .i64) r1)] [])
theorem rounding_Part_eq {R : Type} (F : Nat) (a0 : Int) (a1 : Int) (a2 : Int) (a3 : Int) (a4 : Int) (K : List V → List (Option Row) → Option R) : rounding_Part.k F a0 a1 a2 a3 a4 (fun r0 r1 => K [(.val (.int .i64) r0), (.val (.int .i64) r1)] []) = evFn (rounding_Part.X F) Go.Proofs.Try.f18.results.toList rms18 (bodyC Go.Proofs.Try.f18) ac18 (encl rounding_Part.pa (a0, (a1, (a2, (a3, (a4, ())))))) (encr rounding_Part.pr ()) K := by kernel_rfl
theorem rounding_Part.cs {R : Type} (F : Nat) : CsOk (R := R) Try.prog (rounding_Part.C F) := (CsOk.cons (rounding_whole.ok F) CsOk.nil)
theorem rounding_Part.tb {R : Type} (F : Nat) : TblOk (R := R) Try.prog (rounding_Part.X F) Try.f18.ntmps (bodyC Try.f18) tb18 := TblOk.nil
theorem rounding_Part.ok {R : Type} (F : Nat) : FnOk (R := R) Try.prog 18 (rounding_Part.c F) := fnP_ok (X := rounding_Part.X F) baseT (rounding_Part.cs F) Try.func18 (by kernel_rfl) (rounding_Part.tb F) (ac := ac18) (rms := rms18) (by kernel_rfl) (pa := rounding_Part.pa) (pr := rounding_Part.pr) (by kernel_rfl) (fun x y K => rounding_Part_eq F x.1 x.2.1 x.2.2.1 x.2.2.2.1 x.2.2.2.2.1 K)
def payrolllaw2_sane.k {R : Type} (F : Nat) (K : (Bool → Option R)) : Option R := (rounding_Cents.k F ((5, 2, ())) 4 (fun r0 r1 => (rounding_Cents.k F ((-5, 2, ())) 6 (fun r2 r3 => (rounding_Allocate.k F (-100) ([1, 1, 1]) (fun r4 r5 => (rounding_Part.k F 10 1 4 1 6 (fun r6 r7 => (cond (Decidable.decide (r1 = 0)) (cond (Decidable.decide (r0 = 3)) (cond (Decidable.decide (r3 = 0)) (cond (Decidable.decide (r2 = -2)) (cond (Decidable.decide (r4 = 0)) (cond (Decidable.decide ((↑(List.length r5) : Int) = 3)) (cond (Decidable.decide (0 < (↑(List.length r5) : Int))) (cond (Decidable.decide (List.getD r5 (Int.toNat 0) 0 = -34)) (cond (Decidable.decide (2 < (↑(List.length r5) : Int))) (cond (Decidable.decide (List.getD r5 (Int.toNat 2) 0 = -33)) (cond (Decidable.decide (r7 = 0)) (K (Decidable.decide (r6 = 2))) (K Bool.false)) (K Bool.false)) none) (K Bool.false)) none) (K Bool.false)) (K Bool.false)) (K Bool.false)) (K Bool.false)) (K Bool.false)) (K Bool.false))))))))))
def payrolllaw2_sane.C {R : Type} (F : Nat) : FuncId → List V → List (Option Row) → (List V → List (Option Row) → Option R) → Option R := fun g args rows K => cnd (Nat.beq g 37) (rounding_Cents.c F args rows K) (cnd (Nat.beq g 15) (rounding_Allocate.c F args rows K) (cnd (Nat.beq g 18) (rounding_Part.c F args rows K) (none)))
def payrolllaw2_sane.L {R : Type} (F : Nat) : Nat → St → (St → Option R) → List (Nat × (St → Option R)) → (St → Option R) → Option R := fun i s kn ex kr => none
def payrolllaw2_sane.X {R : Type} (F : Nat) : Ctx R := ⟨tyT, eqtT, sigT, fnOkT, payrolllaw2_sane.C F, payrolllaw2_sane.L F⟩
def payrolllaw2_sane.pa : List V := []
def payrolllaw2_sane.pr : List (Option Row) := []
def payrolllaw2_sane.c {R : Type} (F : Nat) (args : List V) (rows : List (Option Row)) (K : List V → List (Option Row) → Option R) : Option R := decl payrolllaw2_sane.pa args fun x => decr payrolllaw2_sane.pr rows fun y => payrolllaw2_sane.k F (fun r0 => K [(.val .bool r0)] [])
theorem payrolllaw2_sane_eq {R : Type} (F : Nat) (K : List V → List (Option Row) → Option R) : payrolllaw2_sane.k F (fun r0 => K [(.val .bool r0)] []) = evFn (payrolllaw2_sane.X F) Go.Proofs.Try.f17.results.toList rms17 (bodyC Go.Proofs.Try.f17) ac17 (encl payrolllaw2_sane.pa ()) (encr payrolllaw2_sane.pr ()) K := by kernel_rfl
theorem payrolllaw2_sane.cs {R : Type} (F : Nat) : CsOk (R := R) Try.prog (payrolllaw2_sane.C F) := (CsOk.cons (rounding_Cents.ok F) (CsOk.cons (rounding_Allocate.ok F) (CsOk.cons (rounding_Part.ok F) CsOk.nil)))
theorem payrolllaw2_sane.tb {R : Type} (F : Nat) : TblOk (R := R) Try.prog (payrolllaw2_sane.X F) Try.f17.ntmps (bodyC Try.f17) tb17 := TblOk.nil
theorem payrolllaw2_sane.ok {R : Type} (F : Nat) : FnOk (R := R) Try.prog 17 (payrolllaw2_sane.c F) := fnP_ok (X := payrolllaw2_sane.X F) baseT (payrolllaw2_sane.cs F) Try.func17 (by kernel_rfl) (payrolllaw2_sane.tb F) (ac := ac17) (rms := rms17) (by kernel_rfl) (pa := payrolllaw2_sane.pa) (pr := payrolllaw2_sane.pr) (by kernel_rfl) (fun x y K => payrolllaw2_sane_eq F K)
def payrolllaw2_RoundingConserves.j0 {R : Type} (F : Nat) (x6 : Int) (x7 : ((List Int) × (Int × Unit))) (x8 : (List Int)) (KN : (Int → (List Int) → Option R)) : Option R := (payrollgen_Tape_Next.k F 2 x7 (fun r11 r12 => (cond (Decidable.decide (r11 = 0)) (payrollgen_Tape_Next.k F 2001 r12 (fun r13 r14 => (KN (Go.IntKind.wrap Go.IntKind.i64 (r13 - 1000)) x8))) (KN x6 x8))))
def payrolllaw2_RoundingConserves.j0_p : St := ⟨[(5, (.ptr 0 0 0 0)), (6, (.own 1 0)), (7, (.val (.int .i64) (Sh.dflt _)))], [some ⟨0, false, true, .one (.pair (.sl (.int .i64)) (.pair (.int .i64) .unit)) (Sh.dflt _)⟩, some ⟨0, false, true, .arr 3 (.int .i64) []⟩], 0⟩
def payrolllaw2_RoundingConserves.j0_N : St := ⟨[(6, (.own 0 0)), (7, (.val (.int .i64) (Sh.dflt _)))], [some ⟨0, false, true, .arr 3 (.int .i64) []⟩], 0⟩
def payrolllaw2_RoundingConserves.j0_L {R : Type} (F : Nat) (s : St) (kn : St → Option R) (ex : List (Nat × (St → Option R))) (kr : St → Option R) : Option R := payrolllaw2_RoundingConserves.j0_p.dec s fun y => payrolllaw2_RoundingConserves.j0 F y.1.2.2.1 y.2.1 y.2.2.1 (fun v0 v1 => kn (payrolllaw2_RoundingConserves.j0_N.enc (((), (v0, ())), (v1, ()))))
def payrolllaw2_RoundingConserves.l0 {R : Type} (F : Nat) : Nat → Int → Int → Int → Int → (List Int) → (List Int) → (Int → Int → Int → (List Int) → (List Int) → Option R) → Option R
  | 0, _, _, _, _, _, _, _ => none
  | n + 1, x19, x20, x21, x22, x23, x24, K0 => (cond (Decidable.decide (x22 < (↑(List.length x23) : Int))) (cond (Decidable.decide (0 ≤ x22)) (cond (Decidable.decide (x22 < (↑(List.length x23) : Int))) (payrolllaw2_RoundingConserves.l0 F n x19 x20 (Go.IntKind.wrap Go.IntKind.i64 (x21 + List.getD x23 (Int.toNat x22) 0)) (Go.IntKind.wrap Go.IntKind.i64 (x22 + 1)) x23 x24 K0) none) none) (K0 x19 x20 x21 x23 x24))
def payrolllaw2_RoundingConserves.l0_p : St := ⟨[(6, (.own 0 0)), (7, (.val (.int .i64) (Sh.dflt _))), (8, (.own 1 0)), (9, (.val (.int .i64) (Sh.dflt _))), (10, (.val (.int .i64) (Sh.dflt _))), (11, (.val (.int .i64) (Sh.dflt _)))], [some ⟨0, false, true, .arr 3 (.int .i64) []⟩, some ⟨0, false, true, .arr 3 (.int .i64) []⟩], 0⟩
def payrolllaw2_RoundingConserves.l0_0 : St := ⟨[(6, (.own 0 0)), (7, (.val (.int .i64) (Sh.dflt _))), (8, (.own 1 0)), (9, (.val (.int .i64) (Sh.dflt _))), (10, (.val (.int .i64) (Sh.dflt _)))], [some ⟨0, false, true, .arr 3 (.int .i64) []⟩, some ⟨0, false, true, .arr 3 (.int .i64) []⟩], 0⟩
def payrolllaw2_RoundingConserves.l0_L {R : Type} (F n : Nat) (s : St) (kn : St → Option R) (ex : List (Nat × (St → Option R))) (kr : St → Option R) : Option R := payrolllaw2_RoundingConserves.l0_p.dec s fun y => payrolllaw2_RoundingConserves.l0 F n y.1.2.1 y.1.2.2.2.1 y.1.2.2.2.2.1 y.1.2.2.2.2.2.1 y.2.1 y.2.2.1 (fun v0 v1 v2 v3 v4 => exitK ex 0 (payrolllaw2_RoundingConserves.l0_0.enc (((), (v0, ((), (v1, (v2, ()))))), (v3, (v4, ())))))
def payrolllaw2_RoundingConserves.j2 {R : Type} (F : Nat) (x56 : Int) (x57 : Int) (x58 : Int) (x59 : Int) (x60 : Bool) (x61 : (List Int)) (x62 : (List Int)) (KN : (Int → Int → Int → Int → (List Int) → (List Int) → Option R)) (KR : (Bool → Option R)) : Option R := (cond x60 (KR Bool.false) (KN x56 x57 x58 x59 x61 x62))
def payrolllaw2_RoundingConserves.j2_p : St := ⟨[(6, (.own 0 0)), (7, (.val (.int .i64) (Sh.dflt _))), (8, (.own 1 0)), (10, (.val (.int .i64) (Sh.dflt _))), (12, (.val (.int .i64) (Sh.dflt _))), (13, (.val (.int .i64) (Sh.dflt _))), (158, (.val .bool (Sh.dflt _)))], [some ⟨0, false, true, .arr 3 (.int .i64) []⟩, some ⟨0, false, true, .arr 3 (.int .i64) []⟩], 0⟩
def payrolllaw2_RoundingConserves.j2_N : St := ⟨[(6, (.own 0 0)), (7, (.val (.int .i64) (Sh.dflt _))), (8, (.own 1 0)), (10, (.val (.int .i64) (Sh.dflt _))), (12, (.val (.int .i64) (Sh.dflt _))), (13, (.val (.int .i64) (Sh.dflt _)))], [some ⟨0, false, true, .arr 3 (.int .i64) []⟩, some ⟨0, false, true, .arr 3 (.int .i64) []⟩], 0⟩
def payrolllaw2_RoundingConserves.j2_R : St := ⟨[(4, (.val .bool (Sh.dflt _)))], [], 0⟩
def payrolllaw2_RoundingConserves.j2_L {R : Type} (F : Nat) (s : St) (kn : St → Option R) (ex : List (Nat × (St → Option R))) (kr : St → Option R) : Option R := payrolllaw2_RoundingConserves.j2_p.dec s fun y => payrolllaw2_RoundingConserves.j2 F y.1.2.1 y.1.2.2.2.1 y.1.2.2.2.2.1 y.1.2.2.2.2.2.1 y.1.2.2.2.2.2.2.1 y.2.1 y.2.2.1 (fun v0 v1 v2 v3 v4 v5 => kn (payrolllaw2_RoundingConserves.j2_N.enc (((), (v0, ((), (v1, (v2, (v3, ())))))), (v4, (v5, ()))))) (fun v0 => kr (payrolllaw2_RoundingConserves.j2_R.enc ((v0, ()), ())))
def payrolllaw2_RoundingConserves.j1 {R : Type} (F : Nat) (x44 : Int) (x45 : Int) (x46 : Int) (x47 : Int) (x48 : Int) (x49 : Int) (x50 : (List Int)) (x51 : (List Int)) (KN : (Int → Int → Int → Int → (List Int) → (List Int) → Option R)) (KR : (Bool → Option R)) : Option R := (cond (Decidable.decide (0 ≤ x47)) (cond (Decidable.decide (x47 < (↑(List.length x50) : Int))) (cond (Decidable.decide (List.getD x50 (Int.toNat x47) 0 = 0)) (cond (Decidable.decide (0 ≤ x47)) (cond (Decidable.decide (x47 < (↑(List.length x51) : Int))) (cond (!Decidable.decide (List.getD x51 (Int.toNat x47) 0 = 0)) (payrolllaw2_RoundingConserves.j2 F x44 x45 x46 x47 Bool.true x50 x51 (fun v67 v68 v69 v70 v71 v72 => (KN v67 v68 v69 v70 v71 v72)) (fun v73 => (KR v73))) (cond (Decidable.decide (x49 = 0)) (cond (Decidable.decide (0 ≤ x47)) (cond (Decidable.decide (x47 < (↑(List.length x51) : Int))) (cond (!Decidable.decide (List.getD x51 (Int.toNat x47) 0 = x48)) (payrolllaw2_RoundingConserves.j2 F x44 x45 x46 x47 Bool.true x50 x51 (fun v74 v75 v76 v77 v78 v79 => (KN v74 v75 v76 v77 v78 v79)) (fun v80 => (KR v80))) (cond (Decidable.decide (x44 ≥ 0)) (cond (Decidable.decide (0 ≤ x47)) (cond (Decidable.decide (x47 < (↑(List.length x51) : Int))) (cond (!Decidable.decide (List.getD x51 (Int.toNat x47) 0 = x48)) (cond (Decidable.decide (0 ≤ x47)) (cond (Decidable.decide (x47 < (↑(List.length x51) : Int))) (cond (!Decidable.decide (List.getD x51 (Int.toNat x47) 0 = Go.IntKind.wrap Go.IntKind.i64 (x48 + 1))) (payrolllaw2_RoundingConserves.j2 F x44 x45 x46 x47 Bool.true x50 x51 (fun v81 v82 v83 v84 v85 v86 => (KN v81 v82 v83 v84 v85 v86)) (fun v87 => (KR v87))) (cond (Decidable.decide (x44 < 0)) (cond (Decidable.decide (0 ≤ x47)) (cond (Decidable.decide (x47 < (↑(List.length x51) : Int))) (cond (!Decidable.decide (List.getD x51 (Int.toNat x47) 0 = x48)) (cond (Decidable.decide (0 ≤ x47)) (cond (Decidable.decide (x47 < (↑(List.length x51) : Int))) (payrolllaw2_RoundingConserves.j2 F x44 x45 x46 x47 (!Decidable.decide (List.getD x51 (Int.toNat x47) 0 = Go.IntKind.wrap Go.IntKind.i64 (x48 - 1))) x50 x51 (fun v88 v89 v90 v91 v92 v93 => (KN v88 v89 v90 v91 v92 v93)) (fun v94 => (KR v94))) none) none) (payrolllaw2_RoundingConserves.j2 F x44 x45 x46 x47 Bool.false x50 x51 (fun v95 v96 v97 v98 v99 v100 => (KN v95 v96 v97 v98 v99 v100)) (fun v101 => (KR v101)))) none) none) (payrolllaw2_RoundingConserves.j2 F x44 x45 x46 x47 Bool.false x50 x51 (fun v102 v103 v104 v105 v106 v107 => (KN v102 v103 v104 v105 v106 v107)) (fun v108 => (KR v108))))) none) none) (cond (Decidable.decide (x44 < 0)) (cond (Decidable.decide (0 ≤ x47)) (cond (Decidable.decide (x47 < (↑(List.length x51) : Int))) (cond (!Decidable.decide (List.getD x51 (Int.toNat x47) 0 = x48)) (cond (Decidable.decide (0 ≤ x47)) (cond (Decidable.decide (x47 < (↑(List.length x51) : Int))) (payrolllaw2_RoundingConserves.j2 F x44 x45 x46 x47 (!Decidable.decide (List.getD x51 (Int.toNat x47) 0 = Go.IntKind.wrap Go.IntKind.i64 (x48 - 1))) x50 x51 (fun v109 v110 v111 v112 v113 v114 => (KN v109 v110 v111 v112 v113 v114)) (fun v115 => (KR v115))) none) none) (payrolllaw2_RoundingConserves.j2 F x44 x45 x46 x47 Bool.false x50 x51 (fun v116 v117 v118 v119 v120 v121 => (KN v116 v117 v118 v119 v120 v121)) (fun v122 => (KR v122)))) none) none) (payrolllaw2_RoundingConserves.j2 F x44 x45 x46 x47 Bool.false x50 x51 (fun v123 v124 v125 v126 v127 v128 => (KN v123 v124 v125 v126 v127 v128)) (fun v129 => (KR v129))))) none) none) (cond (Decidable.decide (x44 < 0)) (cond (Decidable.decide (0 ≤ x47)) (cond (Decidable.decide (x47 < (↑(List.length x51) : Int))) (cond (!Decidable.decide (List.getD x51 (Int.toNat x47) 0 = x48)) (cond (Decidable.decide (0 ≤ x47)) (cond (Decidable.decide (x47 < (↑(List.length x51) : Int))) (payrolllaw2_RoundingConserves.j2 F x44 x45 x46 x47 (!Decidable.decide (List.getD x51 (Int.toNat x47) 0 = Go.IntKind.wrap Go.IntKind.i64 (x48 - 1))) x50 x51 (fun v130 v131 v132 v133 v134 v135 => (KN v130 v131 v132 v133 v134 v135)) (fun v136 => (KR v136))) none) none) (payrolllaw2_RoundingConserves.j2 F x44 x45 x46 x47 Bool.false x50 x51 (fun v137 v138 v139 v140 v141 v142 => (KN v137 v138 v139 v140 v141 v142)) (fun v143 => (KR v143)))) none) none) (payrolllaw2_RoundingConserves.j2 F x44 x45 x46 x47 Bool.false x50 x51 (fun v144 v145 v146 v147 v148 v149 => (KN v144 v145 v146 v147 v148 v149)) (fun v150 => (KR v150)))))) none) none) (cond (Decidable.decide (x44 ≥ 0)) (cond (Decidable.decide (0 ≤ x47)) (cond (Decidable.decide (x47 < (↑(List.length x51) : Int))) (cond (!Decidable.decide (List.getD x51 (Int.toNat x47) 0 = x48)) (cond (Decidable.decide (0 ≤ x47)) (cond (Decidable.decide (x47 < (↑(List.length x51) : Int))) (cond (!Decidable.decide (List.getD x51 (Int.toNat x47) 0 = Go.IntKind.wrap Go.IntKind.i64 (x48 + 1))) (payrolllaw2_RoundingConserves.j2 F x44 x45 x46 x47 Bool.true x50 x51 (fun v151 v152 v153 v154 v155 v156 => (KN v151 v152 v153 v154 v155 v156)) (fun v157 => (KR v157))) (cond (Decidable.decide (x44 < 0)) (cond (Decidable.decide (0 ≤ x47)) (cond (Decidable.decide (x47 < (↑(List.length x51) : Int))) (cond (!Decidable.decide (List.getD x51 (Int.toNat x47) 0 = x48)) (cond (Decidable.decide (0 ≤ x47)) (cond (Decidable.decide (x47 < (↑(List.length x51) : Int))) (payrolllaw2_RoundingConserves.j2 F x44 x45 x46 x47 (!Decidable.decide (List.getD x51 (Int.toNat x47) 0 = Go.IntKind.wrap Go.IntKind.i64 (x48 - 1))) x50 x51 (fun v158 v159 v160 v161 v162 v163 => (KN v158 v159 v160 v161 v162 v163)) (fun v164 => (KR v164))) none) none) (payrolllaw2_RoundingConserves.j2 F x44 x45 x46 x47 Bool.false x50 x51 (fun v165 v166 v167 v168 v169 v170 => (KN v165 v166 v167 v168 v169 v170)) (fun v171 => (KR v171)))) none) none) (payrolllaw2_RoundingConserves.j2 F x44 x45 x46 x47 Bool.false x50 x51 (fun v172 v173 v174 v175 v176 v177 => (KN v172 v173 v174 v175 v176 v177)) (fun v178 => (KR v178))))) none) none) (cond (Decidable.decide (x44 < 0)) (cond (Decidable.decide (0 ≤ x47)) (cond (Decidable.decide (x47 < (↑(List.length x51) : Int))) (cond (!Decidable.decide (List.getD x51 (Int.toNat x47) 0 = x48)) (cond (Decidable.decide (0 ≤ x47)) (cond (Decidable.decide (x47 < (↑(List.length x51) : Int))) (payrolllaw2_RoundingConserves.j2 F x44 x45 x46 x47 (!Decidable.decide (List.getD x51 (Int.toNat x47) 0 = Go.IntKind.wrap Go.IntKind.i64 (x48 - 1))) x50 x51 (fun v179 v180 v181 v182 v183 v184 => (KN v179 v180 v181 v182 v183 v184)) (fun v185 => (KR v185))) none) none) (payrolllaw2_RoundingConserves.j2 F x44 x45 x46 x47 Bool.false x50 x51 (fun v186 v187 v188 v189 v190 v191 => (KN v186 v187 v188 v189 v190 v191)) (fun v192 => (KR v192)))) none) none) (payrolllaw2_RoundingConserves.j2 F x44 x45 x46 x47 Bool.false x50 x51 (fun v193 v194 v195 v196 v197 v198 => (KN v193 v194 v195 v196 v197 v198)) (fun v199 => (KR v199))))) none) none) (cond (Decidable.decide (x44 < 0)) (cond (Decidable.decide (0 ≤ x47)) (cond (Decidable.decide (x47 < (↑(List.length x51) : Int))) (cond (!Decidable.decide (List.getD x51 (Int.toNat x47) 0 = x48)) (cond (Decidable.decide (0 ≤ x47)) (cond (Decidable.decide (x47 < (↑(List.length x51) : Int))) (payrolllaw2_RoundingConserves.j2 F x44 x45 x46 x47 (!Decidable.decide (List.getD x51 (Int.toNat x47) 0 = Go.IntKind.wrap Go.IntKind.i64 (x48 - 1))) x50 x51 (fun v200 v201 v202 v203 v204 v205 => (KN v200 v201 v202 v203 v204 v205)) (fun v206 => (KR v206))) none) none) (payrolllaw2_RoundingConserves.j2 F x44 x45 x46 x47 Bool.false x50 x51 (fun v207 v208 v209 v210 v211 v212 => (KN v207 v208 v209 v210 v211 v212)) (fun v213 => (KR v213)))) none) none) (payrolllaw2_RoundingConserves.j2 F x44 x45 x46 x47 Bool.false x50 x51 (fun v214 v215 v216 v217 v218 v219 => (KN v214 v215 v216 v217 v218 v219)) (fun v220 => (KR v220))))))) none) none) (cond (Decidable.decide (x49 = 0)) (cond (Decidable.decide (0 ≤ x47)) (cond (Decidable.decide (x47 < (↑(List.length x51) : Int))) (cond (!Decidable.decide (List.getD x51 (Int.toNat x47) 0 = x48)) (payrolllaw2_RoundingConserves.j2 F x44 x45 x46 x47 Bool.true x50 x51 (fun v221 v222 v223 v224 v225 v226 => (KN v221 v222 v223 v224 v225 v226)) (fun v227 => (KR v227))) (cond (Decidable.decide (x44 ≥ 0)) (cond (Decidable.decide (0 ≤ x47)) (cond (Decidable.decide (x47 < (↑(List.length x51) : Int))) (cond (!Decidable.decide (List.getD x51 (Int.toNat x47) 0 = x48)) (cond (Decidable.decide (0 ≤ x47)) (cond (Decidable.decide (x47 < (↑(List.length x51) : Int))) (cond (!Decidable.decide (List.getD x51 (Int.toNat x47) 0 = Go.IntKind.wrap Go.IntKind.i64 (x48 + 1))) (payrolllaw2_RoundingConserves.j2 F x44 x45 x46 x47 Bool.true x50 x51 (fun v228 v229 v230 v231 v232 v233 => (KN v228 v229 v230 v231 v232 v233)) (fun v234 => (KR v234))) (cond (Decidable.decide (x44 < 0)) (cond (Decidable.decide (0 ≤ x47)) (cond (Decidable.decide (x47 < (↑(List.length x51) : Int))) (cond (!Decidable.decide (List.getD x51 (Int.toNat x47) 0 = x48)) (cond (Decidable.decide (0 ≤ x47)) (cond (Decidable.decide (x47 < (↑(List.length x51) : Int))) (payrolllaw2_RoundingConserves.j2 F x44 x45 x46 x47 (!Decidable.decide (List.getD x51 (Int.toNat x47) 0 = Go.IntKind.wrap Go.IntKind.i64 (x48 - 1))) x50 x51 (fun v235 v236 v237 v238 v239 v240 => (KN v235 v236 v237 v238 v239 v240)) (fun v241 => (KR v241))) none) none) (payrolllaw2_RoundingConserves.j2 F x44 x45 x46 x47 Bool.false x50 x51 (fun v242 v243 v244 v245 v246 v247 => (KN v242 v243 v244 v245 v246 v247)) (fun v248 => (KR v248)))) none) none) (payrolllaw2_RoundingConserves.j2 F x44 x45 x46 x47 Bool.false x50 x51 (fun v249 v250 v251 v252 v253 v254 => (KN v249 v250 v251 v252 v253 v254)) (fun v255 => (KR v255))))) none) none) (cond (Decidable.decide (x44 < 0)) (cond (Decidable.decide (0 ≤ x47)) (cond (Decidable.decide (x47 < (↑(List.length x51) : Int))) (cond (!Decidable.decide (List.getD x51 (Int.toNat x47) 0 = x48)) (cond (Decidable.decide (0 ≤ x47)) (cond (Decidable.decide (x47 < (↑(List.length x51) : Int))) (payrolllaw2_RoundingConserves.j2 F x44 x45 x46 x47 (!Decidable.decide (List.getD x51 (Int.toNat x47) 0 = Go.IntKind.wrap Go.IntKind.i64 (x48 - 1))) x50 x51 (fun v256 v257 v258 v259 v260 v261 => (KN v256 v257 v258 v259 v260 v261)) (fun v262 => (KR v262))) none) none) (payrolllaw2_RoundingConserves.j2 F x44 x45 x46 x47 Bool.false x50 x51 (fun v263 v264 v265 v266 v267 v268 => (KN v263 v264 v265 v266 v267 v268)) (fun v269 => (KR v269)))) none) none) (payrolllaw2_RoundingConserves.j2 F x44 x45 x46 x47 Bool.false x50 x51 (fun v270 v271 v272 v273 v274 v275 => (KN v270 v271 v272 v273 v274 v275)) (fun v276 => (KR v276))))) none) none) (cond (Decidable.decide (x44 < 0)) (cond (Decidable.decide (0 ≤ x47)) (cond (Decidable.decide (x47 < (↑(List.length x51) : Int))) (cond (!Decidable.decide (List.getD x51 (Int.toNat x47) 0 = x48)) (cond (Decidable.decide (0 ≤ x47)) (cond (Decidable.decide (x47 < (↑(List.length x51) : Int))) (payrolllaw2_RoundingConserves.j2 F x44 x45 x46 x47 (!Decidable.decide (List.getD x51 (Int.toNat x47) 0 = Go.IntKind.wrap Go.IntKind.i64 (x48 - 1))) x50 x51 (fun v277 v278 v279 v280 v281 v282 => (KN v277 v278 v279 v280 v281 v282)) (fun v283 => (KR v283))) none) none) (payrolllaw2_RoundingConserves.j2 F x44 x45 x46 x47 Bool.false x50 x51 (fun v284 v285 v286 v287 v288 v289 => (KN v284 v285 v286 v287 v288 v289)) (fun v290 => (KR v290)))) none) none) (payrolllaw2_RoundingConserves.j2 F x44 x45 x46 x47 Bool.false x50 x51 (fun v291 v292 v293 v294 v295 v296 => (KN v291 v292 v293 v294 v295 v296)) (fun v297 => (KR v297)))))) none) none) (cond (Decidable.decide (x44 ≥ 0)) (cond (Decidable.decide (0 ≤ x47)) (cond (Decidable.decide (x47 < (↑(List.length x51) : Int))) (cond (!Decidable.decide (List.getD x51 (Int.toNat x47) 0 = x48)) (cond (Decidable.decide (0 ≤ x47)) (cond (Decidable.decide (x47 < (↑(List.length x51) : Int))) (cond (!Decidable.decide (List.getD x51 (Int.toNat x47) 0 = Go.IntKind.wrap Go.IntKind.i64 (x48 + 1))) (payrolllaw2_RoundingConserves.j2 F x44 x45 x46 x47 Bool.true x50 x51 (fun v298 v299 v300 v301 v302 v303 => (KN v298 v299 v300 v301 v302 v303)) (fun v304 => (KR v304))) (cond (Decidable.decide (x44 < 0)) (cond (Decidable.decide (0 ≤ x47)) (cond (Decidable.decide (x47 < (↑(List.length x51) : Int))) (cond (!Decidable.decide (List.getD x51 (Int.toNat x47) 0 = x48)) (cond (Decidable.decide (0 ≤ x47)) (cond (Decidable.decide (x47 < (↑(List.length x51) : Int))) (payrolllaw2_RoundingConserves.j2 F x44 x45 x46 x47 (!Decidable.decide (List.getD x51 (Int.toNat x47) 0 = Go.IntKind.wrap Go.IntKind.i64 (x48 - 1))) x50 x51 (fun v305 v306 v307 v308 v309 v310 => (KN v305 v306 v307 v308 v309 v310)) (fun v311 => (KR v311))) none) none) (payrolllaw2_RoundingConserves.j2 F x44 x45 x46 x47 Bool.false x50 x51 (fun v312 v313 v314 v315 v316 v317 => (KN v312 v313 v314 v315 v316 v317)) (fun v318 => (KR v318)))) none) none) (payrolllaw2_RoundingConserves.j2 F x44 x45 x46 x47 Bool.false x50 x51 (fun v319 v320 v321 v322 v323 v324 => (KN v319 v320 v321 v322 v323 v324)) (fun v325 => (KR v325))))) none) none) (cond (Decidable.decide (x44 < 0)) (cond (Decidable.decide (0 ≤ x47)) (cond (Decidable.decide (x47 < (↑(List.length x51) : Int))) (cond (!Decidable.decide (List.getD x51 (Int.toNat x47) 0 = x48)) (cond (Decidable.decide (0 ≤ x47)) (cond (Decidable.decide (x47 < (↑(List.length x51) : Int))) (payrolllaw2_RoundingConserves.j2 F x44 x45 x46 x47 (!Decidable.decide (List.getD x51 (Int.toNat x47) 0 = Go.IntKind.wrap Go.IntKind.i64 (x48 - 1))) x50 x51 (fun v326 v327 v328 v329 v330 v331 => (KN v326 v327 v328 v329 v330 v331)) (fun v332 => (KR v332))) none) none) (payrolllaw2_RoundingConserves.j2 F x44 x45 x46 x47 Bool.false x50 x51 (fun v333 v334 v335 v336 v337 v338 => (KN v333 v334 v335 v336 v337 v338)) (fun v339 => (KR v339)))) none) none) (payrolllaw2_RoundingConserves.j2 F x44 x45 x46 x47 Bool.false x50 x51 (fun v340 v341 v342 v343 v344 v345 => (KN v340 v341 v342 v343 v344 v345)) (fun v346 => (KR v346))))) none) none) (cond (Decidable.decide (x44 < 0)) (cond (Decidable.decide (0 ≤ x47)) (cond (Decidable.decide (x47 < (↑(List.length x51) : Int))) (cond (!Decidable.decide (List.getD x51 (Int.toNat x47) 0 = x48)) (cond (Decidable.decide (0 ≤ x47)) (cond (Decidable.decide (x47 < (↑(List.length x51) : Int))) (payrolllaw2_RoundingConserves.j2 F x44 x45 x46 x47 (!Decidable.decide (List.getD x51 (Int.toNat x47) 0 = Go.IntKind.wrap Go.IntKind.i64 (x48 - 1))) x50 x51 (fun v347 v348 v349 v350 v351 v352 => (KN v347 v348 v349 v350 v351 v352)) (fun v353 => (KR v353))) none) none) (payrolllaw2_RoundingConserves.j2 F x44 x45 x46 x47 Bool.false x50 x51 (fun v354 v355 v356 v357 v358 v359 => (KN v354 v355 v356 v357 v358 v359)) (fun v360 => (KR v360)))) none) none) (payrolllaw2_RoundingConserves.j2 F x44 x45 x46 x47 Bool.false x50 x51 (fun v361 v362 v363 v364 v365 v366 => (KN v361 v362 v363 v364 v365 v366)) (fun v367 => (KR v367))))))) none) none)
def payrolllaw2_RoundingConserves.j1_p : St := ⟨[(6, (.own 0 0)), (7, (.val (.int .i64) (Sh.dflt _))), (8, (.own 1 0)), (10, (.val (.int .i64) (Sh.dflt _))), (12, (.val (.int .i64) (Sh.dflt _))), (13, (.val (.int .i64) (Sh.dflt _))), (14, (.val (.int .i64) (Sh.dflt _))), (15, (.val (.int .i64) (Sh.dflt _)))], [some ⟨0, false, true, .arr 3 (.int .i64) []⟩, some ⟨0, false, true, .arr 3 (.int .i64) []⟩], 0⟩
def payrolllaw2_RoundingConserves.j1_N : St := ⟨[(6, (.own 0 0)), (7, (.val (.int .i64) (Sh.dflt _))), (8, (.own 1 0)), (10, (.val (.int .i64) (Sh.dflt _))), (12, (.val (.int .i64) (Sh.dflt _))), (13, (.val (.int .i64) (Sh.dflt _)))], [some ⟨0, false, true, .arr 3 (.int .i64) []⟩, some ⟨0, false, true, .arr 3 (.int .i64) []⟩], 0⟩
def payrolllaw2_RoundingConserves.j1_R : St := ⟨[(4, (.val .bool (Sh.dflt _)))], [], 0⟩
def payrolllaw2_RoundingConserves.j1_L {R : Type} (F : Nat) (s : St) (kn : St → Option R) (ex : List (Nat × (St → Option R))) (kr : St → Option R) : Option R := payrolllaw2_RoundingConserves.j1_p.dec s fun y => payrolllaw2_RoundingConserves.j1 F y.1.2.1 y.1.2.2.2.1 y.1.2.2.2.2.1 y.1.2.2.2.2.2.1 y.1.2.2.2.2.2.2.1 y.1.2.2.2.2.2.2.2.1 y.2.1 y.2.2.1 (fun v0 v1 v2 v3 v4 v5 => kn (payrolllaw2_RoundingConserves.j1_N.enc (((), (v0, ((), (v1, (v2, (v3, ())))))), (v4, (v5, ()))))) (fun v0 => kr (payrolllaw2_RoundingConserves.j1_R.enc ((v0, ()), ())))
def payrolllaw2_RoundingConserves.l1 {R : Type} (F : Nat) : Nat → Int → Int → Int → Int → (List Int) → (List Int) → (Bool → Option R) → (Int → Int → Option R) → Option R
  | 0, _, _, _, _, _, _, _, _ => none
  | n + 1, x35, x36, x37, x38, x39, x40, KR, K2 => (cond (Decidable.decide (x38 < (↑(List.length x40) : Int))) (cond (Decidable.decide (0 ≤ x38)) (cond (Decidable.decide (x38 < (↑(List.length x40) : Int))) (cond (Decidable.decide (0 ≤ x38)) (cond (Decidable.decide (x38 < (↑(List.length x39) : Int))) (cond (Decidable.decide (x36 = 0)) none (cond (Decidable.decide (0 ≤ x38)) (cond (Decidable.decide (x38 < (↑(List.length x39) : Int))) (cond (Decidable.decide (x36 = 0)) none (payrolllaw2_RoundingConserves.j1 F x35 x36 (Go.IntKind.wrap Go.IntKind.i64 (x37 + List.getD x40 (Int.toNat x38) 0)) x38 (Go.IntKind.wrap Go.IntKind.i64 (Int.tdiv (Go.IntKind.wrap Go.IntKind.i64 (x35 * List.getD x39 (Int.toNat x38) 0)) x36)) (Int.tmod (Go.IntKind.wrap Go.IntKind.i64 (x35 * List.getD x39 (Int.toNat x38) 0)) x36) x39 x40 (fun v368 v369 v370 v371 v372 v373 => (payrolllaw2_RoundingConserves.l1 F n v368 v369 v370 (Go.IntKind.wrap Go.IntKind.i64 (v371 + 1)) v372 v373 KR K2)) (fun v374 => (KR v374)))) none) none)) none) none) none) none) (K2 x35 x37))
def payrolllaw2_RoundingConserves.l1_p : St := ⟨[(6, (.own 0 0)), (7, (.val (.int .i64) (Sh.dflt _))), (8, (.own 1 0)), (10, (.val (.int .i64) (Sh.dflt _))), (12, (.val (.int .i64) (Sh.dflt _))), (13, (.val (.int .i64) (Sh.dflt _)))], [some ⟨0, false, true, .arr 3 (.int .i64) []⟩, some ⟨0, false, true, .arr 3 (.int .i64) []⟩], 0⟩
def payrolllaw2_RoundingConserves.l1_R : St := ⟨[(4, (.val .bool (Sh.dflt _)))], [], 0⟩
def payrolllaw2_RoundingConserves.l1_2 : St := ⟨[(7, (.val (.int .i64) (Sh.dflt _))), (12, (.val (.int .i64) (Sh.dflt _)))], [], 0⟩
def payrolllaw2_RoundingConserves.l1_L {R : Type} (F n : Nat) (s : St) (kn : St → Option R) (ex : List (Nat × (St → Option R))) (kr : St → Option R) : Option R := payrolllaw2_RoundingConserves.l1_p.dec s fun y => payrolllaw2_RoundingConserves.l1 F n y.1.2.1 y.1.2.2.2.1 y.1.2.2.2.2.1 y.1.2.2.2.2.2.1 y.2.1 y.2.2.1 (fun v0 => kr (payrolllaw2_RoundingConserves.l1_R.enc ((v0, ()), ()))) (fun v0 v1 => exitK ex 2 (payrolllaw2_RoundingConserves.l1_2.enc ((v0, (v1, ())), ())))
def payrolllaw2_RoundingConserves.k {R : Type} (F : Nat) (a0 : (List Int)) (a1 : Int) (K : (Bool → Option R)) : Option R := (payrollgen_New.k F a0 (fun r2 => (payrolllaw2_weights.k F r2 (fun r3 r4 => (payrollgen_Mod.k F a1 2000000001 (fun r5 => (payrolllaw2_RoundingConserves.j0 F (Go.IntKind.wrap Go.IntKind.i64 (r5 - 1000000000)) r3 r4 (fun v15 v16 => (rounding_Allocate.k F v15 v16 (fun r17 r18 => (payrolllaw2_RoundingConserves.l0 F F v15 r17 0 0 v16 r18 (fun v28 v29 v30 v31 v32 => (cond (!Decidable.decide (v29 = 0)) (cond (Decidable.decide (v29 = 5)) (cond (Decidable.decide (v30 = 0)) (payrolllaw2_sane.k F (fun r33 => (K r33))) (K Bool.false)) (K Bool.false)) (cond (!Decidable.decide ((↑(List.length v32) : Int) = (↑(List.length v31) : Int))) (cond (Decidable.decide (v29 = 5)) (cond (Decidable.decide (v30 = 0)) (payrolllaw2_sane.k F (fun r34 => (K r34))) (K Bool.false)) (K Bool.false)) (payrolllaw2_RoundingConserves.l1 F F v28 v30 0 0 v31 v32 (fun v375 => (K v375)) (fun v376 v377 => (cond (Decidable.decide (v377 = v376)) (payrolllaw2_sane.k F (fun r378 => (K r378))) (K Bool.false))))))))))))))))))
def payrolllaw2_RoundingConserves.C {R : Type} (F : Nat) : FuncId → List V → List (Option Row) → (List V → List (Option Row) → Option R) → Option R := fun g args rows K => cnd (Nat.beq g 11) (payrollgen_New.c F args rows K) (cnd (Nat.beq g 20) (payrolllaw2_weights.c F args rows K) (cnd (Nat.beq g 12) (payrollgen_Mod.c F args rows K) (cnd (Nat.beq g 14) (payrollgen_Tape_Next.c F args rows K) (cnd (Nat.beq g 15) (rounding_Allocate.c F args rows K) (cnd (Nat.beq g 17) (payrolllaw2_sane.c F args rows K) (none))))))
def payrolllaw2_RoundingConserves.L {R : Type} (F : Nat) : Nat → St → (St → Option R) → List (Nat × (St → Option R)) → (St → Option R) → Option R := fun i s kn ex kr => cnd (Nat.beq i 0) (payrolllaw2_RoundingConserves.j0_L F s kn ex kr) (cnd (Nat.beq i 1) (payrolllaw2_RoundingConserves.l0_L F F s kn ex kr) (cnd (Nat.beq i 4) (payrolllaw2_RoundingConserves.j2_L F s kn ex kr) (cnd (Nat.beq i 3) (payrolllaw2_RoundingConserves.j1_L F s kn ex kr) (cnd (Nat.beq i 2) (payrolllaw2_RoundingConserves.l1_L F F s kn ex kr) (none)))))
def payrolllaw2_RoundingConserves.X {R : Type} (F : Nat) : Ctx R := ⟨tyT, eqtT, sigT, fnOkT, payrolllaw2_RoundingConserves.C F, payrolllaw2_RoundingConserves.L F⟩
theorem payrolllaw2_RoundingConserves.j0_eq {R : Type} (F : Nat) (x6 : Int) (x7 : ((List Int) × (Int × Unit))) (x8 : (List Int)) (kn : St → Option R) (ex : List (Nat × (St → Option R))) (kr : St → Option R) : payrolllaw2_RoundingConserves.j0 F x6 x7 x8 (fun v0 v1 => kn (payrolllaw2_RoundingConserves.j0_N.enc (((), (v0, ())), (v1, ())))) = ev (payrolllaw2_RoundingConserves.X F) (subC [1, 1, 1, 1, 0] (bodyC Go.Proofs.Try.f6)) ac6_0 (fun s => canonK [6, 7] [] s kn) ex kr (payrolllaw2_RoundingConserves.j0_p.enc (((), ((), (x6, ()))), (x7, (x8, ())))) := by kernel_rfl
theorem payrolllaw2_RoundingConserves.l0_eq {R : Type} (F n : Nat) (x19 : Int) (x20 : Int) (x21 : Int) (x22 : Int) (x23 : (List Int)) (x24 : (List Int)) (kn : St → Option R) (ex : List (Nat × (St → Option R))) (kr : St → Option R) : payrolllaw2_RoundingConserves.l0 F (n + 1) x19 x20 x21 x22 x23 x24 (fun v0 v1 v2 v3 v4 => exitK ex 0 (payrolllaw2_RoundingConserves.l0_0.enc (((), (v0, ((), (v1, (v2, ()))))), (v3, (v4, ()))))) = ev (payrolllaw2_RoundingConserves.X F) (subC [1, 1, 1, 1, 1, 1, 1, 0, 1, 0, 0] (bodyC Go.Proofs.Try.f6)) ac6_1 (fun s => canonK [6, 7, 8, 9, 10, 11] [] s fun s' => payrolllaw2_RoundingConserves.l0_L F n s' kn ex kr) ex kr (payrolllaw2_RoundingConserves.l0_p.enc (((), (x19, ((), (x20, (x21, (x22, ())))))), (x23, (x24, ())))) := by kernel_rfl
theorem payrolllaw2_RoundingConserves.j2_eq {R : Type} (F : Nat) (x56 : Int) (x57 : Int) (x58 : Int) (x59 : Int) (x60 : Bool) (x61 : (List Int)) (x62 : (List Int)) (kn : St → Option R) (ex : List (Nat × (St → Option R))) (kr : St → Option R) : payrolllaw2_RoundingConserves.j2 F x56 x57 x58 x59 x60 x61 x62 (fun v0 v1 v2 v3 v4 v5 => kn (payrolllaw2_RoundingConserves.j2_N.enc (((), (v0, ((), (v1, (v2, (v3, ())))))), (v4, (v5, ()))))) (fun v0 => kr (payrolllaw2_RoundingConserves.j2_R.enc ((v0, ()), ()))) = ev (payrolllaw2_RoundingConserves.X F) (subC [1, 1, 1, 1, 1, 1, 1, 1, 1, 1, 0, 1, 0, 0, 1, 0, 0, 1, 1, 1] (bodyC Go.Proofs.Try.f6)) ac6_4 (fun s => canonK [6, 7, 8, 10, 12, 13] [] s kn) ex kr (payrolllaw2_RoundingConserves.j2_p.enc (((), (x56, ((), (x57, (x58, (x59, (x60, ()))))))), (x61, (x62, ())))) := by kernel_rfl
theorem payrolllaw2_RoundingConserves.j1_eq {R : Type} (F : Nat) (x44 : Int) (x45 : Int) (x46 : Int) (x47 : Int) (x48 : Int) (x49 : Int) (x50 : (List Int)) (x51 : (List Int)) (kn : St → Option R) (ex : List (Nat × (St → Option R))) (kr : St → Option R) : payrolllaw2_RoundingConserves.j1 F x44 x45 x46 x47 x48 x49 x50 x51 (fun v0 v1 v2 v3 v4 v5 => kn (payrolllaw2_RoundingConserves.j1_N.enc (((), (v0, ((), (v1, (v2, (v3, ())))))), (v4, (v5, ()))))) (fun v0 => kr (payrolllaw2_RoundingConserves.j1_R.enc ((v0, ()), ()))) = ev (payrolllaw2_RoundingConserves.X F) (subC [1, 1, 1, 1, 1, 1, 1, 1, 1, 1, 0, 1, 0, 0, 1, 0, 0, 1, 1] (bodyC Go.Proofs.Try.f6)) ac6_3 (fun s => canonK [6, 7, 8, 10, 12, 13] [] s kn) ex kr (payrolllaw2_RoundingConserves.j1_p.enc (((), (x44, ((), (x45, (x46, (x47, (x48, (x49, ())))))))), (x50, (x51, ())))) := by kernel_rfl
theorem payrolllaw2_RoundingConserves.l1_eq {R : Type} (F n : Nat) (x35 : Int) (x36 : Int) (x37 : Int) (x38 : Int) (x39 : (List Int)) (x40 : (List Int)) (kn : St → Option R) (ex : List (Nat × (St → Option R))) (kr : St → Option R) : payrolllaw2_RoundingConserves.l1 F (n + 1) x35 x36 x37 x38 x39 x40 (fun v0 => kr (payrolllaw2_RoundingConserves.l1_R.enc ((v0, ()), ()))) (fun v0 v1 => exitK ex 2 (payrolllaw2_RoundingConserves.l1_2.enc ((v0, (v1, ())), ()))) = ev (payrolllaw2_RoundingConserves.X F) (subC [1, 1, 1, 1, 1, 1, 1, 1, 1, 1, 0, 1, 0, 0] (bodyC Go.Proofs.Try.f6)) ac6_2 (fun s => canonK [6, 7, 8, 10, 12, 13] [] s fun s' => payrolllaw2_RoundingConserves.l1_L F n s' kn ex kr) ex kr (payrolllaw2_RoundingConserves.l1_p.enc (((), (x35, ((), (x36, (x37, (x38, ())))))), (x39, (x40, ())))) := by kernel_rfl
def payrolllaw2_RoundingConserves.pa : List V := [(.val (.sl (.int .i64)) []), (.val (.int .i64) (Sh.dflt _))]
def payrolllaw2_RoundingConserves.pr : List (Option Row) := []
def payrolllaw2_RoundingConserves.c {R : Type} (F : Nat) (args : List V) (rows : List (Option Row)) (K : List V → List (Option Row) → Option R) : Option R := decl payrolllaw2_RoundingConserves.pa args fun x => decr payrolllaw2_RoundingConserves.pr rows fun y => payrolllaw2_RoundingConserves.k F x.1 x.2.1 (fun r0 => K [(.val .bool r0)] [])
theorem payrolllaw2_RoundingConserves_eq {R : Type} (F : Nat) (a0 : (List Int)) (a1 : Int) (K : List V → List (Option Row) → Option R) : payrolllaw2_RoundingConserves.k F a0 a1 (fun r0 => K [(.val .bool r0)] []) = evFn (payrolllaw2_RoundingConserves.X F) Go.Proofs.Try.f6.results.toList rms6 (bodyC Go.Proofs.Try.f6) ac6 (encl payrolllaw2_RoundingConserves.pa (a0, (a1, ()))) (encr payrolllaw2_RoundingConserves.pr ()) K := by kernel_rfl
theorem payrolllaw2_RoundingConserves.cs {R : Type} (F : Nat) : CsOk (R := R) Try.prog (payrolllaw2_RoundingConserves.C F) := (CsOk.cons (payrollgen_New.ok F) (CsOk.cons (payrolllaw2_weights.ok F) (CsOk.cons (payrollgen_Mod.ok F) (CsOk.cons (payrollgen_Tape_Next.ok F) (CsOk.cons (rounding_Allocate.ok F) (CsOk.cons (payrolllaw2_sane.ok F) CsOk.nil))))))
theorem payrolllaw2_RoundingConserves.tb {R : Type} (F : Nat) : TblOk (R := R) Try.prog (payrolllaw2_RoundingConserves.X F) Try.f6.ntmps (bodyC Try.f6) tb6 := (TblOk.loop (i := 2) (p := [1, 1, 1, 1, 1, 1, 1, 1, 1, 1, 0, 1, 0]) (c := subC [1, 1, 1, 1, 1, 1, 1, 1, 1, 1, 0, 1, 0, 0] (bodyC Try.f6)) (F := F) (live := [6, 7, 8, 10, 12, 13]) (co := []) (ac := ac6_2) baseT (payrolllaw2_RoundingConserves.cs F) (payrolllaw2_RoundingConserves.l1_L F) (by kernel_rfl) (by kernel_rfl) (fun _ _ _ _ => dec_zero) (fun k => dec_or fun x kn ex kr => payrolllaw2_RoundingConserves.l1_eq F k x.1.2.1 x.1.2.2.2.1 x.1.2.2.2.2.1 x.1.2.2.2.2.2.1 x.2.1 x.2.2.1 kn ex kr) (fun _ _ _ _ => rfl) (TblOk.behind (i := 3) (p := [1, 1, 1, 1, 1, 1, 1, 1, 1, 1, 0, 1, 0, 0, 1, 0, 0, 1, 1]) (c := subC [1, 1, 1, 1, 1, 1, 1, 1, 1, 1, 0, 1, 0, 0, 1, 0, 0, 1, 1] (bodyC Try.f6)) (live := [6, 7, 8, 10, 12, 13]) (co := []) (ac := ac6_3) baseT (payrolllaw2_RoundingConserves.cs F) (payrolllaw2_RoundingConserves.j1_L F) rfl (by kernel_rfl) (dec_or fun x kn ex kr => payrolllaw2_RoundingConserves.j1_eq F x.1.2.1 x.1.2.2.2.1 x.1.2.2.2.2.1 x.1.2.2.2.2.2.1 x.1.2.2.2.2.2.2.1 x.1.2.2.2.2.2.2.2.1 x.2.1 x.2.2.1 kn ex kr) (fun _ _ _ _ => rfl) (TblOk.behind (i := 4) (p := [1, 1, 1, 1, 1, 1, 1, 1, 1, 1, 0, 1, 0, 0, 1, 0, 0, 1, 1, 1]) (c := subC [1, 1, 1, 1, 1, 1, 1, 1, 1, 1, 0, 1, 0, 0, 1, 0, 0, 1, 1, 1] (bodyC Try.f6)) (live := [6, 7, 8, 10, 12, 13]) (co := []) (ac := ac6_4) baseT (payrolllaw2_RoundingConserves.cs F) (payrolllaw2_RoundingConserves.j2_L F) rfl (by kernel_rfl) (dec_or fun x kn ex kr => payrolllaw2_RoundingConserves.j2_eq F x.1.2.1 x.1.2.2.2.1 x.1.2.2.2.2.1 x.1.2.2.2.2.2.1 x.1.2.2.2.2.2.2.1 x.2.1 x.2.2.1 kn ex kr) (fun _ _ _ _ => rfl) (TblOk.loop (i := 1) (p := [1, 1, 1, 1, 1, 1, 1, 0, 1, 0]) (c := subC [1, 1, 1, 1, 1, 1, 1, 0, 1, 0, 0] (bodyC Try.f6)) (F := F) (live := [6, 7, 8, 9, 10, 11]) (co := []) (ac := ac6_1) baseT (payrolllaw2_RoundingConserves.cs F) (payrolllaw2_RoundingConserves.l0_L F) (by kernel_rfl) (by kernel_rfl) (fun _ _ _ _ => dec_zero) (fun k => dec_or fun x kn ex kr => payrolllaw2_RoundingConserves.l0_eq F k x.1.2.1 x.1.2.2.2.1 x.1.2.2.2.2.1 x.1.2.2.2.2.2.1 x.2.1 x.2.2.1 kn ex kr) (fun _ _ _ _ => rfl) (TblOk.behind (i := 0) (p := [1, 1, 1, 1, 0]) (c := subC [1, 1, 1, 1, 0] (bodyC Try.f6)) (live := [6, 7]) (co := []) (ac := ac6_0) baseT (payrolllaw2_RoundingConserves.cs F) (payrolllaw2_RoundingConserves.j0_L F) rfl (by kernel_rfl) (dec_or fun x kn ex kr => payrolllaw2_RoundingConserves.j0_eq F x.1.2.2.1 x.2.1 x.2.2.1 kn ex kr) (fun _ _ _ _ => rfl) TblOk.nil)))))
theorem payrolllaw2_RoundingConserves.ok {R : Type} (F : Nat) : FnOk (R := R) Try.prog 6 (payrolllaw2_RoundingConserves.c F) := fnP_ok (X := payrolllaw2_RoundingConserves.X F) baseT (payrolllaw2_RoundingConserves.cs F) Try.func6 (by kernel_rfl) (payrolllaw2_RoundingConserves.tb F) (ac := ac6) (rms := rms6) (by kernel_rfl) (pa := payrolllaw2_RoundingConserves.pa) (pr := payrolllaw2_RoundingConserves.pr) (by kernel_rfl) (fun x y K => payrolllaw2_RoundingConserves_eq F x.1 x.2.1 K)
end Go.Proofs.Ytcipegkeoheikaa.Dx
/- Plain lemmas on whole numbers and choices: wraps that do nothing, Go's quotient and remainder, and the number nearest to a fraction in each mode of rounding. -/
namespace Go.Proofs.Ytcipegkeoheikaa.Dx
open Go
set_option linter.unusedVariables false
set_option linter.unusedSimpArgs false

section
variable {α : Type} {p : Prop} [Decidable p] {x y : α}
theorem cT (h : p) : cond (decide p) x y = x := by simp [h]
theorem cF (h : ¬ p) : cond (decide p) x y = y := by simp [h]
theorem cNT (h : ¬ p) : cond (!decide p) x y = x := by simp [h]
theorem cNF (h : p) : cond (!decide p) x y = y := by simp [h]
theorem c_ite : cond (decide p) x y = if p then x else y := by by_cases h : p <;> simp [h]
theorem cN_ite : cond (!decide p) x y = if p then y else x := by by_cases h : p <;> simp [h]
theorem c_b {b : Bool} : cond b x y = if b = true then x else y := by cases b <;> rfl
end

theorem w64 {x : Int} (h0 : -9223372036854775808 ≤ x) (h1 : x ≤ 9223372036854775807) : IntKind.wrap .i64 x = x := by
  have : IntKind.wrap .i64 x = (if x % 18446744073709551616 ≥ 9223372036854775808 then x % 18446744073709551616 - 18446744073709551616 else x % 18446744073709551616) := by
    unfold IntKind.wrap IntKind.signed IntKind.bits
    simp
  rw [this]
  split <;> omega
theorem u64 {x : Int} (h0 : 0 ≤ x) (h1 : x ≤ 18446744073709551615) : IntKind.wrap .u64 x = x := by
  have : IntKind.u64.wrap x = x % 18446744073709551616 := by rfl
  omega

/-- Go's quotient and remainder, by Lean's. -/
theorem tdm (n d : Int) (hd : 0 < d) : (0 ≤ n % d ∧ n % d < d ∧ n % d + d * (n / d) = n) ∧ ((0 ≤ n ∨ n % d = 0) ∧ Int.tmod n d = n % d ∧ Int.tdiv n d = n / d ∨ (n < 0 ∧ 0 < n % d) ∧ Int.tmod n d = n % d - d ∧ Int.tdiv n d = n / d + 1) := by
  have e0 := Int.emod_add_mul_ediv n d
  have e1 := Int.emod_nonneg n (show d ≠ 0 by omega)
  have e2 := Int.emod_lt_of_pos n hd
  refine ⟨⟨e1, e2, e0⟩, ?_⟩
  have t0 := Int.tmod_add_mul_tdiv n d
  have t1 := Int.tmod_lt_of_pos n hd
  have t2 := Int.lt_tmod_of_pos n hd
  by_cases hn : 0 ≤ n
  · exact .inl ⟨.inl hn, Int.tmod_eq_emod_of_nonneg hn, Int.tdiv_eq_ediv_of_nonneg hn⟩
  · have t3 : Int.tmod n d ≤ 0 := by
      have h4 : 0 ≤ Int.tmod (-n) d := Int.tmod_nonneg d (by omega)
      rw [Int.neg_tmod] at h4
      omega
    by_cases hr : Int.tmod n d = 0
    · have := (Int.ediv_emod_unique (a := n) (r := 0) (q := Int.tdiv n d) hd).2 ⟨by rw [← hr]; omega, by omega, hd⟩
      exact .inl ⟨.inr this.2, by omega, by omega⟩
    · have := (Int.ediv_emod_unique (a := n) (r := Int.tmod n d + d) (q := Int.tdiv n d - 1) hd).2 ⟨by rw [Int.mul_sub, Int.mul_one]; omega, by omega, by omega⟩
      exact .inr ⟨⟨by omega, by omega⟩, by omega, by omega⟩

theorem ediv_bd (n d B : Int) (hd : 0 < d) (h0 : -B ≤ n) (h1 : n ≤ B) : -B ≤ n / d ∧ n / d ≤ B := by
  by_cases hn : 0 ≤ n
  · have h2 := Int.ediv_nonneg hn (show 0 ≤ d by omega)
    have h3 := Int.ediv_le_self d hn
    omega
  · have h2 : n ≤ n / d := by
      rw [Int.le_ediv_iff_mul_le hd]
      have : n * d ≤ n * 1 := Int.mul_le_mul_of_nonpos_left (by omega) (by omega)
      omega
    have h3 : n / d < 0 := Int.ediv_neg_of_neg_of_pos (by omega) hd
    omega

/-- The whole number to which n / d is rounded in a mode from 0 to 6. -/
def near (n d mode : Int) : Int :=
  if n % d = 0 then n / d
  else if mode = 2 then n / d
  else if mode = 3 then n / d + 1
  else if mode = 0 then (if n < 0 then n / d + 1 else n / d)
  else if mode = 1 then (if n < 0 then n / d else n / d + 1)
  else if 2 * (n % d) < d then n / d
  else if d < 2 * (n % d) then n / d + 1
  else if mode = 4 then (if n < 0 then n / d else n / d + 1)
  else if mode = 5 then (if n < 0 then n / d + 1 else n / d)
  else if n / d % 2 = 0 then n / d else n / d + 1

theorem near_or (n d mode : Int) : near n d mode = n / d ∨ near n d mode = n / d + 1 := by
  unfold near
  repeat (first | exact .inl rfl | exact .inr rfl | split)

theorem mul_bd {a b A B : Int} (ha0 : -A ≤ a) (ha1 : a ≤ A) (hb0 : -B ≤ b) (hb1 : b ≤ B) : -(A * B) ≤ a * b ∧ a * b ≤ A * B := by
  have hA : 0 ≤ A := by omega
  have hB : 0 ≤ B := by omega
  have h1 : (a * b).natAbs ≤ (A * B).natAbs := by
    rw [Int.natAbs_mul, Int.natAbs_mul]
    exact Nat.mul_le_mul (by omega) (by omega)
  have h2 : 0 ≤ A * B := Int.mul_nonneg hA hB
  omega

end Go.Proofs.Ytcipegkeoheikaa.Dx
/- Rounding to a whole number and products with a fraction: the program's way. -/
namespace Go.Proofs.Ytcipegkeoheikaa.Dx
open Go
set_option linter.unusedVariables false
set_option linter.unusedSimpArgs false
variable {R : Type} {F : Nat}

theorem up_is (a0 : Bool) (q h m : Int) (K : Bool → Option R) : rounding_up.k F a0 q h m K = K (if m = 2 then false else if m = 3 then true else if m = 0 then !a0 else if m = 1 then a0 else if h = 0 then (if m = 4 then a0 else if m = 5 then !a0 else !decide (Int.tmod q 2 = 0)) else decide (h > 0)) := by
  unfold rounding_up.k
  simp only [c_ite, cN_ite]
  repeat (first | rfl | split)

theorem whole_is (n d m : Int) (hd : 0 < d) (hd1 : d ≤ 2000000000000000000) (h0 : -2000000000000000000 ≤ n) (h1 : n ≤ 2000000000000000000) (K : Int → Option R) : rounding_whole.k F n d m K = K (near n d m) := by
  obtain ⟨⟨e0, e1, e2⟩, hc⟩ := tdm n d hd
  obtain ⟨b0, b1⟩ := ediv_bd n d 2000000000000000000 hd h0 h1
  have hq2 : Int.tmod (n / d) 2 = 0 ↔ n / d % 2 = 0 := by rw [← Int.dvd_iff_tmod_eq_zero, Int.dvd_iff_emod_eq_zero]
  unfold rounding_whole.k
  simp only [up_is, c_ite]
  unfold near
  generalize hq : n / d = q at *
  generalize hr : n % d = r at *
  rcases hc with ⟨hs, ht, hu⟩ | ⟨hs, ht, hu⟩
  · rw [ht, hu, if_neg (by omega), if_neg (by omega), if_neg (by omega)]
    by_cases hr0 : r = 0
    · rw [if_neg (by omega), if_pos hr0, w64 (by omega) (by omega)]
    · have hn0 : 0 ≤ n := by omega
      have hn : decide (n > 0) = true := by rw [decide_eq_true_eq]; rcases Int.lt_or_eq_of_le hn0 with h | h
                                            · exact h
                                            · subst h; simp at hr; omega
      rw [if_pos (by omega), if_neg hr0, hn, w64 (x := q) (by omega) (by omega), w64 (x := 2 * r) (by omega) (by omega), w64 (x := 2 * r - d) (by omega) (by omega), w64 (x := q + 1) (by omega) (by omega)]
      have hn' : ¬ n < 0 := by omega
      simp only [if_neg hn']
      rcases Int.lt_trichotomy (2 * r) d with h2 | h2 | h2
      · have h3 : ¬ (d < 2 * r) := by omega
        have h4 : ¬ (2 * r - d = 0) := by omega
        have h5 : ¬ (0 < 2 * r - d) := by omega
        by_cases m2 : m = 2 <;> by_cases m3 : m = 3 <;> by_cases m0 : m = 0 <;> by_cases m1 : m = 1 <;> simp [m2, m3, m0, m1, h2, h3, h4, h5] <;> try omega
      · have h3 : ¬ (d < 2 * r) := by omega
        have h4 : 2 * r - d = 0 := by omega
        have h5 : ¬ (2 * r < d) := by omega
        by_cases m2 : m = 2 <;> by_cases m3 : m = 3 <;> by_cases m0 : m = 0 <;> by_cases m1 : m = 1 <;> by_cases m4 : m = 4 <;> by_cases m5 : m = 5 <;> by_cases hz : q % 2 = 0 <;> simp [m2, m3, m0, m1, m4, m5, h3, h4, h5, hz, hq2] <;> try omega
      · have h3 : ¬ (2 * r < d) := by omega
        have h4 : ¬ (2 * r - d = 0) := by omega
        have h5 : 0 < 2 * r - d := by omega
        by_cases m2 : m = 2 <;> by_cases m3 : m = 3 <;> by_cases m0 : m = 0 <;> by_cases m1 : m = 1 <;> simp [m2, m3, m0, m1, h2, h3, h4, h5] <;> try omega
  · have hn' : n < 0 := hs.1
    have hn : decide (n > 0) = false := by rw [decide_eq_false_iff_not]; omega
    rw [ht, hu, if_neg (by omega), if_neg (by omega), if_pos (by omega), w64 (x := q + 1) (by omega) (by omega), w64 (x := q + 1 - 1) (by omega) (by omega), w64 (x := r - d + d) (by omega) (by omega), if_pos (show r - d + d > 0 by omega), if_neg (show ¬ r = 0 by omega), hn]
    rw [show q + 1 - 1 = q by omega, show r - d + d = r by omega, w64 (x := 2 * r) (by omega) (by omega), w64 (x := 2 * r - d) (by omega) (by omega), w64 (x := q + 1) (by omega) (by omega)]
    simp only [if_pos hn']
    rcases Int.lt_trichotomy (2 * r) d with h2 | h2 | h2
    · have h3 : ¬ (d < 2 * r) := by omega
      have h4 : ¬ (2 * r - d = 0) := by omega
      have h5 : ¬ (0 < 2 * r - d) := by omega
      by_cases m2 : m = 2 <;> by_cases m3 : m = 3 <;> by_cases m0 : m = 0 <;> by_cases m1 : m = 1 <;> simp [m2, m3, m0, m1, h2, h3, h4, h5] <;> try omega
    · have h3 : ¬ (d < 2 * r) := by omega
      have h4 : 2 * r - d = 0 := by omega
      have h5 : ¬ (2 * r < d) := by omega
      by_cases m2 : m = 2 <;> by_cases m3 : m = 3 <;> by_cases m0 : m = 0 <;> by_cases m1 : m = 1 <;> by_cases m4 : m = 4 <;> by_cases m5 : m = 5 <;> by_cases hz : q % 2 = 0 <;> simp [m2, m3, m0, m1, m4, m5, h3, h4, h5, hz, hq2] <;> try omega
    · have h3 : ¬ (2 * r < d) := by omega
      have h4 : ¬ (2 * r - d = 0) := by omega
      have h5 : 0 < 2 * r - d := by omega
      by_cases m2 : m = 2 <;> by_cases m3 : m = 3 <;> by_cases m0 : m = 0 <;> by_cases m1 : m = 1 <;> simp [m2, m3, m0, m1, h2, h3, h4, h5] <;> try omega

/-- a * n / d, rounded to a multiple of u. -/
def partV (a n d u m : Int) : Int := near (a * n) (d * u) m * u

def partS (a n d u m : Int) : Int × Int :=
  if a < -1000000000000 ∨ 1000000000000 < a ∨ n < 0 ∨ 1000000 < n ∨ d < 1 ∨ 1000000 < d ∨ u < 1 ∨ 1000000 < u ∨ m < 0 ∨ 6 < m then (0, 2)
  else if partV a n d u m < -1000000000000 ∨ 1000000000000 < partV a n d u m then (0, 4) else (partV a n d u m, 0)

theorem partV_bd (a n d u m : Int) (ha0 : -1000000000000 ≤ a) (ha1 : a ≤ 1000000000000) (hn0 : 0 ≤ n) (hn1 : n ≤ 1000000) (hd0 : 1 ≤ d) (hd1 : d ≤ 1000000) (hu0 : 1 ≤ u) (hu1 : u ≤ 1000000) :
    (-1000000000000000000 ≤ a * n ∧ a * n ≤ 1000000000000000000) ∧ (1 ≤ d * u ∧ d * u ≤ 1000000000000) ∧ (-1000002000000000000 ≤ partV a n d u m ∧ partV a n d u m ≤ 1000002000000000000) := by
  have h1 := mul_bd ha0 ha1 (show -1000000 ≤ n by omega) hn1
  have h2 := mul_bd (show -1000000 ≤ d by omega) hd1 (show -1000000 ≤ u by omega) hu1
  have h3 : 1 * 1 ≤ d * u := Int.mul_le_mul hd0 hu0 (by omega) (by omega)
  refine ⟨by omega, by omega, ?_⟩
  have e0 := Int.emod_add_mul_ediv (a * n) (d * u)
  have e1 := Int.emod_nonneg (a * n) (show d * u ≠ 0 by omega)
  have e2 := Int.emod_lt_of_pos (a * n) (show 0 < d * u by omega)
  unfold partV
  have hx : -1000001000000000000 ≤ a * n / (d * u) * u ∧ a * n / (d * u) * u ≤ 1000001000000000000 := by
    have e3 : d * u * (a * n / (d * u)) = a * n / (d * u) * u * d := by
      rw [Int.mul_comm d u, Int.mul_comm (u * d), ← Int.mul_assoc]
    rw [e3] at e0
    generalize a * n / (d * u) * u = x at *
    by_cases hx0 : 0 ≤ x
    · have : x * 1 ≤ x * d := Int.mul_le_mul_of_nonneg_left hd0 hx0
      omega
    · have : x * d ≤ x * 1 := Int.mul_le_mul_of_nonpos_left (by omega) hd0
      omega
  rcases near_or (a * n) (d * u) m with h | h <;> rw [h]
  · omega
  · rw [Int.add_mul, Int.one_mul]; omega

theorem part_is (a n d u m : Int) (K : Int → Int → Option R) : rounding_Part.k F a n d u m K = K (partS a n d u m).1 (partS a n d u m).2 := by
  unfold rounding_Part.k partS
  simp only [c_ite]
  by_cases h : a < -1000000000000 ∨ 1000000000000 < a ∨ n < 0 ∨ 1000000 < n ∨ d < 1 ∨ 1000000 < d ∨ u < 1 ∨ 1000000 < u ∨ m < 0 ∨ 6 < m
  · rw [if_pos h]
    by_cases h0 : a < -1000000000000
    · rw [if_pos h0]
    rw [if_neg h0]
    by_cases h1 : a > 1000000000000
    · rw [if_pos h1]
    rw [if_neg h1]
    by_cases h2 : n < 0
    · rw [if_pos h2]
    rw [if_neg h2]
    by_cases h3 : n > 1000000
    · rw [if_pos h3]
    rw [if_neg h3]
    by_cases h4 : d < 1
    · rw [if_pos h4]
    rw [if_neg h4]
    by_cases h5 : d > 1000000
    · rw [if_pos h5]
    rw [if_neg h5]
    by_cases h6 : u < 1
    · rw [if_pos h6]
    rw [if_neg h6]
    by_cases h7 : u > 1000000
    · rw [if_pos h7]
    rw [if_neg h7]
    by_cases h8 : m < 0
    · rw [if_pos h8]
    rw [if_neg h8]
    rw [if_pos (show m > 6 by omega)]
  rw [if_neg h]
  simp only [not_or, Int.not_lt] at h
  obtain ⟨b1, b2, b3⟩ := partV_bd a n d u m (by omega) (by omega) (by omega) (by omega) (by omega) (by omega) (by omega) (by omega)
  rw [if_neg (by omega), if_neg (by omega), if_neg (by omega), if_neg (by omega), if_neg (by omega), if_neg (by omega), if_neg (by omega), if_neg (by omega), if_neg (by omega), if_neg (by omega),
    w64 (x := a * n) (by omega) (by omega), w64 (x := d * u) (by omega) (by omega), whole_is _ _ _ (by omega) (by omega) (by omega) (by omega)]
  have e : near (a * n) (d * u) m * u = partV a n d u m := rfl
  rw [e, w64 (x := partV a n d u m) (by omega) (by omega)]
  by_cases h1 : partV a n d u m < -1000000000000 ∨ 1000000000000 < partV a n d u m
  · rw [if_pos h1]
    split
    · rfl
    · rw [if_pos (by omega)]
  · rw [if_neg h1, if_neg (by omega), if_neg (by omega)]

end Go.Proofs.Ytcipegkeoheikaa.Dx
/- Insertion sort by neighbours that change places, on plain lists: the result is the one sorted list. -/
namespace Go.Proofs.Ytcipegkeoheikaa.Dx
open Go
set_option linter.unusedVariables false
set_option linter.unusedSimpArgs false

section
variable {α : Type} {d : α} {P B : List α} {x y : α}
theorem at0 {p : Nat} (hp : P.length = p) : (P ++ y :: B).getD p d = y := by subst hp; simp [List.getD_eq_getElem?_getD]
theorem at1 {p : Nat} (hp : P.length = p) : (P ++ y :: x :: B).getD (p + 1) d = x := by
  subst hp
  rw [List.getD_eq_getElem?_getD, List.getElem?_append_right (by omega), Nat.add_sub_cancel_left]; rfl
theorem set01 {p : Nat} (hp : P.length = p) (u v : α) : ((P ++ y :: x :: B).set (p + 1) u).set p v = P ++ v :: u :: B := by
  subst hp
  rw [List.set_append_right _ _ (by omega), List.set_append_right _ _ (by omega), Nat.add_sub_cancel_left, Nat.sub_self]; rfl
end

/-- Insertion from the right: Q is what stands before x, nearest first. -/
def insR {α : Type} (p : α → Bool) (x : α) (Q : List α) : List α := (Q.dropWhile p).reverse ++ x :: (Q.takeWhile p).reverse

theorem insR_perm {α : Type} (p : α → Bool) (x : α) (Q : List α) : (insR p x Q).Perm (Q.reverse ++ [x]) := by
  unfold insR
  have h : Q.reverse = (Q.dropWhile p).reverse ++ (Q.takeWhile p).reverse := by
    conv => lhs; rw [← List.takeWhile_append_dropWhile (p := p) (l := Q), List.reverse_append]
  rw [h, List.append_assoc]
  exact List.Perm.append_left _ (List.perm_append_comm (l₁ := [x]))

theorem mem_tw {α : Type} {p : α → Bool} {y : α} : ∀ {Q : List α}, y ∈ Q.takeWhile p → p y = true ∧ y ∈ Q
  | [], h => by simp at h
  | z :: Q, h => by
    rw [List.takeWhile_cons] at h
    split at h
    · rename_i hz
      rcases List.mem_cons.1 h with rfl | h
      · exact ⟨hz, by simp⟩
      · obtain ⟨h1, h2⟩ := mem_tw h
        exact ⟨h1, by simp [h2]⟩
    · cases h

/-- Where the order is total, insertion keeps a sorted list sorted. -/
theorem insR_sorted {α : Type} {tot : α → α → Prop} (htr : ∀ a b c, tot a b → tot b c → tot a c) {p : α → Bool} {x : α} : ∀ {Q : List α}, Q.reverse.Pairwise tot → (∀ y ∈ Q, if p y then tot x y else tot y x) → (insR p x Q).Pairwise tot := by
  intro Q hs hx
  have hsp : Q.reverse = (Q.dropWhile p).reverse ++ (Q.takeWhile p).reverse := by
    conv => lhs; rw [← List.takeWhile_append_dropWhile (p := p) (l := Q), List.reverse_append]
  rw [hsp] at hs
  obtain ⟨h1, h2, h3⟩ := List.pairwise_append.1 hs
  unfold insR
  have htw : ∀ y ∈ (Q.takeWhile p).reverse, tot x y := by
    intro y hy
    rw [List.mem_reverse] at hy
    obtain ⟨hp, hy⟩ := mem_tw hy
    have := hx y hy
    rwa [if_pos hp] at this
  have hdw : ∀ y ∈ (Q.dropWhile p).reverse, tot y x := by
    intro y hy
    rw [List.mem_reverse] at hy
    cases hd : Q.dropWhile p with
    | nil => rw [hd] at hy; cases hy
    | cons z t =>
      have hz : p z = false := by
        have := List.head?_dropWhile_not p Q
        rw [hd] at this
        simpa using this
      have hzx : tot z x := by
        have := hx z ((List.dropWhile_sublist p).subset (by rw [hd]; simp))
        rwa [if_neg (by rw [hz]; simp)] at this
      rw [hd] at hy
      rcases List.mem_cons.1 hy with rfl | hy
      · exact hzx
      · rw [hd, List.reverse_cons] at h1
        exact htr _ _ _ ((List.pairwise_append.1 h1).2.2 y (by simpa using hy) z (by simp)) hzx
  refine List.pairwise_append.2 ⟨h1, List.pairwise_cons.2 ⟨htw, h2⟩, ?_⟩
  intro a ha b hb
  rcases List.mem_cons.1 hb with rfl | hb
  · exact hdw a ha
  · exact h3 a ha b hb

/-- Of two sorted lists with the same elements there is one. -/
theorem sorted_one {α : Type} {tot : α → α → Prop} (hirr : ∀ a b, tot a b → tot b a → False) : ∀ {l l' : List α}, l.Perm l' → l.Pairwise tot → l'.Pairwise tot → l = l' := by
  intro l l' hp h1 h2
  exact List.Perm.eq_of_pairwise (le := tot) (fun a b _ _ hab hba => (hirr a b hab hba).elim) h1 h2 hp

end Go.Proofs.Ytcipegkeoheikaa.Dx
/- The stable sort in rounding.Allocate, of at most 20 numbers: descending by the remainder, ties by the place. -/
namespace Go.Proofs.Ytcipegkeoheikaa.Dx
open Go
set_option linter.unusedVariables false
set_option linter.unusedSimpArgs false
variable {R : Type} {F : Nat}

/-- The number at a place, 0 beyond the list. -/
def rd (l : List Int) (i : Int) : Int := l.getD i.toNat 0

theorem rd_nat (l : List Int) (j : Nat) (h : j < l.length) : rd l (j : Int) = l[j] := by
  unfold rd
  rw [Int.toNat_natCast, List.getD_eq_getElem?_getD, List.getElem?_eq_getElem h]; rfl
theorem rd_out (l : List Int) (j : Int) (h : l.length ≤ j.toNat) : rd l j = 0 := by
  unfold rd
  rw [List.getD_eq_getElem?_getD, List.getElem?_eq_none h]; rfl
theorem rd_set_same (l : List Int) (j : Nat) (v : Int) (h : j < l.length) : rd (l.set j v) (j : Int) = v := by
  rw [rd_nat _ _ (by simpa using h)]; simp
theorem rd_set_other (l : List Int) (j i : Nat) (v : Int) (h : j ≠ i) : rd (l.set j v) (i : Int) = rd l (i : Int) := by
  unfold rd
  rw [List.getD_eq_getElem?_getD, List.getD_eq_getElem?_getD, Int.toNat_natCast, List.getElem?_set_ne h]
theorem drop_sum (l : List Int) (j : Nat) (h : j < l.length) : (l.drop j).sum = l[j] + (l.drop (j + 1)).sum := by
  rw [List.drop_eq_getElem_cons h, List.sum_cons]

/-- All numbers of a list are weights. -/
def okW (l : List Int) : Prop := ∀ x ∈ l, 0 ≤ x ∧ x ≤ 1000000000
instance (l : List Int) : Decidable (okW l) := by unfold okW; infer_instance
theorem okW_get {l : List Int} (h : okW l) (j : Nat) (hj : j < l.length) : 0 ≤ l[j] ∧ l[j] ≤ 1000000000 := h _ (List.getElem_mem hj)
theorem okW_drop {l : List Int} (h : okW l) (j : Nat) : okW (l.drop j) := fun x hx => h x (List.mem_of_mem_drop hx)
theorem okW_sum : ∀ {l : List Int}, okW l → 0 ≤ l.sum ∧ l.sum ≤ 1000000000 * l.length
  | [], _ => by simp
  | x :: l, h => by
    have h1 := h x (List.mem_cons_self)
    have h2 := okW_sum (l := l) (fun y hy => h y (List.mem_cons_of_mem _ hy))
    rw [List.sum_cons, List.length_cons]
    omega
theorem rd_w (l : List Int) (h : okW l) (x : Int) : 0 ≤ rd l x ∧ rd l x ≤ 1000000000 := by
  by_cases hx : x.toNat < l.length
  · have e : rd l x = l[x.toNat] := by unfold rd; rw [List.getD_eq_getElem?_getD, List.getElem?_eq_getElem hx]; rfl
    rw [e]; exact okW_get h _ hx
  · rw [rd_out l x (by omega)]; omega

theorem prod_bd {T w : Int} (hT0 : 0 ≤ T) (hT1 : T ≤ 1000000000) (hw0 : 0 ≤ w) (hw1 : w ≤ 1000000000) : 0 ≤ T * w ∧ T * w ≤ 1000000000000000000 := by
  have h := mul_bd (show -1000000000 ≤ T by omega) hT1 (show -1000000000 ≤ w by omega) hw1
  exact ⟨Int.mul_nonneg hT0 hw0, by omega⟩

/-- What the sort goes by. -/
def keyA (T S : Int) (l : List Int) (x : Int) : Int := T * rd l x % S

/-- Earlier: a greater remainder, or the same and a lesser place. -/
def totA (T S : Int) (l : List Int) (x y : Int) : Prop := keyA T S l y < keyA T S l x ∨ (keyA T S l x = keyA T S l y ∧ x < y)

theorem totA_irr {T S : Int} {w : List Int} (a b : Int) : totA T S w a b → totA T S w b a → False := by unfold totA; omega

section
variable {T S : Int} {w : List Int} (hT0 : 0 ≤ T) (hT1 : T ≤ 1000000000) (hw : okW w) (hS0 : 0 < S) (hS1 : S ≤ 2000000000000)
include hT0 hT1 hw hS0 hS1

theorem cmp_is (x y : Int) (hx0 : 0 ≤ x) (hx1 : x < w.length) (hy0 : 0 ≤ y) (hy1 : y < w.length) (K : Int → Int → List Int → Int → Option R) :
    rounding_Allocate_1.k F x y T w S K = K (keyA T S w y - keyA T S w x) T w S := by
  have ex := prod_bd hT0 hT1 (rd_w w hw x).1 (rd_w w hw x).2
  have ey := prod_bd hT0 hT1 (rd_w w hw y).1 (rd_w w hw y).2
  have kx0 := Int.emod_nonneg (T * rd w x) (show S ≠ 0 by omega)
  have kx1 := Int.emod_lt_of_pos (T * rd w x) hS0
  have ky0 := Int.emod_nonneg (T * rd w y) (show S ≠ 0 by omega)
  have ky1 := Int.emod_lt_of_pos (T * rd w y) hS0
  unfold rounding_Allocate_1.k
  rw [cT hy0, cT hy1, cF (by omega), cT hx0, cT hx1, cF (by omega)]
  show K (IntKind.wrap .i64 (Int.tmod (IntKind.wrap .i64 (T * rd w y)) S - Int.tmod (IntKind.wrap .i64 (T * rd w x)) S)) T w S = _
  rw [w64 (x := T * rd w y) (by omega) (by omega), w64 (x := T * rd w x) (by omega) (by omega), Int.tmod_eq_emod_of_nonneg ex.1, Int.tmod_eq_emod_of_nonneg ey.1, w64 (by omega) (by omega)]
  rfl

theorem insert_is (a b i : Int) (A : List Int) (ha : a = A.length) (x : Int) : ∀ (Q B : List Int) (n : Nat), Q.length < n → (A.length + Q.length + B.length + 1 ≤ 1000000) → 0 ≤ x → x < w.length → (∀ y ∈ Q, 0 ≤ y ∧ y < w.length) → ∀ (K : Int → Int → Int → List Int → Int → List Int → Int → Option R),
    slices_insertionSortCmpFuncint.l1 F n a b i ((A.length + Q.length : Nat) : Int) (A ++ Q.reverse ++ x :: B) T w S K = K a b i (A ++ insR (fun y => decide (keyA T S w y < keyA T S w x)) x Q ++ B) T w S := by
  intro Q
  induction Q with
  | nil =>
    intro B n hn hl hx0 hx1 hQ K
    obtain ⟨n, rfl⟩ : ∃ m, n = m + 1 := ⟨n - 1, by simp at hn; omega⟩
    simp only [slices_insertionSortCmpFuncint.l1]
    rw [cF (by simp [ha])]
    simp [insR]
  | cons y Q ih =>
    intro B n hn hl hx0 hx1 hQ K
    obtain ⟨n, rfl⟩ : ∃ m, n = m + 1 := ⟨n - 1, by simp at hn; omega⟩
    simp only [List.length_cons] at hn hl
    obtain ⟨hy0, hy1⟩ := hQ y (by simp)
    have hp : (A ++ Q.reverse).length = A.length + Q.length := by simp
    have hd : A ++ (y :: Q).reverse ++ x :: B = (A ++ Q.reverse) ++ y :: x :: B := by simp
    rw [hd]
    generalize hP : A ++ Q.reverse = P at *
    have hj : ((A.length + (y :: Q).length : Nat) : Int) = ((A.length + Q.length : Nat) : Int) + 1 := by simp only [List.length_cons]; omega
    have hlen : (P ++ y :: x :: B).length = A.length + Q.length + B.length + 2 := by simp [hp]; omega
    have hset : ((P ++ y :: x :: B).set (A.length + Q.length + 1) y).length = A.length + Q.length + B.length + 2 := by rw [List.length_set, hlen]
    have e1 : Int.toNat (((A.length + Q.length : Nat) : Int) + 1) = A.length + Q.length + 1 := by omega
    have e0 : Int.toNat ((A.length + Q.length : Nat) : Int) = A.length + Q.length := by omega
    rw [hj]
    simp only [slices_insertionSortCmpFuncint.l1]
    rw [w64 (x := ((A.length + Q.length : Nat) : Int) + 1 - 1) (by omega) (by omega), Int.add_sub_cancel, e1, e0, at0 hp, at1 hp, cmp_is hT0 hT1 hw hS0 hS1 x y hx0 hx1 hy0 hy1, set01 hp, hset, hlen]
    rw [cT (by omega), cT (by omega), cT (by omega), cT (by omega), cT (by omega)]
    by_cases hk : keyA T S w y < keyA T S w x
    · rw [cT (by omega), cT (by omega), cT (by omega), cT (by omega), cT (by omega), cT (by omega), cT (by omega), cT (by omega), cT (by omega)]
      have := ih (y :: B) n (by omega) (by simp; omega) hx0 hx1 (fun z hz => hQ z (by simp [hz])) K
      rw [this]
      congr 1
      simp [insR, hk]
    · rw [cF (by omega)]
      congr 1
      rw [← hP]
      simp [insR, hk]

theorem outer_is : ∀ (rest Z : List Int) (n : Nat), rest.length < n → Z.length + rest.length ≤ 1000 → 1100 ≤ F → (∀ z ∈ Z ++ rest, 0 ≤ z ∧ z < w.length) → Z.Pairwise (totA T S w) → (∀ z ∈ Z, ∀ r ∈ rest, z < r) → rest.Pairwise (· < ·) →
    ∃ Z' : List Int, Z'.Perm (Z ++ rest) ∧ Z'.Pairwise (totA T S w) ∧ ∀ (K : List Int → Int → List Int → Int → Option R), slices_insertionSortCmpFuncint.l0 F n 0 ((Z.length + rest.length : Nat) : Int) (Z.length : Int) (Z ++ rest) T w S K = K Z' T w S := by
  intro rest
  induction rest with
  | nil =>
    intro Z n hn hl hF hb hs _ _
    obtain ⟨n, rfl⟩ : ∃ m, n = m + 1 := ⟨n - 1, by simp at hn; omega⟩
    refine ⟨Z, by simp, hs, fun K => ?_⟩
    simp only [slices_insertionSortCmpFuncint.l0]
    rw [cF (by simp)]
    simp
  | cons x rest ih =>
    intro Z n hn hl hF hb hs hzr hr
    obtain ⟨n, rfl⟩ : ∃ m, n = m + 1 := ⟨n - 1, by simp at hn; omega⟩
    simp only [List.length_cons] at hn hl
    obtain ⟨hr1, hr2⟩ := List.pairwise_cons.1 hr
    have hx := hb x (by simp)
    have hlen : (insR (fun y => decide (keyA T S w y < keyA T S w x)) x Z.reverse).length = Z.length + 1 := by
      rw [(insR_perm _ _ _).length_eq]; simp
    have hperm := insR_perm (fun y => decide (keyA T S w y < keyA T S w x)) x Z.reverse
    rw [List.reverse_reverse] at hperm
    have hsort : (insR (fun y => decide (keyA T S w y < keyA T S w x)) x Z.reverse).Pairwise (totA T S w) := by
      refine insR_sorted (fun a b c h1 h2 => ?_) (by rwa [List.reverse_reverse]) (fun y hy => ?_)
      · unfold totA at *; omega
      · have hlt := hzr y (by simpa using hy) x (by simp)
        by_cases hk : keyA T S w y < keyA T S w x
        · simp only [hk, decide_true, if_true]; exact .inl hk
        · simp only [hk, decide_false, Bool.false_eq_true, if_false]; unfold totA; omega
    obtain ⟨Z', h1, h2, h3⟩ := ih (insR (fun y => decide (keyA T S w y < keyA T S w x)) x Z.reverse) n (by omega) (by omega) hF (fun z hz => by
        rcases List.mem_append.1 hz with hz | hz
        · have := hperm.mem_iff.1 hz
          exact hb z (by simp at this ⊢; rcases this with h | h <;> simp [h])
        · exact hb z (by simp [hz])) hsort (fun z hz r hr => by
        have := hperm.mem_iff.1 hz
        rcases List.mem_append.1 this with h | h
        · exact hzr z h r (by simp [hr])
        · rw [List.mem_singleton.1 h]; exact hr1 r hr) hr2
    refine ⟨Z', h1.trans ?_, h2, fun K => ?_⟩
    · have := hperm.append_right rest
      simpa using this
    · simp only [slices_insertionSortCmpFuncint.l0]
      rw [cT (by simp only [List.length_cons]; omega)]
      have hins := insert_is (R := R) (F := F) hT0 hT1 hw hS0 hS1 0 ((Z.length + (rest.length + 1) : Nat) : Int) (Z.length : Int) [] rfl x Z.reverse rest F (by simp; omega) (by simp; omega) hx.1 hx.2 (fun y hy => hb y (by simp at hy; simp [hy]))
      simp only [List.length_nil, Nat.zero_add, List.length_reverse, List.nil_append, List.reverse_reverse] at hins
      rw [show (Z.length + (x :: rest).length) = Z.length + (rest.length + 1) from rfl]
      rw [hins, w64 (by omega) (by omega)]
      have := h3 K
      rw [hlen] at this
      rw [show Z.length + (rest.length + 1) = Z.length + 1 + rest.length by omega, show ((Z.length : Int) + 1) = ((Z.length + 1 : Nat) : Int) by omega]
      exact this

theorem ins_is (hF : 1100 ≤ F) (l : List Int) (hl : l.length ≤ 1000) (hb : ∀ z ∈ l, 0 ≤ z ∧ z < w.length) (hasc : l.Pairwise (· < ·)) :
    ∃ Z' : List Int, Z'.Perm l ∧ Z'.Pairwise (totA T S w) ∧ ∀ (K : List Int → Int → List Int → Int → Option R), slices_insertionSortCmpFuncint.k F 0 (l.length : Int) l T w S K = K Z' T w S := by
  cases l with
  | nil =>
    refine ⟨[], List.Perm.refl _, List.Pairwise.nil, fun K => ?_⟩
    unfold slices_insertionSortCmpFuncint.k
    obtain ⟨n, rfl⟩ : ∃ m, F = m + 1 := ⟨F - 1, by omega⟩
    simp only [slices_insertionSortCmpFuncint.l0]
    rw [cF (by rw [w64 (by omega) (by omega)]; simp)]
  | cons x l =>
    obtain ⟨h1, h2⟩ := List.pairwise_cons.1 hasc
    obtain ⟨Z', g1, g2, g3⟩ := outer_is (R := R) (F := F) hT0 hT1 hw hS0 hS1 l [x] F (by simp at hl; omega) (by simp at hl ⊢; omega) hF (by simpa using hb) (by simp) (fun z hz r hr => by rw [List.mem_singleton.1 hz]; exact h1 r hr) h2
    refine ⟨Z', g1, g2, fun K => ?_⟩
    unfold slices_insertionSortCmpFuncint.k
    rw [w64 (by omega) (by omega)]
    have := g3 K
    simp only [List.length_singleton, List.singleton_append] at this
    rw [show ((x :: l).length : Int) = ((1 + l.length : Nat) : Int) by simp; omega]
    exact this

theorem stable_is (hF : 1100 ≤ F) (l : List Int) (hl : l.length ≤ 20) (hb : ∀ z ∈ l, 0 ≤ z ∧ z < w.length) (hasc : l.Pairwise (· < ·)) :
    ∃ Z' : List Int, Z'.Perm l ∧ Z'.Pairwise (totA T S w) ∧ ∀ (K : List Int → Int → List Int → Int → Option R), slices_SortStableFuncintint.k F l T w S K = K Z' T w S := by
  obtain ⟨Z', g1, g2, g3⟩ := ins_is (R := R) hT0 hT1 hw hS0 hS1 hF l (by omega) hb hasc
  refine ⟨Z', g1, g2, fun K => ?_⟩
  unfold slices_SortStableFuncintint.k slices_stableCmpFuncint.k
  have hZ : Z'.length = l.length := g1.length_eq
  have last : ∀ (K : List Int → Int → List Int → Int → Option R) (d : List Int) (b : Int), b ≤ 20 → slices_stableCmpFuncint.l1 F F b 20 d T w S K = K d T w S := by
    intro K d b hb
    obtain ⟨n, hn⟩ : ∃ m, F = m + 1 := ⟨F - 1, by omega⟩
    conv => lhs; rw [hn]
    simp only [slices_stableCmpFuncint.l1]
    rw [cF (by omega)]
  obtain ⟨m, hm⟩ : ∃ m, F = m + 2 := ⟨F - 2, by omega⟩
  by_cases h20 : l.length = 20
  · have e1 : slices_stableCmpFuncint.l0 (R := R) F F (l.length : Int) 20 0 20 l T w S = slices_stableCmpFuncint.l0 F (m + 1 + 1) (l.length : Int) 20 0 20 l T w S := by rw [← hm]
    rw [e1]
    simp only [slices_stableCmpFuncint.l0]
    have := fun K => g3 K
    rw [h20] at this
    rw [h20, cT (by omega)]
    rw [show ((20 : Nat) : Int) = 20 by rfl] at this ⊢
    rw [this, w64 (by omega) (by omega), cF (by omega)]
    unfold slices_insertionSortCmpFuncint.k
    have e2 : slices_insertionSortCmpFuncint.l0 (R := R) F F 20 20 = slices_insertionSortCmpFuncint.l0 F (m + 1 + 1) 20 20 := by rw [← hm]
    rw [e2]
    simp only [slices_insertionSortCmpFuncint.l0]
    rw [cF (by rw [w64 (by omega) (by omega)]; omega), last _ _ _ (by omega)]
  · have e1 : slices_stableCmpFuncint.l0 (R := R) F F (l.length : Int) 20 0 20 l T w S = slices_stableCmpFuncint.l0 F (m + 1 + 1) (l.length : Int) 20 0 20 l T w S := by rw [← hm]
    rw [e1]
    simp only [slices_stableCmpFuncint.l0]
    rw [cF (by omega), g3, last _ _ _ (by omega)]
end
end Go.Proofs.Ytcipegkeoheikaa.Dx
/- The program's Allocate: which list, or which error, it gives. -/
namespace Go.Proofs.Ytcipegkeoheikaa.Dx
open Go
set_option linter.unusedVariables false
set_option linter.unusedSimpArgs false
variable {R : Type} {F : Nat}

/-- The numbers from 0 to n - 1. -/
def idx (n : Nat) : List Int := (List.range n).map fun (i : Nat) => (i : Int)
theorem idx_len (n : Nat) : (idx n).length = n := by simp [idx]
theorem idx_get (n j : Nat) (h : j < (idx n).length) : (idx n)[j] = (j : Int) := by simp [idx]
theorem idx_mem (n : Nat) (x : Int) : x ∈ idx n ↔ 0 ≤ x ∧ x < n := by
  unfold idx
  rw [List.mem_map]
  constructor
  · rintro ⟨i, hi, rfl⟩
    have := List.mem_range.1 hi
    omega
  · intro h
    exact ⟨x.toNat, List.mem_range.2 (by omega), by omega⟩
theorem idx_asc (n : Nat) : (idx n).Pairwise (· < ·) := by
  unfold idx
  rw [List.pairwise_map]
  exact List.pairwise_lt_range.imp (fun h => by omega)

/-! ### the shares and their remainders -/
def shr (T S : Int) (l : List Int) : List Int := l.map fun w => T * w / S
def rem (T S : Int) (l : List Int) : List Int := l.map fun w => T * w % S
theorem shr_len (T S : Int) (l : List Int) : (shr T S l).length = l.length := by simp [shr]
theorem rem_len (T S : Int) (l : List Int) : (rem T S l).length = l.length := by simp [rem]

theorem share_bd {T S w : Int} (hT0 : 0 ≤ T) (hT1 : T ≤ 1000000000) (hS : 0 < S) (hw0 : 0 ≤ w) (hw1 : w ≤ S) : 0 ≤ T * w / S ∧ T * w / S ≤ T := by
  have h0 := Int.mul_nonneg hT0 hw0
  refine ⟨Int.ediv_nonneg h0 (by omega), ?_⟩
  have : T * w ≤ T * S := Int.mul_le_mul_of_nonneg_left hw1 hT0
  have h2 := Int.ediv_le_ediv hS this
  rwa [Int.mul_ediv_cancel _ (by omega)] at h2

/-- T times the weights: the shares times the sum and the remainders. -/
theorem shr_sum (T S : Int) (l : List Int) : S * (shr T S l).sum + (rem T S l).sum = T * l.sum := by
  induction l with
  | nil => simp [shr, rem]
  | cons w l ih =>
    have e := Int.emod_add_mul_ediv (T * w) S
    simp only [shr, rem, List.map_cons, List.sum_cons] at *
    rw [Int.mul_add, Int.mul_add]
    omega

theorem rem_nonneg (T S : Int) (hS : 0 < S) (l : List Int) : 0 ≤ (rem T S l).sum ∧ (rem T S l).sum ≤ (S - 1) * l.length := by
  induction l with
  | nil => simp [rem]
  | cons w l ih =>
    have e1 := Int.emod_nonneg (T * w) (show S ≠ 0 by omega)
    have e2 := Int.emod_lt_of_pos (T * w) hS
    simp only [rem, List.map_cons, List.sum_cons, List.length_cons] at *
    rw [show ((l.length + 1 : Nat) : Int) = (l.length : Int) + 1 by omega, Int.mul_add, Int.mul_one]
    omega

/-- How many cents are missing. -/
def mis (T S : Int) (l : List Int) : Int := T - (shr T S l).sum
theorem mis_eq (T S : Int) (l : List Int) (hl : l.sum = S) : S * mis T S l = (rem T S l).sum := by
  have := shr_sum T S l
  unfold mis
  rw [Int.mul_sub, Int.mul_comm S T]
  rw [hl] at this
  omega
theorem mis_bd (T S : Int) (hS : 0 < S) (l : List Int) (hl : l.sum = S) : 0 ≤ mis T S l ∧ (mis T S l < l.length ∨ mis T S l = 0) := by
  have h1 := mis_eq T S l hl
  obtain ⟨h2, h3⟩ := rem_nonneg T S hS l
  have h4 : 0 ≤ mis T S l := by
    rcases Int.lt_or_le (mis T S l) 0 with h | h
    · have := Int.mul_neg_of_pos_of_neg hS h
      omega
    · exact h
  refine ⟨h4, ?_⟩
  by_cases h5 : mis T S l < l.length
  · exact .inl h5
  · right
    have h6 : S * (l.length : Int) ≤ S * mis T S l := Int.mul_le_mul_of_nonneg_left (by omega) (by omega)
    rw [Int.sub_mul, Int.one_mul] at h3
    have h8 : l.length = 0 := by omega
    rw [h8] at h3
    simp only [Int.natCast_zero, Int.mul_zero] at h3
    have h7 : S * mis T S l = 0 := by omega
    rcases Int.mul_eq_zero.1 h7 with h | h <;> omega

instance (T S : Int) (l : List Int) (x y : Int) : Decidable (totA T S l x y) := by unfold totA; infer_instance

/-- The order in which missing cents are given out. -/
def ordr (T S : Int) (l : List Int) : List Int := (idx l.length).mergeSort fun x y => decide (totA T S l x y ∨ x = y)
def bump (b : List Int) (o : Int) : List Int := b.set o.toNat (rd b o + 1)
def allocV (T S : Int) (l : List Int) : List Int := ((ordr T S l).take (mis T S l).toNat).foldl bump (shr T S l)
def allocS (T : Int) (l : List Int) : List Int × Int :=
  if l.length > 1024 then ([], 3) else if T < -1000000000 ∨ 1000000000 < T then ([], 2) else if ¬ okW l then ([], 2) else if l.sum = 0 then ([], 5)
  else if T < 0 then ((allocV (-T) l.sum l).map fun x => -x, 0) else (allocV T l.sum l, 0)

theorem ordr_perm (T S : Int) (l : List Int) : (ordr T S l).Perm (idx l.length) := List.mergeSort_perm _ _
theorem ordr_len (T S : Int) (l : List Int) : (ordr T S l).length = l.length := by rw [(ordr_perm T S l).length_eq, idx_len]
theorem ordr_mem (T S : Int) (l : List Int) (x : Int) : x ∈ ordr T S l ↔ 0 ≤ x ∧ x < l.length := by rw [(ordr_perm T S l).mem_iff, idx_mem]
theorem idx_nodup (n : Nat) : (idx n).Nodup := (idx_asc n).imp (fun h => by omega)
theorem ordr_nodup (T S : Int) (l : List Int) : (ordr T S l).Nodup := (ordr_perm T S l).nodup_iff.2 (idx_nodup _)
theorem ordr_sorted (T S : Int) (l : List Int) : (ordr T S l).Pairwise (totA T S l) := by
  have := List.pairwise_mergeSort (le := fun x y => decide (totA T S l x y ∨ x = y)) (fun a b c h1 h2 => by have h1 : totA T S l a b ∨ a = b := of_decide_eq_true h1; have h2 : totA T S l b c ∨ b = c := of_decide_eq_true h2; apply decide_eq_true; rcases h1 with h1 | rfl; rcases h2 with h2 | rfl; unfold totA at *; omega; exact .inl h1; exact h2) (fun a b => by rw [Bool.or_eq_true, decide_eq_true_eq, decide_eq_true_eq]; unfold totA; omega) (idx l.length)
  have hnd : (ordr T S l).Pairwise (· ≠ ·) := ordr_nodup T S l
  exact (List.Pairwise.and this hnd).imp (fun h => by
    have h1 := h.1
    simp only [decide_eq_true_eq] at h1
    exact h1.resolve_right h.2)

theorem fill (L : List Int) (n j : Nat) (hn : L.length = n) (hj : j < L.length) : (L.take j ++ List.replicate (n - j) 0).set j L[j] = L.take (j + 1) ++ List.replicate (n - (j + 1)) 0 := by
  subst hn
  have h1 : (L.take j).length = j := by rw [List.length_take]; omega
  rw [List.set_append_right _ _ (by omega), h1, Nat.sub_self, show L.length - j = (L.length - (j + 1)) + 1 by omega, List.replicate_succ, List.set_cons_zero, List.take_succ_eq_append_getElem hj, List.append_assoc]
  rfl

theorem le_sum : ∀ {l : List Int}, okW l → ∀ x ∈ l, x ≤ l.sum
  | y :: l, h, x, hx => by
    have h1 := h y (List.mem_cons_self)
    have hl : okW l := fun z hz => h z (List.mem_cons_of_mem _ hz)
    have h2 := okW_sum hl
    rw [List.sum_cons]
    rcases List.mem_cons.1 hx with rfl | hx
    · omega
    · have := le_sum hl x hx
      omega

theorem bump_bd (B : Int) (hB : 0 ≤ B) : ∀ (os : List Int) (b : List Int), (∀ x ∈ b, 0 ≤ x ∧ x ≤ B) → ∀ x ∈ os.foldl bump b, 0 ≤ x ∧ x ≤ B + os.length
  | [], b, h => by simpa using h
  | o :: os, b, h => by
    have hb : ∀ x ∈ bump b o, 0 ≤ x ∧ x ≤ B + 1 := by
      intro x hx
      unfold bump at hx
      rcases List.mem_or_eq_of_mem_set hx with hx | rfl
      · have := h x hx; omega
      · by_cases ho : o.toNat < b.length
        · have e : rd b o = b[o.toNat] := by unfold rd; rw [List.getD_eq_getElem?_getD, List.getElem?_eq_getElem ho]; rfl
          have := h _ (List.getElem_mem ho)
          omega
        · rw [rd_out b o (by omega)]; omega
    intro x hx
    have := bump_bd (B + 1) (by omega) os (bump b o) hb x hx
    rw [List.length_cons]
    omega

theorem bump_len (os b : List Int) : (os.foldl bump b).length = b.length := by
  induction os generalizing b with
  | nil => rfl
  | cons o os ih => rw [List.foldl_cons, ih]; simp [bump]

theorem shr_get (T S : Int) (l : List Int) (j : Nat) (h : j < (shr T S l).length) : (shr T S l)[j] = T * l[j]'(by simpa [shr] using h) / S := by simp [shr]


theorem sum_is (T : Int) (l : List Int) (hn : l.length ≤ 1024) (KR : Int → Option R) (K0 : Int → List Int → Int → Option R) (d : Nat) : ∀ (j : Nat) (acc : Int) (n : Nat), d < n → j + d = l.length → 0 ≤ acc → acc ≤ 1000000000 * j →
    rounding_Allocate.l0 F n l (l.length : Int) (j : Int) T l acc KR K0 = if okW (l.drop j) then K0 T l (acc + (l.drop j).sum) else KR 2 := by
  induction d with
  | zero =>
    intro j acc n hn' hj h0 h1
    obtain ⟨n, rfl⟩ : ∃ m, n = m + 1 := ⟨n - 1, by omega⟩
    simp only [rounding_Allocate.l0]
    rw [cF (by omega), List.drop_of_length_le (by omega), if_pos (by intro x hx; cases hx)]
    simp
  | succ d ih =>
    intro j acc n hn' hj h0 h1
    obtain ⟨n, rfl⟩ : ∃ m, n = m + 1 := ⟨n - 1, by omega⟩
    have hlt : j < l.length := by omega
    have hrd : l.getD (Int.toNat (j : Int)) 0 = l[j] := rd_nat l j hlt
    simp only [rounding_Allocate.l0]
    rw [cT (by omega), cT (by omega), cT (by omega), hrd]
    by_cases hw : 0 ≤ l[j] ∧ l[j] ≤ 1000000000
    · rw [cF (by omega), cF (by omega), w64 (x := (j : Int) + 1) (by omega) (by omega), w64 (x := acc + l[j]) (by omega) (by omega)]
      have := ih (j + 1) (acc + l[j]) n (by omega) (by omega) (by omega) (by omega)
      rw [show ((j + 1 : Nat) : Int) = (j : Int) + 1 by omega] at this
      rw [this]
      have e : okW (l.drop j) ↔ okW (l.drop (j + 1)) := by
        rw [List.drop_eq_getElem_cons hlt]
        constructor
        · intro h x hx; exact h x (List.mem_cons_of_mem _ hx)
        · intro h x hx
          rcases List.mem_cons.1 hx with rfl | hx
          · exact hw
          · exact h x hx
      rw [drop_sum l j hlt, Int.add_assoc]
      simp only [e]
    · rw [if_neg (by intro h; exact hw (h _ (by rw [List.drop_eq_getElem_cons hlt]; exact List.mem_cons_self)))]
      by_cases h2 : l[j] < 0
      · rw [cT h2]
      · rw [cF h2, cT (by omega)]

theorem share_is (s T S : Int) (l : List Int) (hn : l.length ≤ 1024) (hT0 : 0 ≤ T) (hT1 : T ≤ 1000000000) (hok : okW l) (hl : l.sum = S) (hS : 0 < S) (K : Int → Int → Int → List Int → Int → List Int → List Int → Option R) (d : Nat) :
    ∀ (j : Nat) (m : Int) (n : Nat), d < n → j + d = l.length → m = T - ((shr T S l).take j).sum → 0 ≤ ((shr T S l).take j).sum → ((shr T S l).take j).sum ≤ 1000000000 * j →
    rounding_Allocate.l1 F n s m l (l.length : Int) (j : Int) T l S ((shr T S l).take j ++ List.replicate (l.length - j) 0) ((idx l.length).take j ++ List.replicate (l.length - j) 0) K = K s (mis T S l) T l S (shr T S l) (idx l.length) := by
  have hsl := shr_len T S l
  have hil := idx_len l.length
  induction d with
  | zero =>
    intro j m n hn' hj hm _ _
    obtain ⟨n, rfl⟩ : ∃ m, n = m + 1 := ⟨n - 1, by omega⟩
    have e1 : (shr T S l).take j = shr T S l := List.take_of_length_le (by omega)
    have e2 : (idx l.length).take j = idx l.length := List.take_of_length_le (by omega)
    rw [e1] at hm ⊢
    rw [e2, show l.length - j = 0 by omega, List.replicate_zero, List.append_nil, List.append_nil]
    obtain rfl : m = mis T S l := hm
    simp only [rounding_Allocate.l1]
    rw [cF (by omega)]
  | succ d ih =>
    intro j m n hn' hj hm h0 h1
    obtain ⟨n, rfl⟩ : ∃ m, n = m + 1 := ⟨n - 1, by omega⟩
    have hlt : j < l.length := by omega
    have hw := okW_get hok j hlt
    have hp := prod_bd hT0 hT1 hw.1 hw.2
    have hq := share_bd hT0 hT1 hS hw.1 (by rw [← hl]; exact le_sum hok _ (List.getElem_mem hlt))
    have e3 : (shr T S l).length - j = l.length - j := by omega
    have e4 : (idx l.length).length - j = l.length - j := by omega
    have f1 := fill (shr T S l) l.length j hsl (by omega)
    have f2 := fill (idx l.length) l.length j hil (by omega)
    have l1 : ((shr T S l).take j ++ List.replicate (l.length - j) 0).length = l.length := by rw [List.length_append, List.length_take, List.length_replicate]; omega
    have l2 : ((idx l.length).take j ++ List.replicate (l.length - j) 0).length = l.length := by rw [List.length_append, List.length_take, List.length_replicate]; omega
    have l3 : ((shr T S l).take (j + 1) ++ List.replicate (l.length - (j + 1)) 0).length = l.length := by rw [List.length_append, List.length_take, List.length_replicate]; omega
    have hg := shr_get T S l j (by omega)
    have hgi := idx_get l.length j (by omega)
    have hts : ((shr T S l).take (j + 1)).sum = ((shr T S l).take j).sum + (shr T S l)[j]'(by omega) := by
      rw [List.take_succ_eq_append_getElem (by omega), List.sum_append]; simp
    have hrl : l.getD (Int.toNat (j : Int)) 0 = l[j] := rd_nat l j hlt
    have hrd : ((shr T S l).take (j + 1) ++ List.replicate (l.length - (j + 1)) 0).getD (Int.toNat (j : Int)) 0 = (shr T S l)[j]'(by omega) := by
      rw [← f1]; exact rd_set_same _ _ _ (by omega)
    have hset : ((idx l.length).take j ++ List.replicate (l.length - j) 0).set j (j : Int) = (idx l.length).take (j + 1) ++ List.replicate (l.length - (j + 1)) 0 := by
      rw [← f2, hgi]
    simp only [rounding_Allocate.l1]
    rw [hrl, w64 (x := T * l[j]) (by omega) (by omega), Int.tdiv_eq_ediv_of_nonneg hp.1, ← hg, w64 (x := (shr T S l)[j]'(by omega)) (by omega) (by omega), Int.toNat_natCast, f1, hset]
    rw [Int.toNat_natCast] at hrd
    rw [hrd, l1, l2, l3, cT (by omega), cT (by omega), cT (by omega), cF (by omega), cT (by omega), cT (by omega), cT (by omega), cT (by omega), cT (by omega), cT (by omega)]
    rw [w64 (x := (j : Int) + 1) (by omega) (by omega), w64 (x := m - (shr T S l)[j]'(by omega)) (by omega) (by omega)]
    have := ih (j + 1) (m - (shr T S l)[j]'(by omega)) n (by omega) (by omega) (by rw [hts]; omega) (by rw [hts]; omega) (by rw [hts]; omega)
    rw [show ((j + 1 : Nat) : Int) = (j : Int) + 1 by omega] at this
    exact this

theorem bump_is (s : Int) (os : List Int) (t : Nat) (ht : t ≤ os.length) (hn : os.length ≤ 1024) (K : Int → List Int → Option R) (d : Nat) : ∀ (j : Nat) (b : List Int) (n : Nat), d < n → j + d = t → b.length ≤ 1024 → (∀ o ∈ os, 0 ≤ o ∧ o < b.length) → (∀ x ∈ b, 0 ≤ x ∧ x ≤ 1000000000 + j) →
    rounding_Allocate.l2 F n s 0 t (t : Int) (j : Int) b os K = K s (((os.take t).drop j).foldl bump b) := by
  induction d with
  | zero =>
    intro j b n hn' hj hbl ho hb
    obtain ⟨n, rfl⟩ : ∃ m, n = m + 1 := ⟨n - 1, by omega⟩
    simp only [rounding_Allocate.l2]
    rw [cF (by omega), List.drop_of_length_le (by rw [List.length_take]; omega)]
    rfl
  | succ d ih =>
    intro j b n hn' hj hbl ho hb
    obtain ⟨n, rfl⟩ : ∃ m, n = m + 1 := ⟨n - 1, by omega⟩
    have hlt : j < os.length := by omega
    have hoj := ho _ (List.getElem_mem hlt)
    have hob : os[j].toNat < b.length := by omega
    have e : b.getD (Int.toNat os[j]) 0 = b[os[j].toNat] := by rw [List.getD_eq_getElem?_getD, List.getElem?_eq_getElem hob]; rfl
    have hrd : os.getD (0 + Int.toNat (j : Int)) 0 = os[j] := by rw [Nat.zero_add]; exact rd_nat os j hlt
    have hx := hb _ (List.getElem_mem hob)
    have hl : (bump b os[j]).length = b.length := by simp [bump]
    have hbu : b.set (Int.toNat os[j]) (b[os[j].toNat] + 1) = bump b os[j] := by unfold bump rd; rw [e]
    simp only [rounding_Allocate.l2]
    rw [hrd, e, cT (by omega), cT (by omega), cT (by omega), cT (by omega), cT (by omega), cT (by omega), cT (by omega), w64 (x := (j : Int) + 1) (by omega) (by omega), w64 (x := b[os[j].toNat] + 1) (by omega) (by omega), hbu]
    have := ih (j + 1) (bump b os[j]) n (by omega) (by omega) (by omega) (fun o h => by rw [hl]; exact ho o h) (by
        have := bump_bd (1000000000 + j) (by omega) [os[j]] b hb
        intro x hx
        have := this x hx
        simp only [List.length_cons, List.length_nil] at this
        omega)
    rw [show ((j + 1 : Nat) : Int) = (j : Int) + 1 by omega] at this
    rw [this, List.drop_eq_getElem_cons (l := os.take t) (i := j) (by rw [List.length_take]; omega), List.foldl_cons, List.getElem_take]

theorem mul_is (s : Int) (hs : s = 1 ∨ s = -1) (b : List Int) (hb : ∀ x ∈ b, 0 ≤ x ∧ x ≤ 2000000000) (hn : b.length ≤ 1024) (K : List Int → Option R) (d : Nat) : ∀ (j n : Nat), d < n → j + d = b.length → rounding_Allocate.l3 F n s (b.length : Int) (j : Int) ((b.take j).map (· * s) ++ b.drop j) K = K (b.map (· * s)) := by
  induction d with
  | zero =>
    intro j n hn' hj
    obtain ⟨n, rfl⟩ : ∃ m, n = m + 1 := ⟨n - 1, by omega⟩
    simp only [rounding_Allocate.l3]
    rw [cF (by omega), List.take_of_length_le (by omega), List.drop_of_length_le (by omega), List.append_nil]
  | succ d ih =>
    intro j n hn' hj
    obtain ⟨n, rfl⟩ : ∃ m, n = m + 1 := ⟨n - 1, by omega⟩
    have hlt : j < b.length := by omega
    have hl : ((b.take j).map (· * s)).length = j := by simp; omega
    have hx := hb _ (List.getElem_mem hlt)
    have hlen : ((b.take j).map (· * s) ++ b.drop j).length = b.length := by rw [List.length_append, hl, List.length_drop]; omega
    have hrd : ((b.take j).map (· * s) ++ b.drop j).getD (Int.toNat (j : Int)) 0 = b[j] := by
      have := rd_nat ((b.take j).map (· * s) ++ b.drop j) j (by omega)
      rw [List.getElem_append_right (by omega), List.getElem_drop] at this
      refine Eq.trans this ?_
      exact getElem_congr_idx (by omega)
    have hset : ((b.take j).map (· * s) ++ b.drop j).set (j : Int).toNat (b[j] * s) = (b.take (j + 1)).map (· * s) ++ b.drop (j + 1) := by
      rw [Int.toNat_natCast, List.set_append_right _ _ (by omega), hl, Nat.sub_self, List.drop_eq_getElem_cons hlt, List.set_cons_zero, List.take_succ_eq_append_getElem hlt, List.map_append, List.append_assoc]
      rfl
    simp only [rounding_Allocate.l3]
    rw [hrd, hlen, cT (by omega), cT (by omega), cT (by omega), cT (by omega), cT (by omega), w64 (x := (j : Int) + 1) (by omega) (by omega), w64 (x := b[j] * s) (by rcases hs with rfl | rfl <;> omega) (by rcases hs with rfl | rfl <;> omega), hset]
    have := ih (j + 1) n (by omega) (by omega)
    rw [show ((j + 1 : Nat) : Int) = (j : Int) + 1 by omega] at this
    exact this

/-- What follows the sum. -/
theorem rest_is (hF : 1100 ≤ F) (s T S : Int) (hs : s = 1 ∨ s = -1) (l : List Int) (hn0 : 0 < l.length) (hn : l.length ≤ 20) (hT0 : 0 ≤ T) (hT1 : T ≤ 1000000000) (hok : okW l) (hl : l.sum = S) (hS : 0 < S) (K : Int → List Int → Option R) :
    rounding_Allocate.l1 F F s T l (l.length : Int) 0 T l S (List.replicate l.length 0) (List.replicate l.length 0) (fun v28 v29 v30 v31 v32 v33 v34 => (slices_SortStableFuncintint.k F v34 v30 v31 v32 (fun r35 r36 r37 r38 => (cond (Decidable.decide (0 ≤ v29)) (cond (Decidable.decide (v29 ≤ (↑(List.length r35) : Int))) (rounding_Allocate.l2 F F v28 0 (Int.toNat v29 - 0) ((↑(Int.toNat v29 - 0) : Int)) 0 v33 r35 (fun v49 v50 => (rounding_Allocate.l3 F F v49 ((↑(List.length v50) : Int)) 0 v50 (fun v58 => (K 0 v58))))) none) none)))) = K 0 ((allocV T S l).map (· * s)) := by
  have hS1 := (okW_sum hok).2
  have hmb := mis_bd T S hS l hl
  have hil := idx_len l.length
  have hsh := share_is (R := R) (F := F) s T S l (by omega) hT0 hT1 hok hl hS (fun v28 v29 v30 v31 v32 v33 v34 => (slices_SortStableFuncintint.k F v34 v30 v31 v32 (fun r35 r36 r37 r38 => (cond (Decidable.decide (0 ≤ v29)) (cond (Decidable.decide (v29 ≤ (↑(List.length r35) : Int))) (rounding_Allocate.l2 F F v28 0 (Int.toNat v29 - 0) ((↑(Int.toNat v29 - 0) : Int)) 0 v33 r35 (fun v49 v50 => (rounding_Allocate.l3 F F v49 ((↑(List.length v50) : Int)) 0 v50 (fun v58 => (K 0 v58))))) none) none)))) l.length 0 T F (by omega) (by omega) (by simp) (by simp) (by simp)
  simp only [List.take_zero, List.nil_append, Nat.sub_zero] at hsh
  refine hsh.trans ?_
  obtain ⟨Z', z1, z2, z3⟩ := stable_is (R := R) (F := F) hT0 hT1 hok hS (by omega) hF (idx l.length) (by omega) (fun z hz => (idx_mem _ _).1 hz) (idx_asc _)
  have hZ : Z' = ordr T S l := sorted_one (tot := totA T S l) totA_irr (z1.trans (ordr_perm T S l).symm) z2 (ordr_sorted T S l)
  subst hZ
  simp only [z3]
  have hol := ordr_len T S l
  rw [cT hmb.1, cT (by omega)]
  have hom : ∀ o ∈ ordr T S l, 0 ≤ o ∧ o < ((shr T S l).length : Int) := fun o ho => by rw [shr_len]; exact (ordr_mem T S l o).1 ho
  have hb0 : ∀ x ∈ shr T S l, 0 ≤ x ∧ x ≤ 1000000000 := fun x hx => by
    obtain ⟨w, hw, rfl⟩ := List.mem_map.1 hx
    have h1 := hok w hw
    have h2 := le_sum hok w hw
    have := share_bd hT0 hT1 hS h1.1 (by omega)
    omega
  have hbu := fun K => bump_is (R := R) (F := F) s (ordr T S l) (mis T S l).toNat (by omega) (by omega) K (mis T S l).toNat 0 (shr T S l) F (by omega) (by omega) (by rw [shr_len]; omega) hom (fun x hx => by have := hb0 x hx; omega)
  simp only [Nat.sub_zero, Int.natCast_zero, List.drop_zero] at hbu ⊢
  refine (hbu _).trans ?_
  have hml := mul_is (R := R) (F := F) s hs (allocV T S l) (fun x hx => by
      have := bump_bd 1000000000 (by omega) ((ordr T S l).take (mis T S l).toNat) (shr T S l) hb0 x hx
      rw [List.length_take] at this
      omega) (by unfold allocV; rw [bump_len, shr_len]; omega) (fun v58 => K 0 v58) (allocV T S l).length 0 F (by unfold allocV; rw [bump_len, shr_len]; omega) (by omega)
  simp only [List.take_zero, List.map_nil, List.nil_append, List.drop_zero] at hml
  exact hml

theorem lim8 {n : Nat} (h : n ≤ 1000000) : lim 8 n = true := by
  unfold lim
  rw [Bool.and_eq_true]
  exact ⟨Nat.ble_eq_true_of_le (by omega), Nat.ble_eq_true_of_le (by omega)⟩

theorem alloc_is (hF : 1100 ≤ F) (T : Int) (l : List Int) (hn : l.length ≤ 20) (K : Int → List Int → Option R) : rounding_Allocate.k F T l K = K (allocS T l).2 (allocS T l).1 := by
  unfold rounding_Allocate.k allocS
  rw [cF (by omega), if_neg (by omega)]
  by_cases h2 : T < -1000000000
  · rw [cT h2, if_pos (.inl h2)]
  rw [cF h2]
  by_cases h3 : T > 1000000000
  · rw [cT h3, if_pos (.inr h3)]
  rw [cF h3, if_neg (by omega)]
  have hsum := fun K0 => sum_is (R := R) (F := F) T l (by omega) (fun v11 => K v11 []) K0 l.length 0 0 F (by omega) (by omega) (by omega) (by omega)
  simp only [Int.natCast_zero, List.drop_zero, Int.zero_add] at hsum
  rw [hsum]
  by_cases hok : okW l
  · rw [if_pos hok, if_neg (by simpa using hok)]
    by_cases hs : l.sum = 0
    · rw [cT hs, if_pos hs]
    rw [cF hs, if_neg hs]
    have hS := okW_sum hok
    have hn0 : 0 < l.length := by
      rcases Nat.eq_zero_or_pos l.length with h | h
      · exact absurd (by rw [List.eq_nil_of_length_eq_zero h]; rfl) hs
      · exact h
    unfold rounding_Allocate.j0
    by_cases hT : T < 0
    · rw [cT hT, if_pos hT]
      try dsimp only
      rw [cT (by omega), cT (by omega), cT (by omega), cT (by omega)]
      rw [w64 (x := 0 - T) (by omega) (by omega), show 0 - T = -T by omega, Int.toNat_natCast, lim8 (by omega)]
      simp only [cond_true]
      have := rest_is (R := R) hF (-1) (-T) l.sum (.inr rfl) l hn0 hn (by omega) (by omega) hok rfl (by omega) K
      rw [show (fun x : Int => -x) = (· * -1) by funext x; omega]
      exact this
    · rw [cF hT, if_neg hT]
      try dsimp only
      rw [cT (by omega), cT (by omega), cT (by omega), cT (by omega)]
      rw [Int.toNat_natCast, lim8 (by omega)]
      simp only [cond_true]
      have := rest_is (R := R) hF 1 T l.sum (.inl rfl) l hn0 hn (by omega) (by omega) hok rfl (by omega) K
      simpa using this
  · rw [if_neg hok, if_pos hok]

end Go.Proofs.Ytcipegkeoheikaa.Dx
/- What is true of the parts of a division: each is its share or one cent more, more only where there is a remainder, and they add up to the whole. -/
namespace Go.Proofs.Ytcipegkeoheikaa.Dx
open Go
set_option linter.unusedVariables false
set_option linter.unusedSimpArgs false

theorem rem_idx (T S : Int) (l : List Int) : (idx l.length).map (fun x => T * rd l x % S) = rem T S l := by
  unfold rem
  apply List.ext_getElem (by simp [idx])
  intro j h1 h2
  have hj : j < l.length := by simpa using h2
  rw [List.getElem_map, List.getElem_map, idx_get, rd_nat l j hj]

theorem sum_perm {a b : List Int} (h : a.Perm b) : a.sum = b.sum := by
  induction h with
  | nil => rfl
  | cons x _ ih => rw [List.sum_cons, List.sum_cons, ih]
  | swap x y _ => simp only [List.sum_cons]; omega
  | trans _ _ h1 h2 => exact h1.trans h2

theorem sum_le (B : Int) : ∀ (a : List Int), (∀ x ∈ a, x ≤ B) → a.sum ≤ B * a.length
  | [], _ => by simp
  | x :: a, h => by
    have h1 := h x (List.mem_cons_self)
    have h2 := sum_le B a (fun y hy => h y (List.mem_cons_of_mem _ hy))
    rw [List.sum_cons, List.length_cons, show ((a.length + 1 : Nat) : Int) = (a.length : Int) + 1 by omega, Int.mul_add, Int.mul_one]
    omega
theorem sum_zero : ∀ (a : List Int), (∀ x ∈ a, x = 0) → a.sum = 0
  | [], _ => rfl
  | x :: a, h => by rw [List.sum_cons, h x (List.mem_cons_self), sum_zero a (fun y hy => h y (List.mem_cons_of_mem _ hy))]; rfl

/-- In a list that goes down, of numbers below S with the sum S * M, the first M numbers are positive. -/
theorem first_pos (S M : Int) (ks : List Int) (hS : 0 < S) (hk : ∀ x ∈ ks, 0 ≤ x ∧ x < S) (hp : ks.Pairwise (fun x y => y ≤ x)) (hs : ks.sum = S * M) (t : Nat) (ht : t < ks.length) (htM : (t : Int) < M) : 0 < ks[t] := by
  rcases Int.lt_or_le 0 ks[t] with h | h
  · exact h
  exfalso
  have h0 := (hk _ (List.getElem_mem ht)).1
  have e := List.sum_append (l₁ := ks.take t) (l₂ := ks.drop t)
  rw [List.take_append_drop] at e
  have z : (ks.drop t).sum = 0 := sum_zero _ (fun x hx => by
    obtain ⟨j, hj, rfl⟩ := List.getElem_of_mem hx
    have hx0 := (hk _ (List.mem_of_mem_drop hx)).1
    rw [List.getElem_drop] at hx0 ⊢
    rcases Nat.eq_zero_or_pos j with rfl | hj0
    · have : ks[t + 0] = ks[t] := rfl
      omega
    · have := List.pairwise_iff_getElem.1 hp t (t + j) ht (by rw [List.length_drop] at hj; omega) (by omega)
      omega)
  have b := sum_le (S - 1) (ks.take t) (fun x hx => by have := hk x (List.mem_of_mem_take hx); omega)
  rw [List.length_take, Nat.min_eq_left (by omega)] at b
  have h3 : (S - 1) * (t : Int) ≤ (S - 1) * M := Int.mul_le_mul_of_nonneg_left (by omega) (by omega)
  have h4 : (S - 1) * M = S * M - M := by rw [Int.sub_mul, Int.one_mul]
  omega

theorem given_pos (T S : Int) (l : List Int) (hS : 0 < S) (hl : l.sum = S) : ∀ o ∈ (ordr T S l).take (mis T S l).toNat, 0 < T * rd l o % S := by
  intro o ho
  obtain ⟨t, ht, rfl⟩ := List.getElem_of_mem ho
  rw [List.length_take] at ht
  rw [List.getElem_take]
  have hmb := mis_bd T S hS l hl
  have hlen := ordr_len T S l
  have hs : ((ordr T S l).map fun x => T * rd l x % S).sum = S * mis T S l := by
    rw [sum_perm ((ordr_perm T S l).map _), rem_idx, mis_eq T S l hl]
  have := first_pos S (mis T S l) ((ordr T S l).map fun x => T * rd l x % S) hS (fun x hx => by
    obtain ⟨y, _, rfl⟩ := List.mem_map.1 hx
    exact ⟨Int.emod_nonneg _ (by omega), Int.emod_lt_of_pos _ hS⟩) (by
    rw [List.pairwise_map]
    exact (ordr_sorted T S l).imp (fun h => by unfold totA keyA at h; omega)) hs t (by simpa using (show t < (ordr T S l).length by omega)) (by omega)
  simpa using this

/-! ### giving out -/
theorem rd_bump (b : List Int) (o : Int) (j : Nat) (ho : 0 ≤ o ∧ o < b.length) (hj : j < b.length) : rd (bump b o) (j : Int) = rd b (j : Int) + if (j : Int) = o then 1 else 0 := by
  unfold bump
  obtain ⟨i, rfl⟩ : ∃ i : Nat, o = (i : Int) := ⟨o.toNat, by omega⟩
  rw [Int.toNat_natCast]
  by_cases h : j = i
  · subst h
    rw [rd_set_same _ _ _ hj, if_pos rfl]
  · rw [rd_set_other _ _ _ _ (Ne.symm h), if_neg (by omega)]; omega

theorem rd_bumps : ∀ (os b : List Int) (j : Nat), (∀ o ∈ os, 0 ≤ o ∧ o < b.length) → os.Nodup → j < b.length → rd (os.foldl bump b) (j : Int) = rd b (j : Int) + if (j : Int) ∈ os then 1 else 0
  | [], b, j, _, _, _ => by simp
  | o :: os, b, j, ho, hn, hj => by
    have hl : (bump b o).length = b.length := by simp [bump]
    have hn' := List.nodup_cons.1 hn
    rw [List.foldl_cons, rd_bumps os (bump b o) j (fun x hx => by rw [hl]; exact ho x (List.mem_cons_of_mem _ hx)) hn'.2 (by omega), rd_bump b o j (ho o (List.mem_cons_self)) hj]
    by_cases h1 : (j : Int) = o
    · rw [if_pos h1, if_neg (by rw [h1]; exact hn'.1), if_pos (by rw [h1]; exact List.mem_cons_self)]; omega
    · rw [if_neg h1]
      by_cases h2 : (j : Int) ∈ os
      · rw [if_pos h2, if_pos (List.mem_cons_of_mem _ h2)]; omega
      · rw [if_neg h2, if_neg (by intro h; rcases List.mem_cons.1 h with h | h; exact h1 h; exact h2 h)]; omega

theorem sum_set : ∀ (b : List Int) (j : Nat) (v : Int), j < b.length → (b.set j v).sum = b.sum - b.getD j 0 + v
  | x :: b, 0, v, _ => by simp only [List.set_cons_zero, List.sum_cons, List.getD_cons_zero]; omega
  | x :: b, j + 1, v, h => by
    have := sum_set b j v (by simpa using h)
    simp only [List.set_cons_succ, List.sum_cons, List.getD_cons_succ]
    omega

theorem sum_bumps : ∀ (os b : List Int), (∀ o ∈ os, 0 ≤ o ∧ o < b.length) → (os.foldl bump b).sum = b.sum + os.length
  | [], b, _ => by simp
  | o :: os, b, ho => by
    have hl : (bump b o).length = b.length := by simp [bump]
    have h1 := ho o (List.mem_cons_self)
    rw [List.foldl_cons, sum_bumps os (bump b o) (fun x hx => by rw [hl]; exact ho x (List.mem_cons_of_mem _ hx)), List.length_cons]
    have : (bump b o).sum = b.sum + 1 := by
      unfold bump
      rw [sum_set b o.toNat _ (by omega)]
      unfold rd
      omega
    omega

theorem allocV_len (T S : Int) (l : List Int) : (allocV T S l).length = l.length := by unfold allocV; rw [bump_len, shr_len]

/-- The parts of a division. -/
theorem allocV_facts (T S : Int) (l : List Int) (hS : 0 < S) (hl : l.sum = S) :
    (allocV T S l).sum = T ∧ ∀ j, j < l.length → (rd (allocV T S l) (j : Int) = T * rd l (j : Int) / S ∨ rd (allocV T S l) (j : Int) = T * rd l (j : Int) / S + 1 ∧ 0 < T * rd l (j : Int) % S) := by
  have hmb := mis_bd T S hS l hl
  have hlen := ordr_len T S l
  have hos : ∀ o ∈ (ordr T S l).take (mis T S l).toNat, 0 ≤ o ∧ o < ((shr T S l).length : Int) := fun o ho => by
    rw [shr_len]; exact (ordr_mem T S l o).1 (List.mem_of_mem_take ho)
  constructor
  · unfold allocV
    rw [sum_bumps _ _ hos, List.length_take]
    unfold mis at hmb ⊢
    omega
  · intro j hj
    unfold allocV
    rw [rd_bumps _ _ j hos ((ordr_nodup T S l).sublist (List.take_sublist _ _)) (by rw [shr_len]; exact hj)]
    have e : rd (shr T S l) (j : Int) = T * rd l (j : Int) / S := by
      rw [rd_nat _ j (by rw [shr_len]; exact hj), shr_get, rd_nat l j hj]
    rw [e]
    by_cases h : (j : Int) ∈ (ordr T S l).take (mis T S l).toNat
    · rw [if_pos h]; exact .inr ⟨rfl, given_pos T S l hS hl _ h⟩
    · rw [if_neg h]; exact .inl (by omega)
end Go.Proofs.Ytcipegkeoheikaa.Dx
/- The tape of choices of chapter 2: what Next and Pick answer, and their bounds. -/
namespace Go.Proofs.Ytcipegkeoheikaa.Dx
open Go
set_option linter.unusedVariables false
set_option linter.unusedSimpArgs false
variable {R : Type} {F : Nat}

abbrev Tape' := List Int × Int × Unit
/-- The place on a tape of so many numbers. -/
def okT (t : Tape') : Prop := 0 ≤ t.2.1 ∧ t.2.1 ≤ t.1.length ∧ t.1.length ≤ 9223372036854775807

theorem gmod_is (v n : Int) (hn : 0 < n) (hn1 : n ≤ 9223372036854775807) (K : Int → Option R) : payrollgen_Mod.k F v n K = K (v % n) := by
  obtain ⟨⟨e0, e1, e2⟩, hc⟩ := tdm v n hn
  unfold payrollgen_Mod.k
  rw [cF (by omega)]
  rcases hc with ⟨_, ht, _⟩ | ⟨hs, ht, _⟩
  · rw [ht, cF (by omega)]
  · rw [ht, cT (by omega), w64 (by omega) (by omega)]; congr 1; omega

/-- Next gives a number from 0 to n - 1 (0, if n is less than 1) and goes on. -/
theorem tnext_is (t : Tape') (n : Int) (h : okT t) (hn1 : n ≤ 9223372036854775807) : ∃ v t', okT t' ∧ 0 ≤ v ∧ (v < n ∨ n < 1 ∧ v = 0) ∧ ∀ (F : Nat) (R : Type) (K : Int → Tape' → Option R), payrollgen_Tape_Next.k F n t K = K v t' := by
  obtain ⟨l, at_, _⟩ := t
  obtain ⟨h0, h1, h2⟩ := h
  simp only at h0 h1 h2
  by_cases hn : n < 1
  · exact ⟨0, (l, at_, ()), ⟨h0, h1, h2⟩, by omega, .inr ⟨hn, rfl⟩, fun F R K => by unfold payrollgen_Tape_Next.k; rw [cT hn]⟩
  by_cases ha : at_ ≥ (l.length : Int)
  · exact ⟨0, (l, at_, ()), ⟨h0, h1, h2⟩, by omega, .inl (by omega), fun F R K => by unfold payrollgen_Tape_Next.k; rw [cF hn, cT ha]⟩
  have e0 := Int.emod_nonneg (rd l at_) (show n ≠ 0 by omega)
  have e1 := Int.emod_lt_of_pos (rd l at_) (show 0 < n by omega)
  refine ⟨rd l at_ % n, (l, at_ + 1, ()), ⟨by simp only; omega, by simp only; omega, h2⟩, e0, .inl e1, fun F R K => ?_⟩
  unfold payrollgen_Tape_Next.k
  simp only
  rw [cF hn, cF ha, w64 (x := at_ + 1) (by omega) (by omega), w64 (x := at_ + 1 - 1) (by omega) (by omega), show at_ + 1 - 1 = at_ by omega, cT h0, cT (by omega), gmod_is _ _ (by omega) hn1]
  rfl

/-- Pick gives one of the numbers. -/
theorem tpick_is (t : Tape') (xs : List Int) (h : okT t) (hx : 0 < xs.length) (hx1 : xs.length ≤ 1000) : ∃ v t', okT t' ∧ v ∈ xs ∧ ∀ (F : Nat) (R : Type) (K : Int → Tape' → Option R), payrollgen_Tape_Pick.k F xs t K = K v t' := by
  obtain ⟨v, t', ho, h0, h1, e⟩ := tnext_is t (xs.length : Int) h (by omega)
  have h2 : v < (xs.length : Int) := by omega
  refine ⟨rd xs v, t', ho, ?_, fun F R K => ?_⟩
  · obtain ⟨j, rfl⟩ : ∃ j : Nat, v = (j : Int) := ⟨v.toNat, by omega⟩
    rw [rd_nat xs j (by omega)]
    exact List.getElem_mem _
  · unfold payrollgen_Tape_Pick.k
    rw [e, cT h0, cT h2]
    rfl

theorem okT_new (l : List Int) (h : l.length ≤ maxLen) : okT (l, 0, ()) := by
  unfold maxLen at h
  exact ⟨by simp, by simp, by simp only; omega⟩
end Go.Proofs.Ytcipegkeoheikaa.Dx
/- The examples of chapter 2 hold of the program. -/
namespace Go.Proofs.Ytcipegkeoheikaa.Dx
open Go
set_option linter.unusedVariables false
set_option linter.unusedSimpArgs false
variable {R : Type} {F : Nat}

theorem alloc_111 : allocS (-100) [1, 1, 1] = ([-34, -33, -33], 0) := by
  have ho : ordr 100 3 [1, 1, 1] = [0, 1, 2] := by
    refine sorted_one (tot := totA 100 3 [1, 1, 1]) totA_irr (ordr_perm 100 3 [1, 1, 1]) (ordr_sorted 100 3 [1, 1, 1]) (by decide)
  have hv : allocV (- -100) 3 [1, 1, 1] = [34, 33, 33] := by
    rw [show (- -100 : Int) = 100 from rfl]
    unfold allocV
    rw [ho]; rfl
  unfold allocS
  rw [if_neg (by decide), if_neg (by decide), if_neg (by decide), if_neg (by decide), if_pos (by decide), show ([1, 1, 1] : List Int).sum = 3 from rfl, hv]
  rfl

theorem sane_is (hF : 1100 ≤ F) (K : Bool → Option R) : payrolllaw2_sane.k F K = K true := by
  obtain ⟨m, rfl⟩ : ∃ m, F = m + 40 := ⟨F - 40, by omega⟩
  unfold payrolllaw2_sane.k
  have c1 : ∀ K : Int → Int → Option R, rounding_Cents.k (m + 40) (5, 2, ()) 4 K = K 3 0 := fun K => by kernel_rfl
  have c2 : ∀ K : Int → Int → Option R, rounding_Cents.k (m + 40) (-5, 2, ()) 6 K = K (-2) 0 := fun K => by kernel_rfl
  rw [c1, c2, alloc_is (by omega) _ _ (by decide), alloc_111, part_is]
  rfl
end Go.Proofs.Ytcipegkeoheikaa.Dx
/- The parts of a division add up to the whole, each is within one of its exact part, and the weight 0 gets nothing: for every tape and every total. No condition. -/
namespace Go.Proofs.Ytcipegkeoheikaa.Dx
open Go
set_option linter.unusedVariables false
set_option linter.unusedSimpArgs false
variable {F : Nat}

theorem lim8' {n : Nat} (h : n ≤ 1000000) : lim 8 n = true := lim8 h

theorem weights_loop (d : Nat) : ∀ (acc : List Int) (c : Int) (t : Tape'), c = d → d ≤ 7 → acc.length + d ≤ 7 → okW acc → okT t →
    ∃ ws t', okT t' ∧ okW ws ∧ ws.length ≤ 7 ∧ ∀ (F n : Nat) (R : Type) (K : Tape' → List Int → Option R), d < n → payrolllaw2_weights.l0 F n c t acc K = K t' ws := by
  induction d with
  | zero =>
    intro acc c t hc hd hl hw hT
    refine ⟨acc, t, hT, hw, by omega, fun F n R K hn => ?_⟩
    obtain ⟨n, rfl⟩ : ∃ m, n = m + 1 := ⟨n - 1, by omega⟩
    simp only [payrolllaw2_weights.l0]
    rw [cF (by omega)]
  | succ d ih =>
    intro acc c t hc hd hl hw hT
    obtain ⟨v1, t1, hT, h0, h1, e1⟩ := tnext_is t 10 hT (by omega)
    obtain ⟨v2, t2, hT, hm, e2⟩ := tpick_is t1 [1, v1, 0, 1000000000, 3] hT (by simp) (by simp)
    have hv : 0 ≤ v2 ∧ v2 ≤ 1000000000 := by
      simp only [List.mem_cons, List.not_mem_nil, or_false] at hm
      omega
    obtain ⟨ws, t', h2, h3, h4, h5⟩ := ih (acc ++ [v2]) (c - 1) t2 (by omega) (by omega) (by simp; omega) (fun x hx => by
      rcases List.mem_append.1 hx with hx | hx
      · exact hw x hx
      · rw [List.mem_singleton.1 hx]; exact hv) hT
    refine ⟨ws, t', h2, h3, h4, fun F n R K hn => ?_⟩
    obtain ⟨n, rfl⟩ : ∃ m, n = m + 1 := ⟨n - 1, by omega⟩
    simp only [payrolllaw2_weights.l0]
    rw [cT (by omega), e1, e2, lim8 (by simp; omega), w64 (by omega) (by omega)]
    exact h5 F n R K (by omega)

theorem weights_is (t : Tape') (hT : okT t) : ∃ ws t', okT t' ∧ okW ws ∧ ws.length ≤ 7 ∧ ∀ (F : Nat) (R : Type) (K : Tape' → List Int → Option R), 1100 ≤ F → payrolllaw2_weights.k F t K = K t' ws := by
  obtain ⟨c, t1, hT, h0, h1, e1⟩ := tnext_is t 7 hT (by omega)
  obtain ⟨ws, t', h2, h3, h4, h5⟩ := weights_loop c.toNat [] c t1 (by omega) (by omega) (by simp; omega) (fun x hx => by cases hx) hT
  refine ⟨ws, t', h2, h3, h4, fun F R K hF => ?_⟩
  unfold payrolllaw2_weights.k
  rw [e1, h5 F F R _ (by omega)]

theorem cons_sum {R : Type} (ws : List Int) (n e : Int) (ps : List Int) (hok : okW ws) (hn : ws.length ≤ 7) (K : Int → Int → Int → List Int → List Int → Option R) (d : Nat) : ∀ (j m : Nat) (acc : Int), d < m → j + d = ws.length → acc = (ws.take j).sum →
    payrolllaw2_RoundingConserves.l0 F m n e acc (j : Int) ws ps K = K n e ws.sum ws ps := by
  induction d with
  | zero =>
    intro j m acc hm hj ha
    obtain ⟨m, rfl⟩ : ∃ k, m = k + 1 := ⟨m - 1, by omega⟩
    rw [List.take_of_length_le (by omega)] at ha
    subst ha
    simp only [payrolllaw2_RoundingConserves.l0]
    rw [cF (by omega)]
  | succ d ih =>
    intro j m acc hm hj ha
    obtain ⟨m, rfl⟩ : ∃ k, m = k + 1 := ⟨m - 1, by omega⟩
    have hlt : j < ws.length := by omega
    have hw := okW_get hok j hlt
    have hb := okW_sum (l := ws.take j) (fun x hx => hok x (List.mem_of_mem_take hx))
    rw [List.length_take] at hb
    have ht : (ws.take (j + 1)).sum = (ws.take j).sum + ws[j] := by rw [List.take_succ_eq_append_getElem hlt, List.sum_append]; simp
    have hrd : ws.getD (Int.toNat (j : Int)) 0 = ws[j] := rd_nat ws j hlt
    simp only [payrolllaw2_RoundingConserves.l0]
    rw [cT (by omega), cT (by omega), cT (by omega), hrd, w64 (x := acc + ws[j]) (by omega) (by omega), w64 (x := (j : Int) + 1) (by omega) (by omega)]
    have := ih (j + 1) m (acc + ws[j]) (by omega) (by omega) (by omega)
    rw [show ((j + 1 : Nat) : Int) = (j : Int) + 1 by omega] at this
    exact this

/-- What the law asks of one part. -/
def okPart (n S w p : Int) : Prop := p = Int.tdiv (n * w) S ∨ (Int.tmod (n * w) S ≠ 0 ∧ w ≠ 0 ∧ (0 ≤ n ∧ p = Int.tdiv (n * w) S + 1 ∨ n < 0 ∧ p = Int.tdiv (n * w) S - 1))

/-- The condition in the loop: it never returns false. -/
theorem cond_is {R : Type} (n S acc : Int) (j : Nat) (q m : Int) (ws ps : List Int) (w p : Int) (hj : j < ws.length) (hj2 : j < ps.length) (hw : ws.getD j 0 = w) (hp : ps.getD j 0 = p)
    (hq : -1000000000000000001 ≤ q ∧ q ≤ 1000000000000000001) (hz : w = 0 → q = 0) (h : p = q ∨ (m ≠ 0 ∧ w ≠ 0 ∧ (0 ≤ n ∧ p = q + 1 ∨ n < 0 ∧ p = q - 1))) (KN : Int → Int → Int → Int → List Int → List Int → Option R) (KR : Bool → Option R) :
    payrolllaw2_RoundingConserves.j1 F n S acc (j : Int) q m ws ps KN KR = KN n S acc (j : Int) ws ps := by
  unfold payrolllaw2_RoundingConserves.j1 payrolllaw2_RoundingConserves.j2
  have c0 : ((0 : Int) ≤ (j : Int)) := by omega
  have c1 : ((j : Int) < (ws.length : Int)) := by omega
  have c2 : ((j : Int) < (ps.length : Int)) := by omega
  simp only [Int.toNat_natCast, hw, hp, decide_eq_true c0, decide_eq_true c1, decide_eq_true c2, cond_true, w64 (x := q + 1) (by omega) (by omega), w64 (x := q - 1) (by omega) (by omega)]
  by_cases h1 : w = 0
  · have := hz h1
    have hpq : p = q := by rcases h with h | ⟨_, h, _⟩; exact h; exact absurd h1 h
    by_cases h2 : m = 0 <;> by_cases h3 : n ≥ 0 <;> by_cases h4 : n < 0 <;> first | (exfalso; omega) | simp [h1, h2, h3, h4, hpq, this]
  · rcases h with h | ⟨hm0, _, ⟨hn, h⟩ | ⟨hn, h⟩⟩
    · by_cases h2 : m = 0 <;> by_cases h3 : n ≥ 0 <;> by_cases h4 : n < 0 <;> first | (exfalso; omega) | simp [h1, h2, h3, h4, h]
    · have h4 : ¬ n < 0 := by omega
      have h5 : ¬ p = q := by omega
      simp [h1, hm0, hn, h4, h5, h]
    · have h3 : ¬ (0 ≤ n) := by omega
      have h5 : ¬ p = q := by omega
      simp [h1, hm0, hn, h3, h5, h]

theorem cons_loop {R : Type} (ws : List Int) (n : Int) (ps : List Int) (S : Int) (hok : okW ws) (hlen : ps.length = ws.length) (hn7 : ws.length ≤ 7) (hn0 : -1000000000 ≤ n) (hn1 : n ≤ 1000000000) (hS : 0 < S) (hS1 : S ≤ 7000000000)
    (hp : ∀ j (h : j < ws.length), okPart n S ws[j] (rd ps (j : Int)) ∧ -1000000001 ≤ rd ps (j : Int) ∧ rd ps (j : Int) ≤ 1000000001) (KR : Bool → Option R) (K2 : Int → Int → Option R) (d : Nat) :
    ∀ (j k : Nat) (acc : Int), d < k → j + d = ws.length → acc = (ps.take j).sum → -1000000001 * (j : Int) ≤ acc → acc ≤ 1000000001 * (j : Int) → payrolllaw2_RoundingConserves.l1 F k n S acc (j : Int) ws ps KR K2 = K2 n ps.sum := by
  induction d with
  | zero =>
    intro j k acc hk hj ha _ _
    obtain ⟨k, rfl⟩ : ∃ m, k = m + 1 := ⟨k - 1, by omega⟩
    rw [List.take_of_length_le (by omega)] at ha
    subst ha
    simp only [payrolllaw2_RoundingConserves.l1]
    rw [cF (by omega)]
  | succ d ih =>
    intro j k acc hk hj ha h0 h1
    obtain ⟨k, rfl⟩ : ∃ m, k = m + 1 := ⟨k - 1, by omega⟩
    have hlt : j < ws.length := by omega
    have hw := okW_get hok j hlt
    obtain ⟨hpj, hb0, hb1⟩ := hp j hlt
    have hm := mul_bd (show -1000000000 ≤ n by omega) hn1 (show -1000000000 ≤ ws[j] by omega) hw.2
    have hrp := rd_nat ps j (by omega)
    have hrw : ws.getD (Int.toNat (j : Int)) 0 = ws[j] := rd_nat ws j hlt
    have hrp' : ps.getD (Int.toNat (j : Int)) 0 = rd ps (j : Int) := rfl
    have ht : (ps.take (j + 1)).sum = (ps.take j).sum + ps[j]'(by omega) := by rw [List.take_succ_eq_append_getElem (by omega), List.sum_append]; simp
    obtain ⟨⟨q0, q1, q2⟩, hc⟩ := tdm (n * ws[j]) S hS
    have hqb := ediv_bd (n * ws[j]) S 1000000000000000000 hS (by omega) (by omega)
    have hqt : -1000000000000000001 ≤ Int.tdiv (n * ws[j]) S ∧ Int.tdiv (n * ws[j]) S ≤ 1000000000000000001 := by
      rcases hc with ⟨_, _, h⟩ | ⟨_, _, h⟩ <;> rw [h] <;> omega
    have hz : ws[j] = 0 → Int.tdiv (n * ws[j]) S = 0 := by intro h; rw [h, Int.mul_zero, Int.zero_tdiv]
    simp only [payrolllaw2_RoundingConserves.l1]
    rw [cT (by omega), cT (by omega), cT (by omega), cT (by omega), cT (by omega), cF (by omega), cT (by omega), cT (by omega), cF (by omega), hrw, hrp', w64 (x := n * ws[j]) (by omega) (by omega), w64 (x := Int.tdiv (n * ws[j]) S) (by omega) (by omega), w64 (x := acc + rd ps (j : Int)) (by omega) (by omega),
      cond_is n S (acc + rd ps (j : Int)) j _ _ ws ps ws[j] (rd ps (j : Int)) hlt (by omega) (by rw [← hrw]; simp) (by rw [← hrp']; simp) hqt hz hpj, w64 (x := (j : Int) + 1) (by omega) (by omega)]
    have := ih (j + 1) k (acc + rd ps (j : Int)) (by omega) (by omega) (by rw [hrp]; omega) (by omega) (by omega)
    rw [show ((j + 1 : Nat) : Int) = (j : Int) + 1 by omega] at this
    exact this

theorem Pure.roundingConserves (x0 : (List Int)) (x1 : Int) (w0 : Wf (.sl (.int .i64)) x0) (w1 : Wf (.int .i64) x1) : ∃ F, payrolllaw2_RoundingConserves.k F x0 x1 (fun b => cond b (some ()) none) = some () := by
  refine ⟨2000, ?_⟩
  unfold payrolllaw2_RoundingConserves.k payrollgen_New.k
  try dsimp only
  obtain ⟨ws, t1, hT, hok, hlen, hw⟩ := weights_is (x0, 0, ()) (okT_new x0 w0.1)
  rw [hw _ _ _ (by omega)]
  try dsimp only
  rw [gmod_is x1 2000000001 (by omega) (by omega)]
  try dsimp only
  have e0 := Int.emod_nonneg x1 (show (2000000001 : Int) ≠ 0 by omega)
  have e1 := Int.emod_lt_of_pos x1 (show (0 : Int) < 2000000001 by omega)
  rw [w64 (x := x1 % 2000000001 - 1000000000) (by omega) (by omega)]
  unfold payrolllaw2_RoundingConserves.j0
  try dsimp only
  obtain ⟨v, t2, hT, hv0, hv1, e2⟩ := tnext_is t1 2 hT (by omega)
  obtain ⟨u, t3, hT, hu0, hu1, e3⟩ := tnext_is t2 2001 hT (by omega)
  have key : ∀ n : Int, -1000000000 ≤ n → n ≤ 1000000000 → (rounding_Allocate.k 2000 n ws (fun r17 r18 => (payrolllaw2_RoundingConserves.l0 2000 2000 n r17 0 0 ws r18 (fun v28 v29 v30 v31 v32 => (cond (!decide (v29 = 0)) (cond (decide (v29 = 5)) (cond (decide (v30 = 0)) (payrolllaw2_sane.k 2000 (fun r33 => cond r33 (some ()) none)) (cond false (some ()) none)) (cond false (some ()) none)) (cond (!decide ((↑(List.length v32) : Int) = (↑(List.length v31) : Int))) (cond (decide (v29 = 5)) (cond (decide (v30 = 0)) (payrolllaw2_sane.k 2000 (fun r34 => cond r34 (some ()) none)) (cond false (some ()) none)) (cond false (some ()) none)) (payrolllaw2_RoundingConserves.l1 2000 2000 v28 v30 0 0 v31 v32 (fun v375 => cond v375 (some ()) none) (fun v376 v377 => (cond (decide (v377 = v376)) (payrolllaw2_sane.k 2000 (fun r378 => cond r378 (some ()) none)) (cond false (some ()) none)))))))))) = some () := by
    intro n hn0 hn1
    rw [alloc_is (by omega) n ws (by omega)]
    try dsimp only
    have hsb := okW_sum hok
    have hsum := fun e ps K => cons_sum (F := 2000) (R := Unit) ws n e ps hok hlen K ws.length 0 2000 0 (by omega) (by omega) (by simp)
    simp only [Int.natCast_zero] at hsum
    rw [hsum]
    try dsimp only
    unfold allocS
    rw [if_neg (by omega), if_neg (by omega), if_neg (by simpa using hok)]
    by_cases hz : ws.sum = 0
    · simp only [if_pos hz]
      have hsane := fun K => sane_is (R := Unit) (F := 2000) (by omega) K
      simp [hz, hsane]
    · rw [if_neg hz]
      have hS : 0 < ws.sum := by omega
      have go : ∀ ps : List Int, ps.length = ws.length → ps.sum = n → (∀ j (h : j < ws.length), okPart n ws.sum ws[j] (rd ps (j : Int)) ∧ -1000000001 ≤ rd ps (j : Int) ∧ rd ps (j : Int) ≤ 1000000001) →
          (cond (!decide ((0 : Int) = 0)) (cond (decide ((0 : Int) = 5)) (cond (decide (ws.sum = 0)) (payrolllaw2_sane.k 2000 (fun r33 => cond r33 (some ()) none)) (cond false (some ()) none)) (cond false (some ()) none)) (cond (!decide ((↑(List.length ps) : Int) = (↑(List.length ws) : Int))) (cond (decide ((0 : Int) = 5)) (cond (decide (ws.sum = 0)) (payrolllaw2_sane.k 2000 (fun r34 => cond r34 (some ()) none)) (cond false (some ()) none)) (cond false (some ()) none)) (payrolllaw2_RoundingConserves.l1 2000 2000 n ws.sum 0 0 ws ps (fun v375 => cond v375 (some ()) none) (fun v376 v377 => (cond (decide (v377 = v376)) (payrolllaw2_sane.k 2000 (fun r378 => cond r378 (some ()) none)) (cond false (some ()) none)))))) = some () := by
        intro ps hpl hps hpp
        rw [cNF rfl, cNF (by omega)]
        have := cons_loop (F := 2000) (R := Unit) ws n ps ws.sum hok hpl hlen hn0 hn1 hS (by omega) hpp (fun v375 => cond v375 (some ()) none) (fun v376 v377 => (cond (decide (v377 = v376)) (payrolllaw2_sane.k 2000 (fun r378 => cond r378 (some ()) none)) (cond false (some ()) none))) ws.length 0 2000 0 (by omega) (by omega) (by simp) (by simp) (by simp)
        simp only [Int.natCast_zero] at this
        rw [this, cT hps, sane_is (by omega)]
        rfl
      by_cases hn : n < 0
      · simp only [if_pos hn]
        obtain ⟨f1, f2⟩ := allocV_facts (-n) ws.sum ws hS rfl
        have hal := allocV_len (-n) ws.sum ws
        refine go ((allocV (-n) ws.sum ws).map fun x => -x) (by rw [List.length_map, hal]) ?_ ?_
        · have : ∀ a : List Int, (a.map fun x => -x).sum = -a.sum := fun a => by
            induction a with
            | nil => rfl
            | cons x a ih => rw [List.map_cons, List.sum_cons, List.sum_cons, ih]; omega
          rw [this, f1]; omega
        · intro j hj
          have hw := okW_get hok j hj
          have e : rd ((allocV (-n) ws.sum ws).map fun x => -x) (j : Int) = - rd (allocV (-n) ws.sum ws) (j : Int) := by
            rw [rd_nat _ j (by rw [List.length_map, hal]; exact hj), rd_nat _ j (by rw [hal]; exact hj), List.getElem_map]
          rw [e]
          have hf := f2 j hj
          rw [rd_nat ws j hj] at hf
          have hsh := share_bd (T := -n) (S := ws.sum) (by omega) (by omega) hS hw.1 (le_sum hok _ (List.getElem_mem hj))
          have hneg : n * ws[j] = -(-n * ws[j]) := by rw [Int.neg_mul, Int.neg_neg]
          have hpos : 0 ≤ -n * ws[j] := Int.mul_nonneg (by omega) hw.1
          have td : Int.tdiv (n * ws[j]) ws.sum = -(-n * ws[j] / ws.sum) := by rw [hneg, Int.neg_tdiv, Int.tdiv_eq_ediv_of_nonneg hpos]
          have tm : Int.tmod (n * ws[j]) ws.sum = -(-n * ws[j] % ws.sum) := by rw [hneg, Int.neg_tmod, Int.tmod_eq_emod_of_nonneg hpos]
          have hw0 : ws[j] = 0 → -n * ws[j] % ws.sum = 0 := by intro h; rw [h, Int.mul_zero, Int.zero_emod]
          unfold okPart
          rw [td, tm]
          generalize -n * ws[j] / ws.sum = q at *
          generalize -n * ws[j] % ws.sum = m at *
          refine ⟨?_, by omega, by omega⟩
          rcases hf with h | ⟨h, h'⟩
          · exact .inl (by omega)
          · exact .inr ⟨by omega, fun h2 => by have := hw0 h2; omega, .inr ⟨hn, by omega⟩⟩
      · simp only [if_neg hn]
        obtain ⟨f1, f2⟩ := allocV_facts n ws.sum ws hS rfl
        refine go (allocV n ws.sum ws) (allocV_len n ws.sum ws) f1 ?_
        intro j hj
        have hw := okW_get hok j hj
        have hf := f2 j hj
        rw [rd_nat ws j hj] at hf
        have hsh := share_bd (T := n) (S := ws.sum) (by omega) (by omega) hS hw.1 (le_sum hok _ (List.getElem_mem hj))
        have hpos : 0 ≤ n * ws[j] := Int.mul_nonneg (by omega) hw.1
        have hw0 : ws[j] = 0 → n * ws[j] % ws.sum = 0 := by intro h; rw [h, Int.mul_zero, Int.zero_emod]
        unfold okPart
        rw [Int.tdiv_eq_ediv_of_nonneg hpos, Int.tmod_eq_emod_of_nonneg hpos]
        generalize n * ws[j] / ws.sum = q at *
        generalize n * ws[j] % ws.sum = m at *
        refine ⟨?_, by omega, by omega⟩
        rcases hf with h | ⟨h, h'⟩
        · exact .inl (by omega)
        · exact .inr ⟨by omega, fun h2 => by have := hw0 h2; omega, .inl ⟨by omega, by omega⟩⟩
  rw [e2]
  try dsimp only
  by_cases hv : v = 0
  · rw [cT hv, e3]
    try dsimp only
    rw [w64 (x := u - 1000) (by omega) (by omega)]
    exact key _ (by omega) (by omega)
  · rw [cF hv]
    exact key _ (by omega) (by omega)
end Go.Proofs.Ytcipegkeoheikaa.Dx
/- The statement RoundingConserves: for every input the law returns true, and each argument reads behind the call as it read before. -/
namespace Go.Proofs.Ytcipegkeoheikaa.Dx.roundingConserves
open Go Go.ChangeShapes Go.WideShapes Go.ChangeAt Go.RowKit
set_option linter.unusedVariables false
theorem own : ownKnob Try.prog.godebug = none := by kernel_rfl
theorem laidOut : laidOutB Try.prog = true := by kernel_rfl
set_option maxRecDepth 100000 in
theorem lifted (os : Os) (started : os.Started) (H : Type) (enc : TypeId × Value → H) :
    ReturnsInHanded {} Try.checked os 6 .any (Rows.roundingConservesSpec.pre6 enc Try.prog Try.f6 Rows.roundingConservesRow.domain false) (Rows.roundingConservesSpec.post enc Try.prog Try.f6 false true false false) := by
  refine returnsInHanded_of_change_sized (C := Try.checked) own started (by kernel_rfl) Try.func6
    (ChangeSpec.witness6 (enc := enc) (C := Try.checked) false ⟨#[], #[.slice none 0 0, .int .i64 0], []⟩ 8 (by kernel_rfl) (by kernel_rfl) (by kernel_rfl) (by kernel_rfl)) ?_
  intro W base args ds gs before hval0 hW hcnd hsz0 _
  have hval : ∀ (j : Nat) t v, Try.f6.params[j]? = some t → args[j]? = some v → Value.okWide Try.prog W .any base t v := hval0
  have hW' := hW
  obtain ⟨p, q, hA0, hV, rfl, hfz, hnd⟩ := hW
  have hA : DataW.TrodAll enc Try.prog W 0 (fun _ => true) true Try.f6.params.toList args.toList ds p := hA0
  rw [Try.params6] at hA hval
  obtain ⟨v0, vs0, d0, ds0, p0, q0, hargs, rfl, rfl, h0, r0⟩ := trodAll_cons hA
  obtain ⟨v1, vs1, d1, ds1, p1, q1, rfl, rfl, rfl, h1, r1⟩ := trodAll_cons r0
  obtain ⟨rfl, rfl, rfl⟩ := trodAll_nil r1
  obtain rfl : args = #[v0, v1] := by cases args; simp_all
  obtain ⟨rfl, rfl⟩ := trodVars_none hV
  obtain ⟨x0, wf0, y0⟩ := arg_open (P := Try.prog) (s := (.sl (.int .i64))) (by kernel_rfl) (hval 0 22 v0 rfl rfl) h0
  have lt0 : ∀ x ∈ p0, x.block < W.heap.size := by obtain ⟨m, hm⟩ := h0; exact DataW.trod_lt m _ _ _ hm
  obtain ⟨x1, wf1, y1⟩ := arg_open (P := Try.prog) (s := (.int .i64)) (by kernel_rfl) (hval 1 3 v1 rfl rfl) h1
  have lt1 : ∀ x ∈ p1, x.block < W.heap.size := by obtain ⟨m, hm⟩ := h1; exact DataW.trod_lt m _ _ _ hm
  clear hA0 hval0 hsz0
  obtain ⟨F, hF⟩ := Pure.roundingConserves x0 x1 wf0 wf1
  have hk : payrolllaw2_RoundingConserves.c F [.val (.sl (.int .i64)) x0, .val (.int .i64) x1] [] okK = some () := Eq.trans (by kernel_rfl) hF
  refine (law_calls (payrolllaw2_RoundingConserves.ok F) (us := [v0, v1]) hk (.cons y0 (.cons y1 (.nil)))).mono fun e W' ⟨he, bel⟩ => ?_
  subst he
  exact ⟨_, rfl, _, _, _, [], _, [], hW', trodAll_mk1 (shut_bool Try.underlying4 _), (trodAll_cons_mk (Below.trod laidOut (by kernel_rfl) (of_decide_eq_true (by kernel_rfl)) h0 bel lt0) (trodAll_cons_mk (Below.trod laidOut (by kernel_rfl) (of_decide_eq_true (by kernel_rfl)) h1 bel lt1) trodAll_mk0)), rfl, bel.frame _, fun h => by cases h⟩
theorem over : Rows.roundingConservesRow.holds Try.pinned (OpenSpec.ofChange Rows.roundingConservesSpec) :=
  OpenClaim.holds_of_wide 6 Try.f6 rfl rfl rfl rfl rfl rfl rfl ⟨rfl, rfl, rfl, rfl, rfl⟩ rfl rfl rfl rfl rfl (by kernel_rfl) Try.func6 (by kernel_rfl)
    (of_decide_eq_true (by kernel_rfl)) (by unfold Func.isWrapper; first | (rw [if_pos (by decide +kernel)]; kernel_rfl) | (rw [if_neg (by decide +kernel)]; exact ⟨rfl, rfl⟩))
    (fun os started H enc _ => lifted os started H enc)
theorem proved : Rows.RoundingConservesSaid := over
end Go.Proofs.Ytcipegkeoheikaa.Dx.roundingConserves
namespace Go.Proofs.Ytcipegkeoheikaa
/-- The row, under a short name, for the claim. -/
theorem roundingConserves_holds : Rows.RoundingConservesSaid := Dx.roundingConserves.proved
#print axioms roundingConserves_holds
end Go.Proofs.Ytcipegkeoheikaa
