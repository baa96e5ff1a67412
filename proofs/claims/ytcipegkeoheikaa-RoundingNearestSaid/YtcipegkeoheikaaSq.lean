/- Short names for the steps that the printed walks make again and again: each states its usual side proof as a default. -/
import Derived.Test.YtcipegkeoheikaaWWords
import Derived.Test.YtcipegkeoheikaaWLast
import Derived.Test.YtcipegkeoheikaaWMore
namespace Go.Proofs.YtcipegkeoheikaaW.PrintWords
open Go.RowKit Go.Proofs.YtcipegkeoheikaaW.PrintWords Go.Proofs.YtcipegkeoheikaaW.PrintLast Go.Proofs.YtcipegkeoheikaaW.PrintMore
set_option linter.unusedVariables false

/-- A variable in memory is there behind a call. -/
theorem tb_ {u w w1 : World} {g : Nat} {o o' : Obj} (K : Aside0 (u.heap[g]? = some o)) (hb : Below w.heap.size w w1)
    (h : u.heap[g]? = some o → w.heap[g]? = some o' := by intro hK; (repeat (first | (with_reducible first | exact hK | refine blk_drewN ?_ _ | refine blk_drew ?_ | refine blk_alloc ?_ _) | (apply blk_far; case hp => exact Aside0.out ‹_›) | apply blk_put | exact hK)); all_goals rfl) :
    Aside0 (w1.heap[g]? = some o') := ⟨blk_below (h K.out) hb⟩
theorem tk_ {u w w1 : World} {g g' : Nat} {o o' : Obj} (K : Aside0 (u.heap[g']? = some o)) (hk : KeepBut w w1 g none) (hn : Aside0 (g' ≠ g))
    (h : u.heap[g']? = some o → w.heap[g']? = some o' := by intro hK; (repeat (first | (with_reducible first | exact hK | refine blk_drewN ?_ _ | refine blk_drew ?_ | refine blk_alloc ?_ _) | (apply blk_far; case hp => exact Aside0.out ‹_›) | apply blk_put | exact hK)); all_goals rfl) :
    Aside0 (w1.heap[g']? = some o') := ⟨KeepBut.blk hk (h K.out) hn.out (by simp)⟩
/-- A new variable is not an elder one. -/
theorem nl_ {u W : World} {g gb : Nat} {o o' : Obj} (K : Aside0 (u.heap[g]? = some o)) (hg : gb = W.heap.size)
    (h : u.heap[g]? = some o → W.heap[g]? = some o' := by intro hK; (repeat (first | (with_reducible first | exact hK | refine blk_drewN ?_ _ | refine blk_drew ?_ | refine blk_alloc ?_ _) | (apply blk_far; case hp => exact Aside0.out ‹_›) | apply blk_put | exact hK)); all_goals rfl) :
    Aside0 (g ≠ gb) := ⟨by rw [hg]; exact Nat.ne_of_lt (blk_lt (h K.out))⟩
theorem nr_ {u W : World} {g gb : Nat} {o o' : Obj} (K : Aside0 (u.heap[g]? = some o)) (hg : gb = W.heap.size)
    (h : u.heap[g]? = some o → W.heap[g]? = some o' := by intro hK; (repeat (first | (with_reducible first | exact hK | refine blk_drewN ?_ _ | refine blk_drew ?_ | refine blk_alloc ?_ _) | (apply blk_far; case hp => exact Aside0.out ‹_›) | apply blk_put | exact hK)); all_goals rfl) :
    Aside0 (gb ≠ g) := ⟨by rw [hg]; exact Nat.ne_of_gt (blk_lt (h K.out))⟩
theorem be_ {w U W : World} (K : Aside0 (Below w.heap.size w U))
    (h : Below w.heap.size w U → Below w.heap.size w W := by intro hK; repeat (first | (with_reducible first | exact hK | apply below_alloc | apply pw_below_drewN | apply below_drew1 | refine below_set ?_ (Aside0.out ‹_›)) | exact hK)) : Below w.heap.size w W := h K.out
theorem ts_ {w U W w2 : World} (K : Aside0 (Below w.heap.size w U)) (k : Below W.heap.size W w2)
    (h : Below w.heap.size w U → Below w.heap.size w W := by intro hK; repeat (first | (with_reducible first | exact hK | apply below_alloc | apply pw_below_drewN | apply below_drew1 | refine below_set ?_ (Aside0.out ‹_›)) | exact hK)) :
    Aside0 (Below w.heap.size w w2) := ⟨below_step (h K.out) k⟩
theorem sz_ {w U W : World} {gb : Nat} (K : Aside0 (Below w.heap.size w U)) (hg : gb = W.heap.size)
    (h : Below w.heap.size w U → Below w.heap.size w W := by intro hK; repeat (first | (with_reducible first | exact hK | apply below_alloc | apply pw_below_drewN | apply below_drew1 | refine below_set ?_ (Aside0.out ‹_›)) | exact hK)) :
    Aside0 (w.heap.size ≤ gb) := ⟨by rw [hg]; exact below_size (h K.out)⟩
theorem ke_ {w U W : World} {g : Nat} (K : Aside0 (KeepBut w U g none))
    (h : KeepBut w U g none → KeepBut w W g none := by intro hK; repeat (first | (with_reducible first | exact hK | apply KeepBut.set_ | apply keep_drewN | apply keep_drew | apply keep_alloc | refine keep_far ?_ (Aside0.out ‹_›) _) | exact hK)) :
    KeepBut w W g none := h K.out
theorem kt_ {w U W w2 : World} {g : Nat} (K : Aside0 (KeepBut w U g none)) (k : KeepBut W w2 g none)
    (h : KeepBut w U g none → KeepBut w W g none := by intro hK; repeat (first | (with_reducible first | exact hK | apply KeepBut.set_ | apply keep_drewN | apply keep_drew | apply keep_alloc | refine keep_far ?_ (Aside0.out ‹_›) _) | exact hK)) :
    Aside0 (KeepBut w w2 g none) := ⟨KeepBut.trans (h K.out) k (.inl rfl)⟩
theorem kb_ {w U W w2 : World} {g : Nat} (K : Aside0 (KeepBut w U g none)) (k : Below W.heap.size W w2)
    (h : KeepBut w U g none → KeepBut w W g none := by intro hK; repeat (first | (with_reducible first | exact hK | apply KeepBut.set_ | apply keep_drewN | apply keep_drew | apply keep_alloc | refine keep_far ?_ (Aside0.out ‹_›) _) | exact hK)) :
    Aside0 (KeepBut w w2 g none) := ⟨KeepBut.trans (h K.out) (KeepBut.of_below k g none) (.inl rfl)⟩
theorem ks_ {w U W : World} {g gb : Nat} (K : Aside0 (KeepBut w U g none)) (hg : gb = W.heap.size)
    (h : KeepBut w U g none → KeepBut w W g none := by intro hK; repeat (first | (with_reducible first | exact hK | apply KeepBut.set_ | apply keep_drewN | apply keep_drew | apply keep_alloc | refine keep_far ?_ (Aside0.out ‹_›) _) | exact hK)) :
    Aside0 (w.heap.size ≤ gb) := ⟨by rw [hg]; exact keep_size (h K.out)⟩
theorem kw_ {w0 w U W : World} {g gb : Nat} (H : Aside0 (w0.heap.size ≤ w.heap.size)) (K : Aside0 (KeepBut w U g none)) (hg : gb = W.heap.size)
    (h : KeepBut w U g none → KeepBut w W g none := by intro hK; repeat (first | (with_reducible first | exact hK | apply KeepBut.set_ | apply keep_drewN | apply keep_drew | apply keep_alloc | refine keep_far ?_ (Aside0.out ‹_›) _) | exact hK)) :
    Aside0 (w0.heap.size ≤ gb) := ⟨Nat.le_trans H.out (by rw [hg]; exact keep_size (h K.out))⟩
/-- A row of the function's own is there behind a call. -/
theorem rb_ {α : Type} {d : Kd α} {e base : Nat} {ok : Nat → Prop} {U w w1 : World} {v : Value} {xs : List α} (K : Aside0 (d.R e U base ok v xs)) (hb : Below w.heap.size w w1)
    (h : d.R e U base ok v xs → d.R e w base ok v xs := by intro hK; (with_reducible repeat (first | apply Kd.R_alloc | apply Kd.R_drewN | apply Kd.R_drew)); exact hK) :
    Aside0 (d.R e w1 base ok v xs) := ⟨Kd.R_below (h K.out) hb⟩
theorem re_ {α : Type} {d : Kd α} {e base : Nat} {ok : Nat → Prop} {U w : World} {v : Value} {xs : List α} (K : Aside0 (d.R e U base ok v xs))
    (h : d.R e U base ok v xs → d.R e w base ok v xs := by intro hK; (with_reducible repeat (first | apply Kd.R_alloc | apply Kd.R_drewN | apply Kd.R_drew)); exact hK) :
    d.R e w base ok v xs := h K.out
section
variable {P : Program} {ops : Array Oper} {rest : List Oper} {oi : Oper} {a : Act} {Q : Exit → Act → World → Prop} {w : World}
/-- A call in a plain region. -/
theorem gq_ (N : Option Tmp) (hd : oi.dst = N) (hg : oi.guard = none) {f : FuncId} {fn : Func} {as : Array Operand} {ts : Array TypeId} (hf : P.funcs[f]? = some fn) (args : Array Value)
    (hop : oi.op = .call { callee := .value (.func f), args := as, argTypes := ts })
    (h : Calls P f args w fun e w' => ∃ v, e = .returned v ∧ wpList P ops Q rest (a.put N v) w')
    (hname : (fn.name == "runtime.NumGoroutine") = false := by kernel_rfl) (hb : fn.body.isSome = true := by rfl)
    (hargs : as.map a.eval = args := by (try simp only [List.map_toArray, List.map_cons, List.map_nil]); first | done | rfl | (simp only [List.length_drop, List.length_take]; rfl)) : wpList P ops Q (oi :: rest) a w :=
  goesL_ N hd hg hf hname hb args hop hargs h
/-- A new variable in memory. -/
theorem bx_ {N : Tmp} {cs : Array Value} {t : TypeId}
    (h : ∀ g, g = w.heap.size → ∀ w1, w1.heap[g]? = some (.cells cs t (0, 0)) → Below w.heap.size w w1 → wpList P ops Q rest (a.put oi.dst (.pointer (some ⟨g, 0, none⟩))) w1)
    (hd : oi.dst = some N := by rfl) (hgd : oi.guard = none := by rfl)
    (hrun : (execOp a.eval oi).run P w = .ok (.value (.pointer (some ⟨w.heap.size, 0, none⟩))) (w.alloc (.cells cs t (0, 0))) := by first | (go_simp; done) | (go_simp; rfl)) : wpList P ops Q (oi :: rest) a w :=
  box_event hgd hd hrun h
end
end Go.Proofs.YtcipegkeoheikaaW.PrintWords
