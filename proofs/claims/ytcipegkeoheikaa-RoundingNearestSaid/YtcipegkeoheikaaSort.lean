/- What the call of slices.SortStableFunc in rounding.Allocate does: the row becomes its stable order by remainder, descending; at most 20 elements. -/
import Derived.Test.YtcipegkeoheikaaProg
import Derived.Test.YtcipegkeoheikaaSortLay
import Derived.Test.YtcipegkeoheikaaSortKit
import Derived.Test.YtcipegkeoheikaaWWords
import Derived.Test.YtcipegkeoheikaaWLast
import Derived.Test.YtcipegkeoheikaaWMore
import Derived.Test.YtcipegkeoheikaaWKept
import Derived.Test.YtcipegkeoheikaaWNEv
import Derived.Shelf.SlSortCmp.Insertion
import Derived.Sort.OwnSortedInts
import Derived.WalkKit
import Derived.KernelRfl
import Derived.Deep.QuietTactic
import Derived.BigQuiet
namespace Go.Proofs.Ytcipegkeoheikaa
open Go.RowKit Go.Proofs.YtcipegkeoheikaaW.PrintWords Go.Proofs.YtcipegkeoheikaaW.PrintLast Go.Proofs.YtcipegkeoheikaaW.PrintMore

theorem own_len (A : Option Addr) (n m c c' : Nat) : (Value.slice A n c).ownBlock = (Value.slice A m c').ownBlock := by cases A <;> rfl

def sortAllocate.key (a0 : Int) (l1 : List Int) (a2 : Int) (x : Int) : Int := Int.tmod (wrap64 (a0 * rd l1 x)) a2

def sortAllocate.cf (a0 : Int) (l1 : List Int) (a2 : Int) (x y : Int) : Int := wrap64 (sortAllocate.key a0 l1 a2 y - sortAllocate.key a0 l1 a2 x)

set_option maxHeartbeats 4000000 in
set_option maxRecDepth 100000 in
theorem sortAllocate.closure (a0 : Int) (A1 : Option Addr) (c1 : Nat) (l1 : List Int) (a2 : Int) (g2 g3 g6 : Nat) (W : World) (hb2 : W.heap[g2]? = some (.cells #[.int .i64 a0] 3 (0, 0))) (hb3 : W.heap[g3]? = some (.cells #[.slice A1 l1.length c1] 22 (0, 0))) (hb6 : W.heap[g6]? = some (.cells #[.int .i64 a2] 3 (0, 0)))
    (hr : Kd.C (Kd.int .i64) W A1 l1.length l1) (x y : Int) (hx0 : 0 ≤ x) (hx1 : x < l1.length) (hy0 : 0 ≤ y) (hy1 : y < l1.length) (h0 : a2 ≠ 0) :
    Calls Try.prog 35 #[.int .i64 x, .int .i64 y, .pointer (some ⟨g2, 0, none⟩), .pointer (some ⟨g3, 0, none⟩), .pointer (some ⟨g6, 0, none⟩)] W fun e w' => e = .returned (.int .i64 (sortAllocate.cf a0 l1 a2 x y)) ∧ ∃ q, w' = W.drewN q := by
  obtain ⟨ad, e1, hx⟩ := Kd.at_int hr x hx0 hx1
  cases e1
  obtain ⟨ad2, e2, hy⟩ := Kd.at_int hr y hy0 hy1
  obtain rfl : ad = ad2 := by injection e2
  clear e2
  have k2 : W.cell? ⟨g2, 0, none⟩ = some (.int .i64 a0) := (blk_cell hb2 0).trans rfl
  have k3 : W.cell? ⟨g3, 0, none⟩ = some (.slice (some ad) l1.length c1) := (blk_cell hb3 0).trans rfl
  have k6 : W.cell? ⟨g6, 0, none⟩ = some (.int .i64 a2) := (blk_cell hb6 0).trans rfl
  clear hb2 hb3 hb6 hr
  have hz : (a2 == 0) = false := by simpa using h0
  unfold sortAllocate.cf sortAllocate.key
  go_enter Try.func35, Try.ntmps35
  go_wp2
  go_quiet (fail)
  go_wp2
  go_ret
  exact ⟨rfl, _, rfl⟩

def sortAllocate.enc {m : Nat} (i : Fin (m + 1)) : Value := .int .i64 (i.val : Int)

open Go.Sort in
theorem sortAllocate.putRow_fin {m : Nat} (w : World) (g : Nat) (d : Array (Fin (m + 1))) : putRow sortAllocate.enc w g 0 d = putRow (Value.int .i64) w g 0 (d.map (fun i => (i.val : Int))) := by
  unfold putRow
  refine mapBlock_congr _ _ _ _ fun c e fr _ => ?_
  unfold putCells
  apply Array.ext_getElem?
  intro k
  simp only [Array.getElem?_mapIdx, Array.size_map]
  cases c[k]? with
  | none => rfl
  | some y =>
    simp only [Option.map_some]
    split
    · rename_i h
      rw [getElem!_pos d _ (by omega), getElem!_pos (d.map _) _ (by simp; omega)]
      simp [sortAllocate.enc]
    · rfl

open Go.Sort in
set_option maxHeartbeats 4000000 in
set_option maxRecDepth 100000 in
theorem sortAllocate.stable {m : Nat} (cf : Fin (m + 1) → Fin (m + 1) → Int) (cb : Array Value) (blk off cap : Nat) (d : Array (Fin (m + 1))) (w : World) (hcmp : CmpReads Try.prog 35 cb sortAllocate.enc cf blk off d.size w) (hH : Holds sortAllocate.enc w blk off d) (h20 : d.size < 20) :
    Calls Try.prog 50 #[.slice (some ⟨blk, off, none⟩) d.size cap, .int .i64 d.size, .func (.func 35) #[] cb] w fun e w' => e = .returned (.tuple #[]) ∧ ∃ n, w' = (putRow sortAllocate.enc w blk off (Sort.insertionSort (ltOf cf) d 0 d.size)).drewN n := by
  have eg : ∀ args w, (callFunc 35 args).run Try.prog w = .ok (.enter 35 args) w := enters_of Try.func35 (by kernel_rfl) rfl
  have hcon := Any.insertionSortCmpFunc_one Try.ins55 sortAllocate.enc (fun _ => rfl) cf 35 cb blk off cap 0 d.size d w eg hcmp hH (Nat.zero_le _) (Nat.le_refl _) (by omega)
  change Calls Try.prog 55 #[_, .int .i64 0, _, _] _ _ at hcon
  clear hcmp hH eg
  generalize Sort.insertionSort (ltOf cf) d 0 d.size = r at hcon ⊢
  generalize d.size = n at hcon h20 ⊢
  have h1 : ¬ ((20 : Int) ≤ (n : Int)) := by omega
  have h2 : ¬ ((20 : Int) < (n : Int)) := by omega
  go_enter Try.func50, Try.ntmps50
  go_wp2
  go_loop [7, 8] (fun a b => a = .int .i64 0 ∧ b = .int .i64 20) (fun _ _ => 0)
  case atStart => exact ⟨rfl, rfl⟩
  case round =>
    obtain ⟨rfl, rfl⟩ := hrel
    go_wp2_with (go_at_call 55; refine hcon.mono ?_; rintro e w' ⟨rfl, q, rfl⟩)
    go_loopw [6] (fun a wr => a = .int .i64 20 ∧ wr = (putRow sortAllocate.enc w blk off r).drewN q) (fun _ _ => 0)
    case atStart => exact ⟨rfl, rfl⟩
    case round =>
      obtain ⟨rfl, rfl⟩ := hrel
      go_wp2
      go_end0
      exact ⟨rfl, q, rfl⟩

open Go.Sort in
set_option maxHeartbeats 4000000 in
set_option maxRecDepth 100000 in
theorem sortAllocate.top {m : Nat} (cf : Fin (m + 1) → Fin (m + 1) → Int) (cb : Array Value) (blk off cap : Nat) (d : Array (Fin (m + 1))) (w : World) (hcmp : CmpReads Try.prog 35 cb sortAllocate.enc cf blk off d.size w) (hH : Holds sortAllocate.enc w blk off d) (h20 : d.size < 20) :
    Calls Try.prog 34 #[.slice (some ⟨blk, off, none⟩) d.size cap, .func (.func 35) #[] cb] w fun e w' => e = .returned (.tuple #[]) ∧ ∃ n, w' = (putRow sortAllocate.enc w blk off (Sort.insertionSort (ltOf cf) d 0 d.size)).drewN n := by
  have hcon := sortAllocate.stable cf cb blk off cap d w hcmp hH h20
  clear hcmp hH
  generalize Sort.insertionSort (ltOf cf) d 0 d.size = r at hcon ⊢
  generalize d.size = n at hcon h20 ⊢
  go_enter Try.func34, Try.ntmps34
  go_wp2_with (go_at_call 50; refine hcon.mono ?_; rintro e w' ⟨rfl, q, rfl⟩)
  go_end0
  exact ⟨rfl, q, rfl⟩

/-- The row's stable order by remainder, descending. -/
def sortAllocate.f (xs : List Int) (a0 : Int) (l1 : List Int) (a2 : Int) : Option (List Int) :=
  if xs ≠ [] ∧ xs.length < 20 ∧ 0 < a2 ∧ a2 ≤ 4611686018427387904 ∧ (∀ x ∈ xs, 0 ≤ x ∧ x < (l1.length : Int)) ∧ xs.Pairwise (· < ·) then some (xs.mergeSort (dsc (sortAllocate.key a0 l1 a2))) else none

theorem sortAllocate.key_lt (a0 : Int) (l1 : List Int) (a2 x : Int) (h0 : 0 < a2) : -a2 < sortAllocate.key a0 l1 a2 x ∧ sortAllocate.key a0 l1 a2 x < a2 := by
  unfold sortAllocate.key
  have h1 := Int.tmod_lt_of_pos (wrap64 (a0 * rd l1 x)) h0
  have h2 := Int.lt_tmod_of_pos (wrap64 (a0 * rd l1 x)) h0
  omega

theorem sortAllocate.cf_lt (a0 : Int) (l1 : List Int) (a2 x y : Int) (h0 : 0 < a2) (h1 : a2 ≤ 4611686018427387904) : sortAllocate.cf a0 l1 a2 x y < 0 ↔ sortAllocate.key a0 l1 a2 y < sortAllocate.key a0 l1 a2 x := by
  have hx := sortAllocate.key_lt a0 l1 a2 x h0
  have hy := sortAllocate.key_lt a0 l1 a2 y h0
  unfold sortAllocate.cf
  rw [IntWalk.wrap64_in _ (by omega)]
  omega

open Go.Sort in
theorem sortAllocate.kept {α : Type} [Inhabited α] (enc : α → Value) (w : World) (g m : Nat) (d : Array α) (os : Array Obj) (S : Nat → Prop) (h : S g) : Kept w (sortWorld enc w g 0 m d os) S := by
  unfold sortWorld
  refine ⟨by simp, fun i hi hn => ?_⟩
  rw [heap_grow_old _ _ (by simpa using hi)]
  have : g ≠ i := fun e => hn (e ▸ h)
  simp [putRow, mapBlock, Sort.ahead, Array.getElem?_modify, this]

theorem sortAllocate.reps {w : World} {base : Nat} {ok : Nat → Prop} {xs : List Int} {cs : List Value} (h : Reps ((Kd.int .i64).M w base ok) (Kd.int .i64).sz xs cs) : cs = xs.map (Value.int .i64) := by
  obtain ⟨hl, hr⟩ := h
  have hl' : cs.length = xs.length := by simpa [Kd.int, Kd.scalar] using hl
  apply List.ext_getElem (by simpa using hl')
  intro j h1 h2
  have h3 : j < xs.length := by omega
  have := hr j xs[j] (List.getElem?_eq_getElem h3)
  have e : ((cs.drop (j * (Kd.int .i64).sz)).take (Kd.int .i64).sz) = [cs[j]] := by
    show ((cs.drop (j * 1)).take 1) = [cs[j]]
    rw [Nat.mul_one, List.drop_eq_getElem_cons h1]; rfl
  rw [e] at this
  have h4 : [cs[j]] = [Value.int .i64 xs[j]] := this
  simpa using h4

theorem sortAllocate.reps_mk {w : World} {base : Nat} {ok : Nat → Prop} (xs : List Int) : Reps ((Kd.int .i64).M w base ok) (Kd.int .i64).sz xs (xs.map (Value.int .i64)) := by
  refine ⟨by simp [Kd.int, Kd.scalar], fun j p hj => ?_⟩
  obtain ⟨h3, rfl⟩ := List.getElem?_eq_some_iff.1 hj
  show (((xs.map (Value.int .i64)).drop (j * 1)).take 1) = [Value.int .i64 xs[j]]
  rw [Nat.mul_one, List.drop_eq_getElem_cons (by simpa using h3)]
  simp

open Go.Sort in
theorem sortAllocate.calls (P0_ : Nat → Prop) (u : Value) (xs : List Int) (a0 : Int) (A1 : Option Addr) (c1 : Nat) (l1 : List Int) (a2 : Int) (r : List Int) (w0 w : World) {g2 g3 g6 : Nat} (hB : Below w0.heap.size w0 w)
    (hb2 : ∀ W_, Kept w W_ (fun k_ => P0_ k_) → W_.heap[g2]? = some (.cells #[.int .i64 a0] 3 (0, 0))) (hb3 : ∀ W_, Kept w W_ (fun k_ => P0_ k_) → W_.heap[g3]? = some (.cells #[.slice A1 l1.length c1] 22 (0, 0))) (hb6 : ∀ W_, Kept w W_ (fun k_ => P0_ k_) → W_.heap[g6]? = some (.cells #[.int .i64 a2] 3 (0, 0)))
    (ho : Kd.R (Kd.int .i64) 3 w w0.heap.size P0_ u xs) (hr : ∀ W_, Kept w W_ (fun k_ => P0_ k_) → Kd.C (Kd.int .i64) W_ A1 l1.length l1) (_ : l1.length ≤ c1) (h : sortAllocate.f xs a0 l1 a2 = some r) :
    Calls Try.prog 34 #[u, .func (.func 35) #[] #[.pointer (some ⟨g2, 0, none⟩), .pointer (some ⟨g3, 0, none⟩), .pointer (some ⟨g6, 0, none⟩)]] w fun e w' => e = .returned (.tuple #[]) ∧ Kd.R (Kd.int .i64) 3 w' w0.heap.size P0_ u r ∧ Below w0.heap.size w0 w' ∧ Kept w w' (fun k_ => P0_ k_) := by
  unfold sortAllocate.f at h
  split at h
  case isFalse => cases h
  rename_i hcond
  obtain ⟨hne, h20, h0, h1, hin, hasc⟩ := hcond
  obtain rfl := Option.some.inj h
  obtain ⟨hP, inner, ⟨hlen, hcase⟩, hreps⟩ := ho
  have hl0 : 0 < xs.length := List.length_pos_iff.2 hne
  rcases hcase with ⟨_, hz⟩ | ⟨g, cap, cur, rfl, hbase, hheap, hn, hcapm, hsz, htake⟩
  · omega
  have hPg : P0_ g := hP g rfl
  have hinner := sortAllocate.reps hreps
  subst hinner
  obtain ⟨m, hm⟩ : ∃ m, l1.length = m + 1 := by
    obtain ⟨x, hx⟩ := List.exists_mem_of_ne_nil xs hne
    have := hin x hx
    exact ⟨l1.length - 1, by omega⟩
  have hin' : ∀ x ∈ xs, 0 ≤ x ∧ x < ((m + 1 : Nat) : Int) := fun x hx => by have := hin x hx; omega
  have hds : (fins m xs).toArray.size = xs.length := by simp [fins]
  have hmap : (fins m xs).toArray.map (fun i => (i.val : Int)) = xs.toArray := by
    have := fins_val m xs hin'
    simp only [List.map_toArray, this]
  have htake' : cur.toList.take xs.length = xs.map (Value.int .i64) := by
    have : (xs.length * (Kd.int .i64).sz) = xs.length := Nat.mul_one _
    rw [this] at htake
    exact htake
  have hHI := holds_of_blockI hheap htake'
  have hH : Holds sortAllocate.enc w g 0 (fins m xs).toArray := by
    intro j hj
    have hj2 : j < xs.length := by omega
    have := hHI j (by simpa using hj2)
    refine ⟨?_, this.2⟩
    rw [this.1]
    have e : ((fins m xs).toArray.map (fun i => (i.val : Int)))[j]! = xs.toArray[j]! := by rw [hmap]
    rw [getElem!_pos _ j (by simpa using hj)] at e
    simp only [Array.getElem_map] at e
    rw [← e, getElem!_pos _ j hj]
    rfl
  have hcmp : CmpReads Try.prog 35 #[.pointer (some ⟨g2, 0, none⟩), .pointer (some ⟨g3, 0, none⟩), .pointer (some ⟨g6, 0, none⟩)] sortAllocate.enc (fun x y : Fin (m + 1) => sortAllocate.cf a0 l1 a2 (x.val : Int) (y.val : Int)) g 0 (fins m xs).toArray.size w := by
    intro q os dk _ x y
    have hk := sortAllocate.kept (sortAllocate.enc (m := m)) w g q dk os (fun k_ => P0_ k_) hPg
    have hx := x.isLt
    have hy := y.isLt
    exact sortAllocate.closure a0 A1 c1 l1 a2 g2 g3 g6 _ (hb2 _ hk) (hb3 _ hk) (hb6 _ hk) (hr _ hk) _ _ (by omega) (by omega) (by omega) (by omega) (by omega)
  have hcall := sortAllocate.top _ _ g 0 cap (fins m xs).toArray w hcmp hH (by omega)
  rw [hds] at hcall
  refine hcall.mono ?_
  rintro e w' ⟨rfl, n, rfl⟩
  have hs := sorted_fins m (sortAllocate.key a0 l1 a2) xs hin' hasc (fun x y : Fin (m + 1) => sortAllocate.cf a0 l1 a2 (x.val : Int) (y.val : Int)) (fun x y => sortAllocate.cf_lt a0 l1 a2 _ _ h0 h1)
  rw [hds] at hs
  have hperm : (xs.mergeSort (dsc (sortAllocate.key a0 l1 a2))).length = xs.length := List.length_mergeSort _
  generalize hts : xs.mergeSort (dsc (sortAllocate.key a0 l1 a2)) = ts at hs hperm ⊢
  have hw : (putRow sortAllocate.enc w g 0 (Sort.insertionSort (ltOf fun x y : Fin (m + 1) => sortAllocate.cf a0 l1 a2 (x.val : Int) (y.val : Int)) (fins m xs).toArray 0 xs.length)).drewN n = grow (putRow (Value.int .i64) (Sort.ahead w n) g 0 ts.toArray) #[] := by
    rw [grow_empty, sortAllocate.putRow_fin, putRow_ahead]
    have : ((Sort.insertionSort (ltOf fun x y : Fin (m + 1) => sortAllocate.cf a0 l1 a2 (x.val : Int) (y.val : Int)) (fins m xs).toArray 0 xs.length).map (fun i => (i.val : Int))) = ts.toArray := by
      rw [← hs]
      apply Array.ext'
      simp only [Array.toList_map]
      rfl
    rw [this]
    rfl
  rw [hw]
  have hg := grownBy_sortedI (w := w) (g := g) (n := n) (os := #[]) ts.toArray
  have hgl : g < w.heap.size := blk_lt hheap
  refine ⟨rfl, ⟨fun k hk => hP k (by simpa [Value.ownBlock] using hk), ts.map (Value.int .i64), ?_, sortAllocate.reps_mk ts⟩, ?_, ?_⟩
  · have := ownsRow_sortedI (n := n) (os := #[]) hperm hbase hheap hn hcapm (by simpa [Kd.int, Kd.scalar] using hsz)
    rw [← hperm] at this ⊢
    exact this
  · exact hB.grown hg hB.size (fun k hk => by obtain rfl := Option.some.inj hk; exact hbase)
  · exact ⟨hg.size, fun i hi hn => hg.block i hi (fun e => hn (by obtain rfl := Option.some.inj e; exact hPg))⟩
end Go.Proofs.Ytcipegkeoheikaa
