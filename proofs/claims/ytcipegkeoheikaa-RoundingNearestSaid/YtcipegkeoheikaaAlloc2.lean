/- The program's Allocate: which list, or which error, it gives. -/
import Derived.Test.YtcipegkeoheikaaPNx2
import Derived.Test.YtcipegkeoheikaaNum
import Derived.Test.YtcipegkeoheikaaSort
import Derived.Test.YtcipegkeoheikaaAlloc1
namespace Go.Proofs.Ytcipegkeoheikaa.Pure
open Go.RowKit Go.Proofs.Ytcipegkeoheikaa Go.Proofs.Ytcipegkeoheikaa.PN Go.Proofs.YtcipegkeoheikaaW.PrintWords
set_option linter.unusedVariables false
set_option linter.unusedSimpArgs false

/-- The numbers from 0 to n - 1. -/
def idx (n : Nat) : List Int := (List.range n).map fun (i : Nat) => (i : Int)
theorem idx_len (n : Nat) : (idx n).length = n := by simp [idx]
theorem idx_get (n j : Nat) (h : j < (idx n).length) : (idx n)[j] = (j : Int) := by simp [idx]
theorem idx_mem (n : Nat) (x : Int) : x ∈ idx n ↔ 0 ≤ x ∧ x < n := by
  unfold idx
  rw [List.mem_map]
  constructor
  · rintro ⟨i, hi, rfl⟩
    have := List.mem_range.1 hi
    omega
  · intro h
    exact ⟨x.toNat, List.mem_range.2 (by omega), by omega⟩
theorem idx_asc (n : Nat) : (idx n).Pairwise (· < ·) := by
  unfold idx
  rw [List.pairwise_map]
  exact List.pairwise_lt_range.imp (fun h => by omega)

/-- The order in which missing cents are given out. -/
def ordr (T S : Int) (l : List Int) : List Int := (idx l.length).mergeSort (dsc fun x => T * rd l x % S)
def bump (b : List Int) (o : Int) : List Int := b.set o.toNat (rd b o + 1)
def allocV (T S : Int) (l : List Int) : List Int := ((ordr T S l).take (mis T S l).toNat).foldl bump (shr T S l)
def allocS (T : Int) (l : List Int) : List Int × Int :=
  if l.length > 1024 then ([], 3) else if T < -1000000000 ∨ 1000000000 < T then ([], 2) else if ¬ okW l then ([], 2) else if l.sum = 0 then ([], 5)
  else if T < 0 then ((allocV (-T) l.sum l).map fun x => -x, 0) else (allocV T l.sum l, 0)

theorem fill (L : List Int) (n j : Nat) (hn : L.length = n) (hj : j < L.length) : (L.take j ++ List.replicate (n - j) 0).set j L[j] = L.take (j + 1) ++ List.replicate (n - (j + 1)) 0 := by
  subst hn
  have h1 : (L.take j).length = j := by rw [List.length_take]; omega
  rw [List.set_append_right _ _ (by omega), h1, Nat.sub_self, show L.length - j = (L.length - (j + 1)) + 1 by omega, List.replicate_succ, List.set_cons_zero, List.take_succ_eq_append_getElem hj, List.append_assoc]
  rfl

theorem rd_w (l : List Int) (h : okW l) (x : Int) : 0 ≤ rd l x ∧ rd l x ≤ 1000000000 := by
  by_cases hx : x.toNat < l.length
  · have e : rd l x = l[x.toNat] := by unfold rd; rw [List.getD_eq_getElem?_getD, List.getElem?_eq_getElem hx]; rfl
    rw [e]; exact okW_get h _ hx
  · rw [rd_out l x (by omega)]; omega

theorem key_is (T S : Int) (l : List Int) (hT0 : 0 ≤ T) (hT1 : T ≤ 1000000000) (hok : okW l) : sortAllocate.key T l S = fun x => T * rd l x % S := by
  funext x
  have hw := rd_w l hok x
  have hp := prod_bd hT0 hT1 hw.1 hw.2
  unfold sortAllocate.key
  rw [w64 (by omega) (by omega), Int.tmod_eq_emod_of_nonneg hp.1]

theorem le_sum : ∀ {l : List Int}, okW l → ∀ x ∈ l, x ≤ l.sum
  | y :: l, h, x, hx => by
    have h1 := h y (List.mem_cons_self)
    have hl : okW l := fun z hz => h z (List.mem_cons_of_mem _ hz)
    have h2 := okW_sum hl
    rw [List.sum_cons]
    rcases List.mem_cons.1 hx with rfl | hx
    · omega
    · have := le_sum hl x hx
      omega

theorem sort_is (T S : Int) (l : List Int) (hn0 : 0 < l.length) (hn : l.length < 20) (hT0 : 0 ≤ T) (hT1 : T ≤ 1000000000) (hok : okW l) (hS0 : 0 < S) (hS1 : S ≤ 1024000000000) : sortAllocate.f (idx l.length) T l S = some (ordr T S l) := by
  unfold sortAllocate.f
  rw [if_pos ⟨by intro h; have := idx_len l.length; rw [h] at this; simp at this; omega, by rw [idx_len]; exact hn, hS0, by omega, fun x hx => (idx_mem _ x).1 hx, idx_asc _⟩, key_is T S l hT0 hT1 hok]
  rfl

theorem bump_bd (B : Int) (hB : 0 ≤ B) : ∀ (os : List Int) (b : List Int), (∀ x ∈ b, 0 ≤ x ∧ x ≤ B) → ∀ x ∈ os.foldl bump b, 0 ≤ x ∧ x ≤ B + os.length
  | [], b, h => by simpa using h
  | o :: os, b, h => by
    have hb : ∀ x ∈ bump b o, 0 ≤ x ∧ x ≤ B + 1 := by
      intro x hx
      unfold bump at hx
      rcases List.mem_or_eq_of_mem_set hx with hx | rfl
      · have := h x hx; omega
      · by_cases ho : o.toNat < b.length
        · have e : rd b o = b[o.toNat] := by unfold rd; rw [List.getD_eq_getElem?_getD, List.getElem?_eq_getElem ho]; rfl
          have := h _ (List.getElem_mem ho)
          omega
        · rw [rd_out b o (by omega)]; omega
    intro x hx
    have := bump_bd (B + 1) (by omega) os (bump b o) hb x hx
    rw [List.length_cons]
    omega

theorem bump_len (os b : List Int) : (os.foldl bump b).length = b.length := by
  induction os generalizing b with
  | nil => rfl
  | cons o os ih => rw [List.foldl_cons, ih]; simp [bump]

/-! ### the program's loops -/
theorem mul_loop (s : Int) (hs : s = 1 ∨ s = -1) (b : List Int) (hb : ∀ x ∈ b, 0 ≤ x ∧ x ≤ 2000000000) (hn : b.length ≤ 1024) (d : Nat) : ∀ j : Nat, j + d = b.length → Ev (fun k => rounding_Allocate.l3 k s ((b.take j).map (· * s) ++ b.drop j) (b.length : Int) (j : Int)) (b.map (· * s), 0) := by
  induction d with
  | zero =>
    intro j hj
    refine Ev.step (f := fun _ => some (b.map (· * s), 0)) (fun k => ?_) (Ev.now _)
    simp only [rounding_Allocate.l3]
    rw [if_neg (by omega), List.take_of_length_le (by omega), List.drop_of_length_le (by omega), List.append_nil]
  | succ d ih =>
    intro j hj
    have hlt : j < b.length := by omega
    have hl : ((b.take j).map (· * s)).length = j := by simp; omega
    have hx := hb _ (List.getElem_mem hlt)
    have hlen : ((b.take j).map (· * s) ++ b.drop j).length = b.length := by rw [List.length_append, hl, List.length_drop]; omega
    have hrd : rd ((b.take j).map (· * s) ++ b.drop j) (j : Int) = b[j] := by
      rw [rd_nat _ _ (by omega), List.getElem_append_right (by omega), List.getElem_drop]
      exact getElem_congr_idx (by omega)
    refine Ev.step (f := fun k => rounding_Allocate.l3 k s ((b.take (j + 1)).map (· * s) ++ b.drop (j + 1)) (b.length : Int) ((j + 1 : Nat) : Int)) (fun k => ?_) (ih (j + 1) (by omega))
    simp only [rounding_Allocate.l3]
    rw [if_pos (by omega), if_pos (by omega), if_pos (by omega), hrd, w64 (x := (j : Int) + 1) (by omega) (by omega), w64 (x := b[j] * s) (by rcases hs with rfl | rfl <;> omega) (by rcases hs with rfl | rfl <;> omega)]
    have : ((b.take j).map (· * s) ++ b.drop j).set (j : Int).toNat (b[j] * s) = (b.take (j + 1)).map (· * s) ++ b.drop (j + 1) := by
      rw [Int.toNat_natCast, List.set_append_right _ _ (by omega), hl, Nat.sub_self, List.drop_eq_getElem_cons hlt, List.set_cons_zero, List.take_succ_eq_append_getElem hlt, List.map_append, List.append_assoc]
      rfl
    rw [this]
    rfl

theorem bump_loop (s : Int) (os : List Int) (r : List Int × Int) (hn : os.length ≤ 1024) (d : Nat) : ∀ (j : Nat) (b : List Int), j + d = os.length → b.length ≤ 1024 → (∀ o ∈ os, 0 ≤ o ∧ o < b.length) → (∀ x ∈ b, 0 ≤ x ∧ x ≤ 1000000000 + j) →
    Ev (fun k => rounding_Allocate.l3 k s ((os.drop j).foldl bump b) (((os.drop j).foldl bump b).length : Int) 0) r → Ev (fun k => rounding_Allocate.l2 k s b os (os.length : Int) (j : Int)) r := by
  induction d with
  | zero =>
    intro j b hj hbl ho hb hr
    refine Ev.step (f := fun k => rounding_Allocate.l3 k s b (b.length : Int) 0) (fun k => ?_) ?_
    · simp only [rounding_Allocate.l2]; rw [if_neg (by omega)]
    · rw [List.drop_of_length_le (by omega)] at hr; exact hr
  | succ d ih =>
    intro j b hj hbl ho hb hr
    have hlt : j < os.length := by omega
    have hoj := ho _ (List.getElem_mem hlt)
    have hob : os[j].toNat < b.length := by omega
    have e : rd b os[j] = b[os[j].toNat] := by unfold rd; rw [List.getD_eq_getElem?_getD, List.getElem?_eq_getElem hob]; rfl
    have hx := hb _ (List.getElem_mem hob)
    refine Ev.step (f := fun k => rounding_Allocate.l2 k s (bump b os[j]) os (os.length : Int) ((j + 1 : Nat) : Int)) (fun k => ?_) ?_
    · simp only [rounding_Allocate.l2]
      rw [if_pos (by omega), if_pos (by omega), if_pos (by omega), rd_nat os j hlt, if_pos (by omega), if_pos (by omega), w64 (x := (j : Int) + 1) (by omega) (by omega), w64 (x := rd b os[j] + 1) (by omega) (by omega)]
      rfl
    · have hl : (bump b os[j]).length = b.length := by simp [bump]
      refine ih (j + 1) (bump b os[j]) (by omega) (by omega) (fun o h => by rw [hl]; exact ho o h) ?_ ?_
      · have := bump_bd (1000000000 + j) (by omega) [os[j]] b hb
        intro x hx
        have := this x hx
        simp only [List.length_cons, List.length_nil] at this
        omega
      · rw [List.drop_eq_getElem_cons hlt, List.foldl_cons] at hr
        exact hr

theorem shr_get (T S : Int) (l : List Int) (j : Nat) (h : j < (shr T S l).length) : (shr T S l)[j] = T * l[j]'(by simpa [shr] using h) / S := by simp [shr]

theorem share_loop (s T S : Int) (l : List Int) (r : List Int × Int) (hn : l.length ≤ 1024) (hT0 : 0 ≤ T) (hT1 : T ≤ 1000000000) (hok : okW l) (hl : l.sum = S) (hS : 0 < S)
    (hr : Ev (fun k => (sortAllocate.f (idx l.length) T l S).bind fun t => (if 0 ≤ mis T S l then (if mis T S l ≤ ((idx l.length).length : Int) then ((some (t.take (mis T S l).toNat : List Int)).bind fun y => (rounding_Allocate.l2 k s (shr T S l) y (y.length : Int) 0)) else none) else none)) r) (d : Nat) : ∀ (j : Nat) (m : Int), j + d = l.length → m = T - ((shr T S l).take j).sum → 0 ≤ ((shr T S l).take j).sum → ((shr T S l).take j).sum ≤ 1000000000 * j →
    Ev (fun k => rounding_Allocate.l1 k s ((shr T S l).take j ++ List.replicate (l.length - j) 0) ((idx l.length).take j ++ List.replicate (l.length - j) 0) m l (l.length : Int) (j : Int) T l S) r := by
  have hsl := shr_len T S l
  have hil := idx_len l.length
  induction d with
  | zero =>
    intro j m hj hm _ _
    have e1 : (shr T S l).take j = shr T S l := List.take_of_length_le (by omega)
    have e2 : (idx l.length).take j = idx l.length := List.take_of_length_le (by omega)
    rw [e1] at hm ⊢
    rw [e2, show l.length - j = 0 by omega, List.replicate_zero, List.append_nil, List.append_nil]
    obtain rfl : m = mis T S l := hm
    refine Ev.step (fun k => ?_) hr
    simp only [rounding_Allocate.l1]
    rw [if_neg (by omega)]
  | succ d ih =>
    intro j m hj hm h0 h1
    have hlt : j < l.length := by omega
    have hw := okW_get hok j hlt
    have hp := prod_bd hT0 hT1 hw.1 hw.2
    have hq := share_bd hT0 hT1 hS hw.1 (by rw [← hl]; exact le_sum hok _ (List.getElem_mem hlt))
    have e3 : (shr T S l).length - j = l.length - j := by omega
    have e4 : (idx l.length).length - j = l.length - j := by omega
    have f1 := fill (shr T S l) l.length j hsl (by omega)
    have f2 := fill (idx l.length) l.length j hil (by omega)
    have l1 : ((shr T S l).take j ++ List.replicate (l.length - j) 0).length = l.length := by rw [List.length_append, List.length_take, List.length_replicate]; omega
    have l2 : ((idx l.length).take j ++ List.replicate (l.length - j) 0).length = l.length := by rw [List.length_append, List.length_take, List.length_replicate]; omega
    have hg := shr_get T S l j (by omega)
    have hgi := idx_get l.length j (by omega)
    have hts : ((shr T S l).take (j + 1)).sum = ((shr T S l).take j).sum + (shr T S l)[j]'(by omega) := by
      rw [List.take_succ_eq_append_getElem (by omega), List.sum_append]; simp
    refine Ev.step (f := fun k => rounding_Allocate.l1 k s ((shr T S l).take (j + 1) ++ List.replicate (l.length - (j + 1)) 0) ((idx l.length).take (j + 1) ++ List.replicate (l.length - (j + 1)) 0) (m - (shr T S l)[j]'(by omega)) l (l.length : Int) ((j + 1 : Nat) : Int) T l S) (fun k => ?_) ?_
    · simp only [rounding_Allocate.l1]
      rw [if_pos (by omega), if_pos (by omega), if_pos (by omega), if_neg (by omega), if_pos (by omega), rd_nat l j hlt, w64 (x := T * l[j]) (by omega) (by omega), Int.tdiv_eq_ediv_of_nonneg hp.1, ← hg, w64 (x := (shr T S l)[j]'(by omega)) (by omega) (by omega), Int.toNat_natCast, f1]
      simp only [Option.bind_some]
      rw [if_pos (by omega)]
      have : ((idx l.length).take j ++ List.replicate (l.length - j) 0).set j (j : Int) = (idx l.length).take (j + 1) ++ List.replicate (l.length - (j + 1)) 0 := by
        rw [← f2, hgi]
      rw [this]
      have hrd : rd ((shr T S l).take (j + 1) ++ List.replicate (l.length - (j + 1)) 0) (j : Int) = (shr T S l)[j]'(by omega) := by
        rw [← f1]; exact rd_set_same _ _ _ (by omega)
      rw [hrd, w64 (x := (j : Int) + 1) (by omega) (by omega), w64 (x := m - (shr T S l)[j]'(by omega)) (by omega) (by omega)]
      rfl
    · exact ih (j + 1) _ (by omega) (by rw [hts]; omega) (by rw [hts]; omega) (by rw [hts]; omega)

theorem body_is (s T S : Int) (hs : s = 1 ∨ s = -1) (l : List Int) (hn0 : 0 < l.length) (hn : l.length < 20) (hT0 : 0 ≤ T) (hT1 : T ≤ 1000000000) (hok : okW l) (hl : l.sum = S) (hS : 0 < S) : Ev (fun k => rounding_Allocate.j2 k s T l S) ((allocV T S l).map (· * s), 0) := by
  have hS1 := (okW_sum hok).2
  have hmb := mis_bd T S hS l hl
  have hil := idx_len l.length
  refine Ev.step (f := fun k => rounding_Allocate.l1 k s ((shr T S l).take 0 ++ List.replicate (l.length - 0) 0) ((idx l.length).take 0 ++ List.replicate (l.length - 0) 0) T l (l.length : Int) ((0 : Nat) : Int) T l S) (fun k => ?_) (share_loop s T S l _ (by omega) hT0 hT1 hok hl hS ?_ l.length 0 T (by omega) (by simp) (by simp) (by simp))
  · simp only [rounding_Allocate.j2]
    rw [if_pos (by omega), if_pos (by omega)]
    simp
  · rw [sort_is T S l hn0 hn hT0 hT1 hok hS (by omega)]
    simp only [Option.bind_some, if_pos hmb.1, if_pos (show mis T S l ≤ ((idx l.length).length : Int) by omega)]
    have hol : (ordr T S l).length = l.length := by unfold ordr; rw [List.length_mergeSort, hil]
    have hom : ∀ o ∈ (ordr T S l).take (mis T S l).toNat, 0 ≤ o ∧ o < (l.length : Int) := fun o ho => by
      have h1 := List.mem_of_mem_take ho
      unfold ordr at h1
      exact (idx_mem _ _).1 ((List.mergeSort_perm _ _).mem_iff.1 h1)
    have hb0 : ∀ x ∈ shr T S l, 0 ≤ x ∧ x ≤ 1000000000 := fun x hx => by
      obtain ⟨w, hw, rfl⟩ := List.mem_map.1 hx
      have h1 := hok w hw
      have h2 := le_sum hok w hw
      have := share_bd hT0 hT1 hS h1.1 (by omega)
      omega
    refine bump_loop s ((ordr T S l).take (mis T S l).toNat) _ (by rw [List.length_take]; omega) ((ordr T S l).take (mis T S l).toNat).length 0 (shr T S l) (by omega) (by rw [shr_len]; omega) (fun o ho => by rw [shr_len]; exact hom o ho) (fun x hx => by have := hb0 x hx; omega) ?_
    rw [List.drop_zero]
    have hml := mul_loop s hs (allocV T S l) (fun x hx => by
      have := bump_bd 1000000000 (by omega) ((ordr T S l).take (mis T S l).toNat) (shr T S l) hb0 x hx
      rw [List.length_take] at this
      omega) (by unfold allocV; rw [bump_len, shr_len]; omega) (allocV T S l).length 0 (by omega)
    simp only [List.take_zero, List.map_nil, List.nil_append, List.drop_zero] at hml
    exact hml

theorem alloc_is (T : Int) (l : List Int) (hn : l.length < 20) : Ev (fun k => rounding_Allocate.f k T l) (allocS T l) := by
  have h1 : ¬ ((l.length : Int) > 1024) := by omega
  have h1' : ¬ (l.length > 1024) := by omega
  unfold rounding_Allocate.f allocS
  simp only [if_neg h1, if_neg h1']
  by_cases h2 : T < -1000000000
  · simp only [if_pos h2, if_pos (show T < -1000000000 ∨ 1000000000 < T by omega)]
    exact Ev.step (f := fun _ => some ([], 2)) (fun k => by simp [rounding_Allocate.j0]) (Ev.now _)
  simp only [if_neg h2]
  by_cases h3 : T > 1000000000
  · simp only [decide_eq_true h3, if_pos (show T < -1000000000 ∨ 1000000000 < T by omega)]
    exact Ev.step (f := fun _ => some ([], 2)) (fun k => by simp [rounding_Allocate.j0]) (Ev.now _)
  simp only [decide_eq_false h3, if_neg (show ¬ (T < -1000000000 ∨ 1000000000 < T) by omega)]
  refine Ev.step (f := fun k => rounding_Allocate.l0 k l (l.length : Int) ((0 : Nat) : Int) T l 0) (fun k => by simp [rounding_Allocate.j0]) ?_
  by_cases hok : okW l
  · rw [if_neg (by simpa using hok)]
    refine sum_ok T l (by omega) hok _ l.length 0 0 (by omega) (by omega) (by omega) ?_
    rw [List.drop_zero, Int.zero_add]
    unfold afterSum
    by_cases hs : l.sum = 0
    · simp only [if_pos hs]; exact Ev.now _
    simp only [if_neg hs]
    have hS := okW_sum hok
    have hn0 : 0 < l.length := by
      rcases Nat.eq_zero_or_pos l.length with h | h
      · exact absurd (by rw [List.eq_nil_of_length_eq_zero h]; rfl) hs
      · exact h
    by_cases hT : T < 0
    · simp only [if_pos hT]
      rw [w64 (x := -T) (by omega) (by omega)]
      have := body_is (-1) (-T) l.sum (.inr rfl) l hn0 hn (by omega) (by omega) hok rfl (by omega)
      rw [show (fun x : Int => -x) = (· * -1) by funext x; omega]
      exact this
    · simp only [if_neg hT]
      have := body_is 1 T l.sum (.inl rfl) l hn0 hn (by omega) (by omega) hok rfl (by omega)
      simpa using this
  · rw [if_pos (by simpa using hok)]
    exact sum_bad T l (by omega) l.length 0 0 (by omega) (by omega) (by omega) (by rw [List.drop_zero]; exact hok)
end Go.Proofs.Ytcipegkeoheikaa.Pure
