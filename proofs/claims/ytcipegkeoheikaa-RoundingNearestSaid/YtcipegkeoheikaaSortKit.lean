/- Plain lemmas on insertion sort: under a comparison by key alone it gives, on a list that is ascending in some position, what it gives under the comparison by key and position; so the result is the stable order. -/
import Derived.Sort.LotA
import Derived.Sort.WalkA
namespace Go.Proofs.Ytcipegkeoheikaa
open Go.Sort
section
variable {α : Type} [Inhabited α] {lt lt' : α → α → Bool} {pos : α → Nat}

theorem insInner_permIn (lt : α → α → Bool) (b : Nat) : ∀ (j : Nat) (d : Array α), j < b → b ≤ d.size → PermIn 0 b d (insInner lt 0 j d)
  | 0, d, _, _ => by unfold insInner; exact permIn_refl d 0 b
  | j + 1, d, hj, hb => by
    unfold insInner
    split
    · exact permIn_trans _ _ _ 0 b (swp_permIn d 0 b (j + 1) j (by omega) hj (by omega) (by omega) hb) (insInner_permIn lt b j (swp d (j + 1) j) (by omega) (by rw [swp_size]; exact hb))
    · exact permIn_refl d 0 b

theorem insInner_swap (h : ∀ x y, pos y < pos x → lt x y = lt' x y) : ∀ (j : Nat) (d : Array α), j < d.size → (∀ p, p < j → pos d[p]! < pos d[j]!) → insInner lt 0 j d = insInner lt' 0 j d
  | 0, d, _, _ => by unfold insInner; rfl
  | j + 1, d, hj, hp => by
    unfold insInner
    rw [h d[j + 1]! d[j]! (hp j (by omega))]
    split
    · exact insInner_swap h j (swp d (j + 1) j) (by rw [swp_size]; omega) (fun p hpj => by
        have g := swp_get d hj (show j < d.size by omega)
        rw [g, g, if_neg (by omega), if_neg (by omega), if_pos rfl]
        exact hp p (by omega))
    · rfl

theorem insOuter_swap (h : ∀ x y, pos y < pos x → lt x y = lt' x y) : ∀ (n i : Nat) (d : Array α), d.size - i = n → 0 < i → (∀ p q, p < i → i ≤ q → q < d.size → pos d[p]! < pos d[q]!) → (∀ p q, i ≤ p → p < q → q < d.size → pos d[p]! < pos d[q]!) → insOuter lt 0 d.size i d = insOuter lt' 0 d.size i d
  | 0, i, d, hn, h0, _, _ => by rw [insOuter_stop _ _ _ _ _ (by omega), insOuter_stop _ _ _ _ _ (by omega)]
  | n + 1, i, d, hn, h0, h1, h2 => by
    have hlt : i < d.size := by omega
    rw [insOuter_go _ _ _ _ _ hlt, insOuter_go _ _ _ _ _ hlt, ← insInner_swap h i d hlt (fun p hp => h1 p i hp (Nat.le_refl _) hlt)]
    have hP := insInner_permIn lt (i + 1) i d (by omega) (by omega)
    obtain ⟨hs, ho, hp⟩ := hP
    have hall := permIn_all d (insInner lt 0 i d) 0 (i + 1)
    generalize hd : insInner lt 0 i d = d' at hs ho hp hall
    have := insOuter_swap h n (i + 1) d' (by omega) (by omega) (fun p q hp1 hq1 hq2 => by
      rw [ho q (Or.inr hq1)]
      refine hall (fun x => pos x < pos d[q]!) (by omega) ⟨hs, ho, hp⟩ (fun k _ hk => ?_) p (Nat.zero_le _) (by omega)
      by_cases e : k = i
      · subst e; exact h2 k q (Nat.le_refl _) (by omega) (by omega)
      · exact h1 k q (by omega) (by omega) (by omega)) (fun p q hp1 hpq hq => by
      rw [ho q (Or.inr (by omega)), ho p (Or.inr (by omega))]
      exact h2 p q (by omega) hpq (by omega))
    rw [hs] at this
    exact this

/-- On a row that is ascending in 'pos', sorting by lt is sorting by lt', which parts ties by 'pos'. -/
theorem insertionSort_swap (h : ∀ x y, pos y < pos x → lt x y = lt' x y) (d : Array α) (hasc : ∀ p q, p < q → q < d.size → pos d[p]! < pos d[q]!) : insertionSort lt d 0 d.size = insertionSort lt' d 0 d.size := by
  unfold insertionSort
  exact insOuter_swap h _ 1 d rfl (by omega) (fun p q hp hq hq2 => hasc p q (by omega) hq2) (fun p q _ hpq hq => hasc p q hpq hq)

theorem insertionSort_stable (h : ∀ x y, pos y < pos x → lt x y = lt' x y) (hS : SWO lt') (hT : ∀ x y, lt' x y = false → lt' y x = false → x = y) (d : Array α) (hasc : ∀ p q, p < q → q < d.size → pos d[p]! < pos d[q]!) :
    (insertionSort lt d 0 d.size).toList = d.toList.mergeSort (fun x y => !lt' y x) := by
  rw [insertionSort_swap h d hasc]
  have := insertionSort_holds (lt := lt') hS d 0 d.size (Nat.zero_le _) (Nat.le_refl _)
  exact sorted_unique_holds hS hT d _ this.1 this.2
end

theorem getD_in (xs : List Int) (k : Nat) (h : k < xs.length) : xs.getD k 0 = xs[k] := by simp [List.getD_eq_getElem?_getD, h]

/-! ### a key on whole numbers from 0 to n - 1, descending; ties by the number itself -/
def dsc (key : Int → Int) (x y : Int) : Bool := decide (key y < key x ∨ key x = key y ∧ x ≤ y)

def fins (m : Nat) (xs : List Int) : List (Fin (m + 1)) := xs.map fun x => ⟨x.toNat % (m + 1), Nat.mod_lt _ (Nat.succ_pos m)⟩
theorem fins_val (m : Nat) (xs : List Int) (h : ∀ x ∈ xs, 0 ≤ x ∧ x < (m + 1 : Nat)) : (fins m xs).map (fun i => (i.val : Int)) = xs := by
  unfold fins
  rw [List.map_map]
  conv => rhs; rw [← List.map_id xs]
  refine List.map_congr_left fun x hx => ?_
  obtain ⟨h0, h1⟩ := h x hx
  show ((x.toNat % (m + 1) : Nat) : Int) = x
  rw [Nat.mod_eq_of_lt (by omega)]
  omega

theorem sorted_fins (m : Nat) (key : Int → Int) (xs : List Int) (h : ∀ x ∈ xs, 0 ≤ x ∧ x < (m + 1 : Nat)) (hasc : xs.Pairwise (· < ·)) (cf : Fin (m + 1) → Fin (m + 1) → Int) (hcf : ∀ x y : Fin (m + 1), cf x y < 0 ↔ key (y.val : Int) < key (x.val : Int)) :
    (insertionSort (fun x y => decide (cf x y < 0)) (fins m xs).toArray 0 (fins m xs).toArray.size).toList.map (fun i => (i.val : Int)) = xs.mergeSort (dsc key) := by
  let lt' : Fin (m + 1) → Fin (m + 1) → Bool := fun x y => decide (key (y.val : Int) < key (x.val : Int) ∨ key (x.val : Int) = key (y.val : Int) ∧ x.val < y.val)
  rw [insertionSort_stable (lt' := lt') (pos := fun i => i.val)]
  · rw [List.map_mergeSort (s := dsc key)]
    · rw [fins_val m xs h]
    · intro a _ b _
      simp only [lt', dsc]
      rw [← decide_not]
      apply decide_eq_decide.2
      omega
  · intro x y hxy
    simp only [lt']
    apply decide_eq_decide.2
    rw [hcf]
    have hxy' : y.val < x.val := hxy
    omega
  · exact ⟨fun x => by simp [lt'], fun x y z h1 h2 => by simp only [lt', decide_eq_true_eq] at *; omega, fun x y z h1 h2 => by simp only [lt', decide_eq_false_iff_not] at *; omega⟩
  · intro x y h1 h2
    simp only [lt', decide_eq_false_iff_not] at h1 h2
    apply Fin.ext
    omega
  · intro p q hpq hq
    have hq' : q < xs.length := by simpa [fins] using hq
    have e : ∀ k, k < xs.length → (((fins m xs).toArray[k]!).val : Int) = xs.getD k 0 := fun k hk => by
      have hk2 : k < (fins m xs).toArray.size := by simpa [fins] using hk
      rw [getElem!_pos _ k hk2]
      have hk3 := h xs[k] (List.getElem_mem hk)
      have : ((fins m xs).toArray[k]).val = (xs[k]).toNat % (m + 1) := by simp [fins]
      rw [this, getD_in _ _ hk, Nat.mod_eq_of_lt (by omega)]
      omega
    have hlt := List.pairwise_iff_getElem.1 hasc p q (by omega) hq' hpq
    have e1 := e p (by omega)
    have e2 := e q hq'
    rw [getD_in _ _ (show p < xs.length by omega)] at e1
    rw [getD_in _ _ hq'] at e2
    show ((fins m xs).toArray[p]!).val < ((fins m xs).toArray[q]!).val
    omega
end Go.Proofs.Ytcipegkeoheikaa
