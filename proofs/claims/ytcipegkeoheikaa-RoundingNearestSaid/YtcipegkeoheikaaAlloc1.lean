/- Amounts divided in proportion to weights: what both versions of Allocate compute, up to the order in which missing cents are given out. -/
import Derived.Test.YtcipegkeoheikaaPNx2
import Derived.Test.YtcipegkeoheikaaNum
import Derived.Test.YtcipegkeoheikaaSort
namespace Go.Proofs.Ytcipegkeoheikaa.Pure
open Go.RowKit Go.Proofs.Ytcipegkeoheikaa Go.Proofs.Ytcipegkeoheikaa.PN Go.Proofs.YtcipegkeoheikaaW.PrintWords
set_option linter.unusedVariables false
set_option linter.unusedSimpArgs false

theorem rd_nat (l : List Int) (j : Nat) (h : j < l.length) : rd l (j : Int) = l[j] := by
  unfold rd
  rw [Int.toNat_natCast, List.getD_eq_getElem?_getD, List.getElem?_eq_getElem h]; rfl
theorem rd_out (l : List Int) (j : Int) (h : l.length ≤ j.toNat) : rd l j = 0 := by
  unfold rd
  rw [List.getD_eq_getElem?_getD, List.getElem?_eq_none h]; rfl
theorem rd_set_same (l : List Int) (j : Nat) (v : Int) (h : j < l.length) : rd (l.set j v) (j : Int) = v := by
  rw [rd_nat _ _ (by simpa using h)]; simp
theorem rd_set_other (l : List Int) (j i : Nat) (v : Int) (h : j ≠ i) : rd (l.set j v) (i : Int) = rd l (i : Int) := by
  unfold rd
  rw [List.getD_eq_getElem?_getD, List.getD_eq_getElem?_getD, Int.toNat_natCast, List.getElem?_set_ne h]
theorem drop_sum (l : List Int) (j : Nat) (h : j < l.length) : (l.drop j).sum = l[j] + (l.drop (j + 1)).sum := by
  rw [List.drop_eq_getElem_cons h, List.sum_cons]

/-- All numbers of a list are weights. -/
def okW (l : List Int) : Prop := ∀ x ∈ l, 0 ≤ x ∧ x ≤ 1000000000
instance (l : List Int) : Decidable (okW l) := by unfold okW; infer_instance
theorem okW_get {l : List Int} (h : okW l) (j : Nat) (hj : j < l.length) : 0 ≤ l[j] ∧ l[j] ≤ 1000000000 := h _ (List.getElem_mem hj)
theorem okW_drop {l : List Int} (h : okW l) (j : Nat) : okW (l.drop j) := fun x hx => h x (List.mem_of_mem_drop hx)
theorem okW_sum : ∀ {l : List Int}, okW l → 0 ≤ l.sum ∧ l.sum ≤ 1000000000 * l.length
  | [], _ => by simp
  | x :: l, h => by
    have h1 := h x (List.mem_cons_self)
    have h2 := okW_sum (l := l) (fun y hy => h y (List.mem_cons_of_mem _ hy))
    rw [List.sum_cons, List.length_cons]
    omega

/-! ### the sum of the weights -/
/-- What follows the sum, in the program. -/
def afterSum (k : Nat) (T : Int) (l : List Int) (s : Int) : Option (List Int × Int) :=
  if s = 0 then (some (([] : List Int), 5)) else (if T < 0 then (rounding_Allocate.j2 k (-1) (wrap64 (-T)) l s) else (rounding_Allocate.j2 k 1 T l s))

theorem sum_ok (T : Int) (l : List Int) (hn : l.length ≤ 1024) (hok : okW l) (r : List Int × Int) (d : Nat) : ∀ (j : Nat) (acc : Int), j + d = l.length → 0 ≤ acc → acc ≤ 1000000000 * j → Ev (fun k => afterSum k T l (acc + (l.drop j).sum)) r → Ev (fun k => rounding_Allocate.l0 k l (l.length : Int) (j : Int) T l acc) r := by
  induction d with
  | zero =>
    intro j acc hj h0 h1 hr
    refine Ev.step (f := fun k => afterSum k T l acc) (fun k => ?_) ?_
    · simp only [rounding_Allocate.l0]; rw [if_neg (by omega)]; rfl
    · rw [List.drop_of_length_le (by omega)] at hr; simpa using hr
  | succ d ih =>
    intro j acc hj h0 h1 hr
    have hlt : j < l.length := by omega
    have hw := okW_get hok j hlt
    refine Ev.step (f := fun k => rounding_Allocate.l0 k l (l.length : Int) ((j + 1 : Nat) : Int) T l (acc + l[j])) (fun k => ?_) ?_
    · simp only [rounding_Allocate.l0]
      rw [if_pos (by omega), if_pos (by omega), if_pos (by omega), rd_nat l j hlt, if_neg (by omega), if_neg (by omega), w64 (x := (j : Int) + 1) (by omega) (by omega), w64 (x := acc + l[j]) (by omega) (by omega)]
      rfl
    · refine ih (j + 1) (acc + l[j]) (by omega) (by omega) (by omega) ?_
      rw [drop_sum l j hlt] at hr
      rw [Int.add_assoc]
      exact hr

theorem sum_bad (T : Int) (l : List Int) (hn : l.length ≤ 1024) (d : Nat) : ∀ (j : Nat) (acc : Int), j + d = l.length → 0 ≤ acc → acc ≤ 1000000000 * j → ¬ okW (l.drop j) → Ev (fun k => rounding_Allocate.l0 k l (l.length : Int) (j : Int) T l acc) ([], 2) := by
  induction d with
  | zero =>
    intro j acc hj h0 h1 hb
    exact absurd (by rw [List.drop_of_length_le (by omega)]; intro x hx; cases hx) hb
  | succ d ih =>
    intro j acc hj h0 h1 hb
    have hlt : j < l.length := by omega
    by_cases hw : 0 ≤ l[j] ∧ l[j] ≤ 1000000000
    · refine Ev.step (f := fun k => rounding_Allocate.l0 k l (l.length : Int) ((j + 1 : Nat) : Int) T l (acc + l[j])) (fun k => ?_) ?_
      · simp only [rounding_Allocate.l0]
        rw [if_pos (by omega), if_pos (by omega), if_pos (by omega), rd_nat l j hlt, if_neg (by omega), if_neg (by omega), w64 (x := (j : Int) + 1) (by omega) (by omega), w64 (x := acc + l[j]) (by omega) (by omega)]
        rfl
      · refine ih (j + 1) (acc + l[j]) (by omega) (by omega) (by omega) ?_
        intro hk
        refine hb ?_
        rw [List.drop_eq_getElem_cons hlt]
        intro x hx
        rcases List.mem_cons.1 hx with rfl | hx
        · exact hw
        · exact hk x hx
    · refine Ev.step (f := fun _ => some ([], 2)) (fun k => ?_) (Ev.now _)
      simp only [rounding_Allocate.l0]
      rw [if_pos (by omega), if_pos (by omega), if_pos (by omega), rd_nat l j hlt]
      by_cases h2 : l[j] < 0
      · rw [if_pos h2]
      · rw [if_neg h2, if_pos (by omega)]

/-! ### the shares and their remainders -/
def shr (T S : Int) (l : List Int) : List Int := l.map fun w => T * w / S
def rem (T S : Int) (l : List Int) : List Int := l.map fun w => T * w % S
theorem shr_len (T S : Int) (l : List Int) : (shr T S l).length = l.length := by simp [shr]
theorem rem_len (T S : Int) (l : List Int) : (rem T S l).length = l.length := by simp [rem]

theorem prod_bd {T w : Int} (hT0 : 0 ≤ T) (hT1 : T ≤ 1000000000) (hw0 : 0 ≤ w) (hw1 : w ≤ 1000000000) : 0 ≤ T * w ∧ T * w ≤ 1000000000000000000 := by
  have h := mul_bd (show -1000000000 ≤ T by omega) hT1 (show -1000000000 ≤ w by omega) hw1
  exact ⟨Int.mul_nonneg hT0 hw0, by omega⟩

theorem share_bd {T S w : Int} (hT0 : 0 ≤ T) (hT1 : T ≤ 1000000000) (hS : 0 < S) (hw0 : 0 ≤ w) (hw1 : w ≤ S) : 0 ≤ T * w / S ∧ T * w / S ≤ T := by
  have h0 := Int.mul_nonneg hT0 hw0
  refine ⟨Int.ediv_nonneg h0 (by omega), ?_⟩
  have : T * w ≤ T * S := Int.mul_le_mul_of_nonneg_left hw1 hT0
  have h2 := Int.ediv_le_ediv hS this
  rwa [Int.mul_ediv_cancel _ (by omega)] at h2

/-- T times the weights: the shares times the sum and the remainders. -/
theorem shr_sum (T S : Int) (l : List Int) : S * (shr T S l).sum + (rem T S l).sum = T * l.sum := by
  induction l with
  | nil => simp [shr, rem]
  | cons w l ih =>
    have e := Int.emod_add_mul_ediv (T * w) S
    simp only [shr, rem, List.map_cons, List.sum_cons] at *
    rw [Int.mul_add, Int.mul_add]
    omega

theorem rem_nonneg (T S : Int) (hS : 0 < S) (l : List Int) : 0 ≤ (rem T S l).sum ∧ (rem T S l).sum ≤ (S - 1) * l.length := by
  induction l with
  | nil => simp [rem]
  | cons w l ih =>
    have e1 := Int.emod_nonneg (T * w) (show S ≠ 0 by omega)
    have e2 := Int.emod_lt_of_pos (T * w) hS
    simp only [rem, List.map_cons, List.sum_cons, List.length_cons] at *
    rw [show ((l.length + 1 : Nat) : Int) = (l.length : Int) + 1 by omega, Int.mul_add, Int.mul_one]
    omega

/-- How many cents are missing. -/
def mis (T S : Int) (l : List Int) : Int := T - (shr T S l).sum
theorem mis_eq (T S : Int) (l : List Int) (hl : l.sum = S) : S * mis T S l = (rem T S l).sum := by
  have := shr_sum T S l
  unfold mis
  rw [Int.mul_sub, Int.mul_comm S T]
  rw [hl] at this
  omega
theorem mis_bd (T S : Int) (hS : 0 < S) (l : List Int) (hl : l.sum = S) : 0 ≤ mis T S l ∧ (mis T S l < l.length ∨ mis T S l = 0) := by
  have h1 := mis_eq T S l hl
  obtain ⟨h2, h3⟩ := rem_nonneg T S hS l
  have h4 : 0 ≤ mis T S l := by
    rcases Int.lt_or_le (mis T S l) 0 with h | h
    · have := Int.mul_neg_of_pos_of_neg hS h
      omega
    · exact h
  refine ⟨h4, ?_⟩
  by_cases h5 : mis T S l < l.length
  · exact .inl h5
  · right
    have h6 : S * (l.length : Int) ≤ S * mis T S l := Int.mul_le_mul_of_nonneg_left (by omega) (by omega)
    rw [Int.sub_mul, Int.one_mul] at h3
    have h8 : l.length = 0 := by omega
    rw [h8] at h3
    simp only [Int.natCast_zero, Int.mul_zero] at h3
    have h7 : S * mis T S l = 0 := by omega
    rcases Int.mul_eq_zero.1 h7 with h | h <;> omega
end Go.Proofs.Ytcipegkeoheikaa.Pure
