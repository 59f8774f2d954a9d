/- Lists of words in a long division: what one step takes away and puts back, and what holds from step to step. Plain lemmas: no program. -/
import Derived.Test.YtbnbaokamccmjaaGreatDoorMa3
set_option linter.unusedVariables false
set_option linter.unusedSimpArgs false
namespace Go.Proofs.YtbnbaokamccmjaaGreatDoor

/-- Word number i. -/
def wd (l : List Nat) (i : Nat) : Nat := l.getD i 0
theorem wd_eq (l : List Nat) (i : Nat) : wd l i = l.getD i 0 := rfl
/-- A word is put in another's place. -/
theorem val_set {l : List Nat} {j : Nat} (h : j < l.length) (y : Nat) : val (l.set j y) + wB ^ j * wd l j = val l + wB ^ j * y := by
  induction l generalizing j with
  | nil => simp at h
  | cons x l ih =>
    cases j with
    | zero =>
      simp only [List.set_cons_zero, val_cons, Nat.pow_zero, Nat.one_mul, wd, List.getD_cons_zero]
      omega
    | succ j =>
      have := ih (j := j) (by simpa using h)
      simp only [List.set_cons_succ, val_cons, wd, List.getD_cons_succ, Nat.pow_succ] at this ⊢
      have e1 : wB ^ j * wB * l.getD j 0 = wB * (wB ^ j * l.getD j 0) := by rw [Nat.mul_comm (wB ^ j) wB, Nat.mul_assoc]
      have e2 : wB ^ j * wB * y = wB * (wB ^ j * y) := by rw [Nat.mul_comm (wB ^ j) wB, Nat.mul_assoc]
      rw [e1, e2, show x + wB * val (l.set j y) + wB * (wB ^ j * l.getD j 0) = x + wB * (val (l.set j y) + wB ^ j * l.getD j 0) by rw [Nat.mul_add]; omega, this, Nat.mul_add]
      omega
theorem wd_set {l : List Nat} {j : Nat} (h : j < l.length) (y i : Nat) : wd (l.set j y) i = if i = j then y else wd l i := by
  unfold wd
  rw [List.getD_eq_getElem?_getD, List.getElem?_set]
  by_cases e : j = i
  · subst e; simp [h]
  · rw [if_neg e, if_neg (fun e' => e e'.symm), ← List.getD_eq_getElem?_getD]
theorem wd_out {l : List Nat} {j : Nat} (h : ¬ j < l.length) : wd l j = 0 := by
  rw [wd, List.getD_eq_getElem?_getD, List.getElem?_eq_none (by omega)]; rfl
theorem drop_wd {l : List Nat} {k : Nat} (h : k < l.length) : l.drop k = wd l k :: l.drop (k + 1) := by
  rw [List.drop_eq_getElem_cons h, wd, List.getD_eq_getElem?_getD, List.getElem?_eq_getElem h]; rfl
theorem drop_set_same (l : List Nat) (k y : Nat) : (l.set k y).drop (k + 1) = l.drop (k + 1) := by
  rw [List.drop_set_of_lt (by omega)]
theorem wd_drop (l : List Nat) (k i : Nat) : wd (l.drop k) i = wd l (k + i) := by
  unfold wd
  rw [List.getD_eq_getElem?_getD, List.getElem?_drop, ← List.getD_eq_getElem?_getD]
theorem wd_take {l : List Nat} {k i : Nat} (h : i < k) : wd (l.take k) i = wd l i := by
  unfold wd
  rw [List.getD_eq_getElem?_getD, List.getElem?_take_of_lt h, ← List.getD_eq_getElem?_getD]
theorem Okw.wd {l : List Nat} (h : Okw l) (i : Nat) : wd l i < wB := h.get i

/-- The first words' value. -/
def preN (l : List Nat) (j : Nat) : Nat := val (l.take j)
theorem preN_zero (l : List Nat) : preN l 0 = 0 := rfl
theorem preN_all {l : List Nat} {j : Nat} (h : l.length ≤ j) : preN l j = val l := by rw [preN, List.take_of_length_le h]
theorem preN_succ {l : List Nat} {j : Nat} (h : j < l.length) : preN l (j + 1) = preN l j + wB ^ j * wd l j := by
  rw [preN, preN, val_take_succ l j h, wd]
/-- The first words say what the value of so many is. -/
theorem preN_congr {a b : List Nat} {j : Nat} (h : ∀ i, i < j → wd a i = wd b i) (ha : j ≤ a.length) (hb : j ≤ b.length) : preN a j = preN b j := by
  induction j with
  | zero => rfl
  | succ j ih => rw [preN_succ (by omega), preN_succ (by omega), ih (fun i hi => h i (by omega)) (by omega) (by omega), h j (by omega)]

/-- A value below wB ^ k: the words from k on are 0. -/
theorem wd_zero_of_lt {l : List Nat} {k i : Nat} (h : val l < wB ^ k) (hi : k ≤ i) : wd l i = 0 := by
  by_cases hl : i < l.length
  · have e := val_split l i (by omega)
    rw [drop_wd hl, val_cons] at e
    rcases Nat.eq_zero_or_pos (wd l i) with h0 | h0
    · exact h0
    · exfalso
      have e1 : wB ^ i * 1 ≤ wB ^ i * (wd l i + wB * val (l.drop (i + 1))) := Nat.mul_le_mul_left _ (by omega)
      have e2 : wB ^ k ≤ wB ^ i := Nat.pow_le_pow_right wB_pos hi
      omega
  · exact wd_out hl
theorem val_of_zero {l : List Nat} {k : Nat} (hz : ∀ i, k ≤ i → wd l i = 0) (hk : k ≤ l.length) : val l = preN l k := by
  rw [preN]
  exact (val_take_zero hk fun j h1 _ => hz j h1).symm

/-! ### The product is taken away -/

/-- Behind i words of a product that is taken away from the words from j on; c: the carry of the product; b: what is borrowed. -/
def Msub (l0 v : List Nat) (j g i : Nat) (l : List Nat) (c b : Nat) : Prop :=
  l.length = l0.length ∧ Okw l ∧ c < wB ∧ b ≤ 1 ∧ (val l : Int) = val l0 - (wB : Int) ^ j * (g * preN v i) + (wB : Int) ^ (j + i) * (c + b) ∧ ∀ t, t < j ∨ j + i ≤ t → wd l t = wd l0 t

theorem msub_start {l0 : List Nat} (v : List Nat) (j g : Nat) (h : Okw l0) : Msub l0 v j g 0 l0 0 0 :=
  ⟨rfl, h, wB_pos, by omega, by rw [preN_zero]; simp, fun _ _ => rfl⟩

theorem msub_next {l0 v l : List Nat} {j g i c b : Nat} (h : Msub l0 v j g i l c b) (hv : Okw v) (hg : g ≤ 1000000000) (hi : i < v.length) (hj : j + i < l0.length)
    {p d d' b' : Int} (hp : p = g * wd v i + c) (hd : d = wd l (i + j) - p % 1000000000 - b) (hd' : (d < 0 ∧ d' = d + 1000000000 ∧ b' = 1) ∨ (0 ≤ d ∧ d' = d ∧ b' = 0)) :
    Msub l0 v j g (i + 1) (l.set (i + j) d'.toNat) (p / 1000000000).toNat b'.toNat ∧ 0 ≤ d' ∧ d' ≤ 999999999 ∧ 0 ≤ p / 1000000000 ∧ p / 1000000000 ≤ 999999999 ∧ 0 ≤ p := by
  obtain ⟨h1, h2, h3, h4, h5, h6⟩ := h
  have hv1 := hv.wd i
  have hl1 := h2.wd (i + j)
  rw [wB_eq] at hv1 hl1 h3
  have hgv : g * wd v i ≤ 1000000000 * 999999999 := Nat.mul_le_mul hg (by omega)
  have hgvI : (g : Int) * wd v i = ((g * wd v i : Nat) : Int) := by rw [Int.natCast_mul]
  have hp0 : 0 ≤ p ∧ p ≤ 999999999999999999 := by rw [hp, hgvI]; omega
  have hc' : 0 ≤ p / 1000000000 ∧ p / 1000000000 ≤ 999999999 := by omega
  have hdr : 0 ≤ d' ∧ d' ≤ 999999999 := by omega
  refine ⟨⟨by rw [List.length_set]; exact h1, h2.set _ _ (by rw [wB_eq]; omega), by rw [wB_eq]; omega, by omega, ?_, fun t ht => ?_⟩, hdr.1, hdr.2, hc'.1, hc'.2, hp0.1⟩
  · have e := val_set (l := l) (j := i + j) (by omega) d'.toNat
    have e' : (val (l.set (i + j) d'.toNat) : Int) + (wB : Int) ^ (i + j) * wd l (i + j) = val l + (wB : Int) ^ (i + j) * d' := by
      have := congrArg (Nat.cast : Nat → Int) e
      push_cast at this
      rwa [Int.toNat_of_nonneg hdr.1] at this
    rw [preN_succ hi]
    push_cast
    rw [Int.toNat_of_nonneg hc'.1, Int.toNat_of_nonneg (by omega : 0 ≤ b')]
    rw [Nat.add_comm j i] at h5
    rw [show j + (i + 1) = (i + j) + 1 by omega, Int.pow_succ]
    rw [h5] at e'
    have hpp : (wB : Int) ^ j * ((g : Int) * ((wB : Int) ^ i * wd v i)) = (wB : Int) ^ (i + j) * (g * wd v i) := by
      rw [Int.pow_add]; ac_rfl
    rw [Int.mul_add (g : Int), Int.mul_add ((wB : Int) ^ j), hpp]
    have hgc : (g : Int) * wd v i = p - c := by omega
    rw [hgc]
    have hw : ((wB : Nat) : Int) = 1000000000 := rfl
    generalize (wB : Int) ^ (i + j) = X at *
    generalize (wB : Int) ^ j * (g * preN v i) = Y at *
    rw [hw]
    have key : d' - wd l (i + j) = - (p % 1000000000) - b + 1000000000 * b' := by omega
    have hpd : p = p % 1000000000 + 1000000000 * (p / 1000000000) := by omega
    have e3 : X * d' = X * wd l (i + j) + X * (d' - wd l (i + j)) := by rw [← Int.mul_add]; congr 1; omega
    rw [key] at e3
    have e4 : X * (-(p % 1000000000) - b + 1000000000 * b') = -(X * (p % 1000000000)) - X * b + X * (1000000000 * b') := by
      rw [Int.mul_add, Int.mul_sub, Int.mul_neg]
    have e5 : X * (p - c) = X * (p % 1000000000) + X * (1000000000 * (p / 1000000000)) - X * c := by
      rw [← Int.mul_add, ← hpd, Int.mul_sub]
    have e6 : X * 1000000000 * (p / 1000000000 + b') = X * (1000000000 * (p / 1000000000)) + X * (1000000000 * b') := by
      rw [Int.mul_add, Int.mul_assoc, Int.mul_assoc]
    have e7 : X * ((c : Int) + b) = X * c + X * b := Int.mul_add _ _ _
    omega
  · rw [wd_set (by omega), if_neg (by omega)]
    exact h6 t (by omega)

/-! ### The divisor is added back -/

/-- Behind i words of a list that is added to the words from j on; c: the carry. -/
def Madd (l0 v : List Nat) (j i : Nat) (l : List Nat) (c : Nat) : Prop :=
  l.length = l0.length ∧ Okw l ∧ c ≤ 1 ∧ val l + wB ^ (j + i) * c = val l0 + wB ^ j * preN v i ∧ ∀ t, t < j ∨ j + i ≤ t → wd l t = wd l0 t

theorem madd_start {l0 : List Nat} (v : List Nat) (j : Nat) (h : Okw l0) : Madd l0 v j 0 l0 0 :=
  ⟨rfl, h, by omega, by rw [preN_zero]; simp, fun _ _ => rfl⟩
theorem madd_next {l0 v l : List Nat} {j i c s : Nat} (h : Madd l0 v j i l c) (hv : Okw v) (hi : i < v.length) (hj : j + i < l0.length) (hs : s = c + (wd l (i + j) + wd v i)) :
    Madd l0 v j (i + 1) (l.set (i + j) (s % wB)) (s / wB) ∧ s ≤ 1999999999 := by
  obtain ⟨h1, h2, h3, h4, h5⟩ := h
  have hv1 := hv.wd i
  have hl1 := h2.wd (i + j)
  rw [wB_eq] at hv1 hl1
  have hs1 : s ≤ 1999999999 := by omega
  refine ⟨⟨by rw [List.length_set]; exact h1, h2.set _ _ (Nat.mod_lt _ wB_pos), by rw [wB_eq]; omega, ?_, fun t ht => ?_⟩, hs1⟩
  · have e := val_set (l := l) (j := i + j) (by omega) (s % wB)
    rw [Nat.add_comm j i] at h4
    have e1 : wB ^ j * (wB ^ i * wd v i) = wB ^ (i + j) * wd v i := by rw [Nat.pow_add]; ac_rfl
    have e2 : wB ^ (i + j) * wB * (s / wB) = wB ^ (i + j) * (wB * (s / wB)) := Nat.mul_assoc _ _ _
    have e3 : wB ^ (i + j) * (s % wB) + wB ^ (i + j) * (wB * (s / wB)) = wB ^ (i + j) * s := by rw [← Nat.mul_add, Nat.mod_add_div]
    have e4 : wB ^ (i + j) * s = wB ^ (i + j) * c + wB ^ (i + j) * wd l (i + j) + wB ^ (i + j) * wd v i := by rw [hs, Nat.mul_add, Nat.mul_add, Nat.add_assoc]
    rw [show j + (i + 1) = (i + j) + 1 by omega, Nat.pow_succ, e2, preN_succ hi, Nat.mul_add, e1]
    omega
  · rw [wd_set (by omega), if_neg (by omega)]
    exact h5 t (by omega)
end Go.Proofs.YtbnbaokamccmjaaGreatDoor
