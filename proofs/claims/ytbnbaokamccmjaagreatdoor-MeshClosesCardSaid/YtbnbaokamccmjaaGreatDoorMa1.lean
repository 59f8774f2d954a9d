/- Natural numbers as lists of words in base 10^9, the least word first: their values, the normal form, and what digit-wise addition, subtraction, multiplication and division come to. Plain lemmas: no program. -/
set_option linter.unusedVariables false
set_option linter.unusedSimpArgs false
namespace Go.Proofs.YtbnbaokamccmjaaGreatDoor

/-- The base of the words. -/
def wB : Nat := 1000000000
theorem wB_eq : wB = 1000000000 := rfl
theorem wB_pos : 0 < wB := by decide

/-- The value of a list of words. -/
def val : List Nat → Nat
  | [] => 0
  | x :: xs => x + wB * val xs

/-- Each word is below the base. -/
def Okw (l : List Nat) : Prop := ∀ x, x ∈ l → x < wB

theorem Okw.nil : Okw [] := fun _ h => by cases h
theorem Okw.cons {x : Nat} {l : List Nat} (h : x < wB) (hl : Okw l) : Okw (x :: l) := fun y hy => by
  rcases List.mem_cons.1 hy with rfl | hy
  · exact h
  · exact hl y hy
theorem Okw.head {x : Nat} {l : List Nat} (h : Okw (x :: l)) : x < wB := h x (by simp)
theorem Okw.tail {x : Nat} {l : List Nat} (h : Okw (x :: l)) : Okw l := fun y hy => h y (List.mem_cons_of_mem _ hy)
theorem Okw.append {a b : List Nat} (ha : Okw a) (hb : Okw b) : Okw (a ++ b) := fun y hy => by
  rcases List.mem_append.1 hy with h | h
  · exact ha y h
  · exact hb y h
theorem Okw.take {a : List Nat} (ha : Okw a) (k : Nat) : Okw (a.take k) := fun y hy => ha y (List.mem_of_mem_take hy)
theorem Okw.drop {a : List Nat} (ha : Okw a) (k : Nat) : Okw (a.drop k) := fun y hy => ha y (List.mem_of_mem_drop hy)
theorem Okw.get {a : List Nat} (ha : Okw a) (i : Nat) : a.getD i 0 < wB := by
  by_cases h : i < a.length
  · rw [List.getD_eq_getElem?_getD, List.getElem?_eq_getElem h]
    exact ha _ (List.getElem_mem h)
  · rw [List.getD_eq_getElem?_getD, List.getElem?_eq_none (by omega)]
    exact wB_pos
theorem Okw.set {a : List Nat} (ha : Okw a) (i x : Nat) (hx : x < wB) : Okw (a.set i x) := fun y hy => by
  rcases List.mem_or_eq_of_mem_set hy with h | rfl
  · exact ha y h
  · exact hx
theorem Okw.replicate (n : Nat) : Okw (List.replicate n 0) := fun y hy => by
  rw [(List.mem_replicate.1 hy).2]; exact wB_pos

theorem val_nil : val [] = 0 := rfl
theorem val_cons (x : Nat) (l : List Nat) : val (x :: l) = x + wB * val l := rfl
theorem val_append (a b : List Nat) : val (a ++ b) = val a + wB ^ a.length * val b := by
  induction a with
  | nil => simp [val]
  | cons x a ih =>
    rw [List.cons_append, val_cons, val_cons, ih, List.length_cons, Nat.pow_succ, Nat.mul_add, ← Nat.mul_assoc, Nat.mul_comm wB (wB ^ a.length)]
    omega
theorem val_lt {a : List Nat} (h : Okw a) : val a < wB ^ a.length := by
  induction a with
  | nil => simp [val]
  | cons x a ih =>
    rw [val_cons, List.length_cons, Nat.pow_succ]
    have h1 := ih h.tail
    have h2 := h.head
    have h3 : wB * (val a + 1) ≤ wB * wB ^ a.length := Nat.mul_le_mul_left _ h1
    rw [Nat.mul_add, Nat.mul_one] at h3
    rw [Nat.mul_comm (wB ^ a.length)]
    omega
theorem val_replicate (n : Nat) : val (List.replicate n 0) = 0 := by
  induction n with
  | zero => rfl
  | succ n ih => rw [List.replicate_succ, val_cons, ih]; rfl
theorem val_snoc (a : List Nat) (x : Nat) : val (a ++ [x]) = val a + wB ^ a.length * x := by
  rw [val_append]; simp [val]
theorem val_take_succ (a : List Nat) (k : Nat) (h : k < a.length) : val (a.take (k + 1)) = val (a.take k) + wB ^ k * a.getD k 0 := by
  rw [List.take_succ_eq_append_getElem h, val_snoc, List.length_take, Nat.min_eq_left (by omega)]
  rw [List.getD_eq_getElem?_getD, List.getElem?_eq_getElem h]; rfl
theorem val_split (a : List Nat) (k : Nat) (h : k ≤ a.length) : val a = val (a.take k) + wB ^ k * val (a.drop k) := by
  have e := val_append (a.take k) (a.drop k)
  rw [List.take_append_drop, List.length_take, Nat.min_eq_left h] at e
  exact e

/-- The words of a number, without zeros at the end. -/
def wds (n : Nat) : List Nat := if h : n = 0 then [] else n % wB :: wds (n / wB)
termination_by n
decreasing_by exact Nat.div_lt_self (by omega) (by decide)

theorem div_wB_lt {n : Nat} (h : n ≠ 0) : n / wB < n := Nat.div_lt_self (by omega) (by decide)
theorem wds_zero : wds 0 = [] := by rw [wds, dif_pos rfl]
theorem wds_pos {n : Nat} (h : n ≠ 0) : wds n = n % wB :: wds (n / wB) := by rw [wds, dif_neg h]
theorem val_wds (n : Nat) : val (wds n) = n := by
  induction n using Nat.strongRecOn with
  | _ n ih =>
    by_cases h : n = 0
    · rw [h, wds_zero]; rfl
    · rw [wds_pos h, val_cons, ih _ (div_wB_lt h)]
      exact Nat.mod_add_div n wB
theorem okw_wds (n : Nat) : Okw (wds n) := by
  induction n using Nat.strongRecOn with
  | _ n ih =>
    by_cases h : n = 0
    · rw [h, wds_zero]; exact Okw.nil
    · rw [wds_pos h]
      exact Okw.cons (Nat.mod_lt _ wB_pos) (ih _ (div_wB_lt h))
theorem wds_eq_nil {n : Nat} : wds n = [] ↔ n = 0 := by
  constructor
  · intro h
    have := val_wds n
    rw [h] at this
    exact this.symm
  · intro h; rw [h, wds_zero]
theorem wds_length_pos {n : Nat} : 0 < (wds n).length ↔ 0 < n := by
  rw [List.length_pos_iff]
  have := @wds_eq_nil n
  constructor
  · intro h; exact Nat.pos_of_ne_zero fun e => h (this.2 e)
  · intro h e; have := this.1 e; omega

/-- The last word is not 0. -/
def Lnz (l : List Nat) : Prop := l = [] ∨ l.getD (l.length - 1) 0 ≠ 0

theorem wds_of_lnz {l : List Nat} (ho : Okw l) (hl : Lnz l) : wds (val l) = l := by
  induction l with
  | nil => exact wds_zero
  | cons x l ih =>
    have hx := ho.head
    have hl' : Lnz l := by
      rcases hl with h | h
      · cases h
      · cases l with
        | nil => exact .inl rfl
        | cons y l => exact .inr (by simpa using h)
    have e := ih ho.tail hl'
    have hv : val (x :: l) ≠ 0 := by
      intro h0
      rw [val_cons] at h0
      have hv0 : val l = 0 := by
        rcases Nat.eq_zero_or_pos (val l) with h | h
        · exact h
        · have : 0 < wB * val l := Nat.mul_pos wB_pos h
          omega
      rw [hv0, wds_zero] at e
      subst e
      rcases hl with h | h
      · cases h
      · simp at h; omega
    rw [wds_pos hv, val_cons, Nat.add_mul_mod_self_left, Nat.mod_eq_of_lt hx, Nat.add_mul_div_left _ _ wB_pos, Nat.div_eq_of_lt hx, Nat.zero_add, e]
theorem lnz_wds (n : Nat) : Lnz (wds n) := by
  induction n using Nat.strongRecOn with
  | _ n ih =>
    by_cases h : n = 0
    · rw [h, wds_zero]; exact .inl rfl
    · rw [wds_pos h]
      rcases Nat.eq_zero_or_pos (n / wB) with h0 | h0
      · rw [h0, wds_zero]
        refine .inr ?_
        have := Nat.mod_add_div n wB
        rw [h0] at this
        simp; omega
      · rcases ih _ (div_wB_lt h) with h1 | h1
        · rw [wds_eq_nil] at h1; omega
        · refine .inr ?_
          have hp : 0 < (wds (n / wB)).length := wds_length_pos.2 h0
          rw [List.length_cons, Nat.add_sub_cancel]
          rw [show (wds (n / wB)).length = (wds (n / wB)).length - 1 + 1 by omega, List.getD_cons_succ]
          exact h1

/-- Zeros at the end do not count. -/
theorem val_take_zero {l : List Nat} {k : Nat} (hk : k ≤ l.length) (hz : ∀ j, k ≤ j → j < l.length → l.getD j 0 = 0) : val (l.take k) = val l := by
  have e := val_split l k hk
  have h0 : ∀ (r : List Nat), (∀ j, j < r.length → r.getD j 0 = 0) → val r = 0 := by
    intro r
    induction r with
    | nil => intro _; rfl
    | cons x r ih =>
      intro h
      have h1 := h 0 (by simp)
      rw [List.getD_cons_zero] at h1
      rw [val_cons, h1, ih (fun j hj => by have := h (j + 1) (by simpa using hj); rwa [List.getD_cons_succ] at this)]
      rfl
  rw [h0 (l.drop k)] at e
  · omega
  · intro j hj
    rw [List.length_drop] at hj
    have := hz (k + j) (by omega) (by omega)
    rw [List.getD_eq_getElem?_getD, List.getElem?_drop, ← List.getD_eq_getElem?_getD]
    exact this

/-- What is left of a list behind the zeros at the end. -/
theorem take_eq_wds {l : List Nat} {k : Nat} (ho : Okw l) (hk : k ≤ l.length) (hz : ∀ j, k ≤ j → j < l.length → l.getD j 0 = 0) (hl : k = 0 ∨ l.getD (k - 1) 0 ≠ 0) :
    l.take k = wds (val l) := by
  rw [← val_take_zero hk hz]
  refine (wds_of_lnz (ho.take k) ?_).symm
  rcases hl with h | h
  · exact .inl (by rw [h]; rfl)
  · by_cases h0 : k = 0
    · exact .inl (by rw [h0]; rfl)
    · refine .inr ?_
      rw [List.length_take, Nat.min_eq_left hk, List.getD_eq_getElem?_getD, List.getElem?_take_of_lt (by omega), ← List.getD_eq_getElem?_getD]
      exact h

theorem wds_lt_pow {n k : Nat} (h : n < wB ^ k) : (wds n).length ≤ k := by
  induction k generalizing n with
  | zero => rw [Nat.pow_zero] at h; rw [show n = 0 by omega, wds_zero]; simp
  | succ k ih =>
    by_cases h0 : n = 0
    · rw [h0, wds_zero]; simp
    · rw [wds_pos h0, List.length_cons]
      have : n / wB < wB ^ k := by
        rw [Nat.div_lt_iff_lt_mul wB_pos, ← Nat.pow_succ]; exact h
      have := ih this
      omega
theorem lt_wds_pow (n : Nat) : n < wB ^ (wds n).length := by
  have := val_lt (okw_wds n)
  rwa [val_wds] at this
theorem le_of_wds_length {n k : Nat} (h : k < (wds n).length) : wB ^ k ≤ n := by
  rcases Nat.lt_or_ge n (wB ^ k) with h1 | h1
  · have := wds_lt_pow h1; omega
  · exact h1
theorem wds_inj {a b : Nat} (h : wds a = wds b) : a = b := by
  rw [← val_wds a, h, val_wds]
theorem wds_one_word {n : Nat} (h0 : n ≠ 0) (h : n < wB) : wds n = [n] := by
  rw [wds_pos h0, Nat.mod_eq_of_lt h, Nat.div_eq_of_lt h, wds_zero]
theorem wds_mono_length {a b : Nat} (h : a ≤ b) : (wds a).length ≤ (wds b).length :=
  wds_lt_pow (Nat.lt_of_le_of_lt h (lt_wds_pow b))

/-- Two lists of one length: the first place from the top where they differ decides. -/
theorem val_lt_of_top {a b : List Nat} (ha : Okw a) (k : Nat) (hk : k < a.length) (hl : a.length = b.length)
    (ht : ∀ j, k < j → j < a.length → a.getD j 0 = b.getD j 0) (h : a.getD k 0 < b.getD k 0) : val a < val b := by
  rw [val_split a (k + 1) (by omega), val_split b (k + 1) (by omega)]
  have e : a.drop (k + 1) = b.drop (k + 1) := by
    apply List.ext_getElem
    · simp [hl]
    · intro i h1 h2
      rw [List.length_drop] at h1
      have := ht (k + 1 + i) (by omega) (by omega)
      rw [List.getD_eq_getElem?_getD, List.getElem?_eq_getElem (by omega), List.getD_eq_getElem?_getD, List.getElem?_eq_getElem (by omega)] at this
      simpa using this
  rw [e]
  have h1 := val_take_succ a k hk
  have h2 := val_take_succ b k (by omega)
  have h3 := val_lt (ha.take k)
  rw [List.length_take, Nat.min_eq_left (by omega)] at h3
  have h4 : wB ^ k * (a.getD k 0 + 1) ≤ wB ^ k * b.getD k 0 := Nat.mul_le_mul_left _ h
  rw [Nat.mul_add, Nat.mul_one] at h4
  omega

end Go.Proofs.YtbnbaokamccmjaaGreatDoor
