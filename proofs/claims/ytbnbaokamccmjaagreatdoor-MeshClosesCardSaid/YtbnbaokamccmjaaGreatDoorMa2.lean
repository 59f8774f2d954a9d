/- Decimal texts of natural numbers: which texts are numbers, their values, and how digits and words of nine digits hang together. Plain lemmas: no program. -/
import Derived.Lib.ItoaMem
import Derived.Lib.ParseIntB
import Derived.Test.YtbnbaokamccmjaaGreatDoorMa1
set_option linter.unusedVariables false
set_option linter.unusedSimpArgs false
namespace Go.Proofs.YtbnbaokamccmjaaGreatDoor
open Go.Lib

/-- The text's bytes are decimal digits. -/
def digs (l : List UInt8) : Bool := l.all fun c => decide (48 ≤ c.toNat) && decide (c.toNat ≤ 57)
/-- The number that digits spell. -/
def natOf (l : List UInt8) : Nat := l.foldl (fun a c => 10 * a + (c.toNat - 48)) 0
/-- The text is a natural number. -/
def isNat (l : List UInt8) : Bool := digs l && (l.length == 1 || (decide (1 < l.length) && l.head? != some 48))

/-- The text of a natural number. -/
def dec (n : Nat) : ByteArray := ⟨(decDigits n).toArray⟩

theorem dec_toList (n : Nat) : (dec n).data.toList = decDigits n := by simp [dec]
theorem ba_ext {a b : ByteArray} (h : a.data.toList = b.data.toList) : a = b := by
  cases a with | mk a => cases b with | mk b =>
  simp at h
  rw [h]

theorem decDigits_small {u : Nat} (h : u < 10) : decDigits u = [UInt8.ofNat (48 + u)] := by rw [decDigits, dif_pos h]
theorem decDigits_big {u : Nat} (h : ¬ u < 10) : decDigits u = decDigits (u / 10) ++ [UInt8.ofNat (48 + u % 10)] := by rw [decDigits, dif_neg h]
theorem decDigits_ne (u : Nat) : decDigits u ≠ [] := by
  by_cases h : u < 10
  · rw [decDigits_small h]; simp
  · rw [decDigits_big h]; simp
theorem digit_toNat {d : Nat} (h : d < 10) : (UInt8.ofNat (48 + d)).toNat = 48 + d := by
  simp [UInt8.toNat_ofNat']; omega

theorem natOf_snoc (l : List UInt8) (c : UInt8) : natOf (l ++ [c]) = 10 * natOf l + (c.toNat - 48) := by
  unfold natOf; rw [List.foldl_append]; rfl
theorem natOf_foldl (l : List UInt8) (a : Nat) : l.foldl (fun a c => 10 * a + (c.toNat - 48)) a = a * 10 ^ l.length + natOf l := by
  induction l generalizing a with
  | nil => simp [natOf]
  | cons c l ih =>
    have e : natOf (c :: l) = (c.toNat - 48) * 10 ^ l.length + natOf l := by
      show (c :: l).foldl _ 0 = _
      rw [List.foldl_cons, ih, Nat.mul_zero, Nat.zero_add]
    have e2 : a * (10 ^ l.length * 10) = 10 * a * 10 ^ l.length := by rw [Nat.mul_comm (10 ^ l.length) 10, ← Nat.mul_assoc, Nat.mul_comm a 10]
    rw [List.foldl_cons, ih, e, List.length_cons, Nat.pow_succ, e2, Nat.add_mul]
    omega
theorem natOf_append (a b : List UInt8) : natOf (a ++ b) = natOf a * 10 ^ b.length + natOf b := by
  show (a ++ b).foldl _ 0 = _
  rw [List.foldl_append, natOf_foldl]; rfl
theorem natOf_nil : natOf [] = 0 := rfl
theorem natOf_one (c : UInt8) : natOf [c] = c.toNat - 48 := by simp [natOf]
theorem natOf_cons (c : UInt8) (l : List UInt8) : natOf (c :: l) = (c.toNat - 48) * 10 ^ l.length + natOf l := by
  have := natOf_append [c] l
  rwa [natOf_one] at this

theorem digs_append (a b : List UInt8) : digs (a ++ b) = (digs a && digs b) := by simp [digs]
theorem digs_cons (c : UInt8) (l : List UInt8) : digs (c :: l) = (decide (48 ≤ c.toNat) && decide (c.toNat ≤ 57) && digs l) := by simp [digs]
theorem natOf_lt {l : List UInt8} (h : digs l = true) : natOf l < 10 ^ l.length := by
  induction l with
  | nil => simp [natOf]
  | cons c l ih =>
    rw [digs_cons] at h
    simp only [Bool.and_eq_true, decide_eq_true_eq] at h
    have := ih h.2
    rw [natOf_cons, List.length_cons, Nat.pow_succ]
    have h2 : (c.toNat - 48) * 10 ^ l.length ≤ 9 * 10 ^ l.length := Nat.mul_le_mul_right _ (by omega)
    omega
theorem digs_take {l : List UInt8} (h : digs l = true) (k : Nat) : digs (l.take k) = true := by
  rw [digs, List.all_eq_true] at *
  exact fun x hx => h x (List.mem_of_mem_take hx)
theorem digs_drop {l : List UInt8} (h : digs l = true) (k : Nat) : digs (l.drop k) = true := by
  rw [digs, List.all_eq_true] at *
  exact fun x hx => h x (List.mem_of_mem_drop hx)

theorem digs_decDigits (n : Nat) : digs (decDigits n) = true := by
  induction n using Nat.strongRecOn with
  | _ n ih =>
    by_cases h : n < 10
    · rw [decDigits_small h, digs_cons, digit_toNat h]
      simp [digs]; omega
    · rw [decDigits_big h, digs_append, ih _ (by omega), digs_cons, digit_toNat (by omega)]
      simp [digs]; omega
theorem natOf_decDigits (n : Nat) : natOf (decDigits n) = n := by
  induction n using Nat.strongRecOn with
  | _ n ih =>
    by_cases h : n < 10
    · rw [decDigits_small h, natOf_one, digit_toNat h]; omega
    · rw [decDigits_big h, natOf_snoc, ih _ (by omega), digit_toNat (by omega)]; omega
theorem head_decDigits {n : Nat} (h : n ≠ 0) : (decDigits n).head? ≠ some 48 := by
  induction n using Nat.strongRecOn with
  | _ n ih =>
    by_cases h1 : n < 10
    · rw [decDigits_small h1]
      intro he
      simp only [List.head?_cons, Option.some.injEq] at he
      have := congrArg UInt8.toNat he
      rw [digit_toNat h1] at this
      simp at this; omega
    · rw [decDigits_big h1]
      have := ih (n / 10) (by omega) (by omega)
      cases hd : decDigits (n / 10) with
      | nil => exact absurd hd (decDigits_ne _)
      | cons x r => rw [hd] at this; simpa using this
theorem isNat_decDigits (n : Nat) : isNat (decDigits n) = true := by
  unfold isNat
  rw [digs_decDigits]
  by_cases h : n < 10
  · rw [decDigits_small h]; rfl
  · have h1 := head_decDigits (n := n) (by omega)
    have h2 : 1 < (decDigits n).length := by
      rw [decDigits_big h, List.length_append]
      have := List.length_pos_iff.2 (decDigits_ne (n / 10))
      simp; omega
    simp [h2, h1]

theorem isNat_digs {l : List UInt8} (h : isNat l = true) : digs l = true := by
  unfold isNat at h
  rw [Bool.and_eq_true] at h
  exact h.1
theorem isNat_ne {l : List UInt8} (h : isNat l = true) : l ≠ [] := by
  rintro rfl
  simp [isNat] at h

/-- A text that is a number is the text of its value. -/
theorem decDigits_natOf_aux (k : Nat) : ∀ l : List UInt8, l.length = k → isNat l = true → decDigits (natOf l) = l := by
  induction k with
  | zero => intro l hl h; exact absurd (List.length_eq_zero_iff.1 hl) (isNat_ne h)
  | succ k ih =>
    intro l hl h
    have hd := isNat_digs h
    obtain ⟨p, c, rfl⟩ : ∃ p c, l = p ++ [c] := ⟨l.dropLast, l.getLast (isNat_ne h), (List.dropLast_concat_getLast _).symm⟩
    rw [List.length_append, List.length_singleton] at hl
    have hd' := hd
    rw [digs_append, digs_cons] at hd
    simp only [Bool.and_eq_true, decide_eq_true_eq] at hd
    obtain ⟨hp, ⟨hc1, hc2⟩, _⟩ := hd
    rw [natOf_snoc]
    by_cases hp0 : p = []
    · subst hp0
      rw [natOf_nil, decDigits_small (by omega), Nat.mul_zero, Nat.zero_add, show 48 + (c.toNat - 48) = c.toNat by omega]
      simp
    · have hh : p.head? ≠ some 48 := by
        unfold isNat at h
        simp only [Bool.and_eq_true, Bool.or_eq_true, beq_iff_eq, bne_iff_ne, decide_eq_true_eq] at h
        have hlp := List.length_pos_iff.2 hp0
        rcases h.2 with h1 | h1
        · rw [List.length_append, List.length_singleton] at h1; omega
        · cases p with
          | nil => exact absurd rfl hp0
          | cons x r => simpa using h1.2
      have hpn : isNat p = true := by
        unfold isNat
        rw [hp]
        have hlp := List.length_pos_iff.2 hp0
        by_cases h1 : p.length = 1
        · simp [h1]
        · have : 1 < p.length := by omega
          simp [this, hh]
      have e := ih p (by omega) hpn
      have h0 : natOf p ≠ 0 := by
        intro h0
        rw [h0, decDigits_small (by omega)] at e
        rw [← e] at hh
        exact hh (by simp)
      rw [decDigits_big (by omega), show (10 * natOf p + (c.toNat - 48)) / 10 = natOf p by omega, e, show 48 + (10 * natOf p + (c.toNat - 48)) % 10 = c.toNat by omega]
      simp
theorem decDigits_natOf {l : List UInt8} (h : isNat l = true) : decDigits (natOf l) = l := decDigits_natOf_aux _ l rfl h
theorem dec_natOf {s : ByteArray} (h : isNat s.data.toList = true) : s = dec (natOf s.data.toList) := by
  refine ba_ext ?_
  rw [dec_toList, decDigits_natOf h]
theorem decDigits_inj {a b : Nat} (h : decDigits a = decDigits b) : a = b := by rw [← natOf_decDigits a, h, natOf_decDigits]
theorem dec_inj {a b : Nat} (h : dec a = dec b) : a = b := by
  refine decDigits_inj ?_
  rw [← dec_toList, h, dec_toList]
theorem dec_size (n : Nat) : (dec n).size = nDigits n := by
  rw [← decDigits_length]; simp [dec, ByteArray.size]
theorem dec_zero : dec 0 = ⟨#[48]⟩ := by
  refine ba_ext ?_
  rw [dec_toList, decDigits_small (by omega)]; rfl
theorem dec_one : dec 1 = ⟨#[49]⟩ := by
  refine ba_ext ?_
  rw [dec_toList, decDigits_small (by omega)]; rfl
theorem dec_eq_zero (n : Nat) : (dec n = ⟨#[48]⟩) ↔ n = 0 := by
  rw [← dec_zero]
  exact ⟨dec_inj, fun h => by rw [h]⟩
theorem dec_eq_one (n : Nat) : (dec n = ⟨#[49]⟩) ↔ n = 1 := by
  rw [← dec_one]
  exact ⟨dec_inj, fun h => by rw [h]⟩

/-! ### Words of nine digits -/

/-- w with k digits. -/
def padk : Nat → Nat → List UInt8
  | 0, _ => []
  | k + 1, w => padk k (w / 10) ++ [UInt8.ofNat (48 + w % 10)]
theorem padk_length (k w : Nat) : (padk k w).length = k := by
  induction k generalizing w with
  | zero => rfl
  | succ k ih => rw [padk, List.length_append, ih]; rfl
theorem decDigits_pad (k m w : Nat) (hm : m ≠ 0) (hw : w < 10 ^ k) : decDigits (m * 10 ^ k + w) = decDigits m ++ padk k w := by
  induction k generalizing w with
  | zero =>
    rw [Nat.pow_zero] at hw
    rw [show w = 0 by omega]; simp [padk]
  | succ k ih =>
    rw [Nat.pow_succ] at hw
    have hp : 1 ≤ 10 ^ k := Nat.one_le_pow _ _ (by decide)
    have h1 : 10 ^ k ≤ m * 10 ^ k := Nat.le_mul_of_pos_left _ (by omega)
    have e : m * 10 ^ (k + 1) = 10 * (m * 10 ^ k) := by rw [Nat.pow_succ, Nat.mul_comm (10 ^ k) 10, ← Nat.mul_assoc, Nat.mul_comm m 10, Nat.mul_assoc]
    rw [decDigits_big (by omega), e, show (10 * (m * 10 ^ k) + w) / 10 = m * 10 ^ k + w / 10 by omega, ih _ (by omega), padk, List.append_assoc, show (10 * (m * 10 ^ k) + w) % 10 = w % 10 by omega]
theorem padk_eq (k w : Nat) (hk : 0 < k) (hw : w < 10 ^ k) : padk k w = List.replicate (k - (decDigits w).length) 48 ++ decDigits w := by
  induction k generalizing w with
  | zero => omega
  | succ k ih =>
    rw [padk]
    by_cases h : w < 10
    · rw [decDigits_small h]
      have h0 : ∀ j, padk j 0 = List.replicate j 48 := by
        intro j
        induction j with
        | zero => rfl
        | succ j ihj => rw [padk, Nat.zero_div, ihj, List.replicate_succ']; rfl
      rw [show w / 10 = 0 by omega, h0, List.length_singleton, Nat.add_sub_cancel, show w % 10 = w by omega]
    · rw [Nat.pow_succ] at hw
      have hk : 0 < k := by
        rcases Nat.eq_zero_or_pos k with rfl | hk
        · rw [Nat.pow_zero] at hw; omega
        · exact hk
      rw [ih _ hk (by omega), decDigits_big h, List.length_append, List.length_singleton, List.append_assoc]
      rw [show k + 1 - ((decDigits (w / 10)).length + 1) = k - (decDigits (w / 10)).length by omega]
theorem natOf_padk (k w : Nat) (hw : w < 10 ^ k) : natOf (padk k w) = w := by
  induction k generalizing w with
  | zero => rw [Nat.pow_zero] at hw; rw [show w = 0 by omega]; rfl
  | succ k ih =>
    rw [Nat.pow_succ] at hw
    rw [padk, natOf_snoc, ih _ (by omega), digit_toNat (by omega)]; omega
theorem wB_pow : wB = 10 ^ 9 := by decide

/-- A chunk of at most nine digits, read. -/
theorem parse_chunk (B : Nat) (hB : 32 ≤ B) : ∀ (l : List UInt8) (acc : Nat), digs l = true → acc * 10 ^ l.length + natOf l < 10 ^ 9 →
    parseUintM (2 ^ B - 1) acc l = .ok (acc * 10 ^ l.length + natOf l)
  | [], acc, _, _ => by simp [parseUintM, natOf]
  | c :: l, acc, hd, hlt => by
    rw [digs_cons] at hd
    simp only [Bool.and_eq_true, decide_eq_true_eq] at hd
    rw [natOf_cons, List.length_cons, Nat.pow_succ] at hlt
    have e : acc * (10 ^ l.length * 10) = 10 * acc * 10 ^ l.length := by rw [Nat.mul_comm (10 ^ l.length) 10, ← Nat.mul_assoc, Nat.mul_comm acc 10]
    rw [e, ← Nat.add_assoc, ← Nat.add_mul] at hlt
    have hp : 1 ≤ 10 ^ l.length := Nat.one_le_pow _ _ (by decide)
    have h1 : acc * 10 + (c.toNat - 48) < 10 ^ 9 := by
      have : (10 * acc + (c.toNat - 48)) * 1 ≤ (10 * acc + (c.toNat - 48)) * 10 ^ l.length := Nat.mul_le_mul_left _ hp
      omega
    have h2 : (2 : Nat) ^ 32 ≤ 2 ^ B := Nat.pow_le_pow_right (by decide) hB
    rw [parseUintM, if_pos hd.1, if_neg (by omega), if_neg (by omega), parse_chunk B hB l _ hd.2 (by rw [Nat.mul_comm acc 10]; omega)]
    congr 1
    rw [natOf_cons, List.length_cons, Nat.pow_succ, e, ← Nat.add_assoc, ← Nat.add_mul, Nat.mul_comm acc 10]
theorem parse_word {l : List UInt8} (hd : digs l = true) (h0 : l ≠ []) (h9 : l.length ≤ 9) (B : Nat) (hB : 32 ≤ B) : parseUintB B l = .ok (natOf l) := by
  unfold parseUintB
  rw [if_neg h0, parse_chunk B hB l 0 hd]
  · simp
  · have := natOf_lt hd
    have : 10 ^ l.length ≤ 10 ^ 9 := Nat.pow_le_pow_right (by decide) h9
    omega

end Go.Proofs.YtbnbaokamccmjaaGreatDoor
