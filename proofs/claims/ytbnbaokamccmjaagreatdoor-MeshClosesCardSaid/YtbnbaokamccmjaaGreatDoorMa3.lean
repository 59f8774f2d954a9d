/- The long division of lists of words: the guess of a word of the quotient, the product that is taken away, the divisor that is added back. Plain lemmas: no program. -/
import Derived.Test.YtbnbaokamccmjaaGreatDoorMa1
set_option linter.unusedVariables false
set_option linter.unusedSimpArgs false
namespace Go.Proofs.YtbnbaokamccmjaaGreatDoor

/-! ### The guess: R = ((u1 B + u2) B + u3) P + low is divided by V = (v1 B + v2) P + vl -/

structure Kn (q B P T u1 u2 u3 v1 v2 vl low R V : Nat) : Prop where
  hP : 0 < P
  hT : T = u1 * B + u2
  hR : R = (T * B + u3) * P + low
  hV : V = (v1 * B + v2) * P + vl
  hlow : low < P
  hvl : vl < P
  h1 : u1 < B
  h2 : u2 < B
  h3 : u3 < B
  g1 : v1 < B
  g2 : v2 < B
  half : B ≤ 2 * v1
  hq1 : q * V ≤ R
  hq2 : R < (q + 1) * V
  hRV : R < B * V

section
variable {q B P T u1 u2 u3 v1 v2 vl low R V : Nat}

theorem Kn.R_lt (h : Kn q B P T u1 u2 u3 v1 v2 vl low R V) : R < (T * B + u3 + 1) * P := by
  have := h.hlow
  rw [h.hR, Nat.add_mul _ 1, Nat.one_mul]
  omega
theorem Kn.u1_le (h : Kn q B P T u1 u2 u3 v1 v2 vl low R V) : u1 ≤ v1 := by
  have e1 : u1 * B * B * P ≤ R := by
    rw [h.hR, h.hT]
    have : u1 * B * B * P ≤ ((u1 * B + u2) * B + u3) * P := Nat.mul_le_mul_right _ (by rw [Nat.add_mul]; omega)
    omega
  have e2 : B * V < (v1 + 1) * B * B * P := by
    have e3 : V < (v1 + 1) * B * P := by
      have e4 : (v1 * B + v2 + 1) * P ≤ (v1 + 1) * B * P := Nat.mul_le_mul_right _ (by have := h.g2; rw [Nat.add_mul, Nat.one_mul]; omega)
      have e5 : V < (v1 * B + v2 + 1) * P := by
        have := h.hvl
        rw [h.hV, Nat.add_mul _ 1, Nat.one_mul]
        omega
      omega
    have hB : 0 < B := by have := h.g1; omega
    have := (Nat.mul_lt_mul_left hB).2 e3
    have e6 : B * ((v1 + 1) * B * P) = (v1 + 1) * B * B * P := by ac_rfl
    omega
  have e7 := h.hRV
  have e8 : u1 * (B * B * P) < (v1 + 1) * (B * B * P) := by
    have a1 : u1 * (B * B * P) = u1 * B * B * P := by ac_rfl
    have a2 : (v1 + 1) * (B * B * P) = (v1 + 1) * B * B * P := by ac_rfl
    omega
  have := Nat.lt_of_mul_lt_mul_right e8
  omega
theorem Kn.T_le (h : Kn q B P T u1 u2 u3 v1 v2 vl low R V) : T ≤ v1 * B + B - 1 := by
  have e := h.u1_le
  have e1 : u1 * B ≤ v1 * B := Nat.mul_le_mul_right _ e
  have := h.h2
  rw [h.hT]
  omega
theorem Kn.q_lt (h : Kn q B P T u1 u2 u3 v1 v2 vl low R V) : q < B := by
  have := Nat.lt_of_le_of_lt h.hq1 h.hRV
  exact Nat.lt_of_mul_lt_mul_right this

/-- The guess is not too small at first, and at most B + 1. -/
theorem Kn.start (h : Kn q B P T u1 u2 u3 v1 v2 vl low R V) : q ≤ T / v1 ∧ T / v1 ≤ B + 1 ∧ T / v1 * v1 + T % v1 = T ∧ T % v1 < B := by
  have hv : 0 < v1 := by have := h.half; have := h.g1; omega
  refine ⟨?_, ?_, by rw [Nat.mul_comm]; exact Nat.div_add_mod T v1, Nat.lt_trans (Nat.mod_lt _ hv) h.g1⟩
  · rw [Nat.le_div_iff_mul_le hv]
    have e1 : q * v1 * (B * P) ≤ q * V := by
      rw [h.hV, show q * v1 * (B * P) = q * (v1 * B * P) by ac_rfl]
      refine Nat.mul_le_mul_left _ ?_
      have : v1 * B * P ≤ (v1 * B + v2) * P := Nat.mul_le_mul_right _ (by omega)
      omega
    have e2 : R < (T + 1) * (B * P) := by
      refine Nat.lt_of_lt_of_le h.R_lt ?_
      rw [← Nat.mul_assoc]
      refine Nat.mul_le_mul_right _ ?_
      have := h.h3
      rw [Nat.add_mul, Nat.one_mul]
      omega
    have e3 : q * v1 * (B * P) < (T + 1) * (B * P) := Nat.lt_of_le_of_lt (Nat.le_trans e1 h.hq1) e2
    have := Nat.lt_of_mul_lt_mul_right e3
    omega
  · have : T / v1 < B + 2 := by
      rw [Nat.div_lt_iff_lt_mul hv, Nat.add_mul]
      have e1 := h.T_le
      have e2 := h.half
      have e3 : B * v1 = v1 * B := Nat.mul_comm _ _
      have := h.g1
      omega
    omega

/-- If the test says yes, the guess is too great. -/
theorem Kn.over {g r : Nat} (h : Kn q B P T u1 u2 u3 v1 v2 vl low R V) (he : g * v1 + r = T) (ht : B ≤ g ∨ r * B + u3 < g * v2) : q < g := by
  rcases ht with ht | ht
  · exact Nat.lt_of_lt_of_le h.q_lt ht
  · rcases Nat.lt_or_ge q g with hl | hl
    · exact hl
    · exfalso
      have e1 : g * V ≤ R := Nat.le_trans (Nat.mul_le_mul_right _ hl) h.hq1
      have e2 : (T * B + u3 + 1) * P ≤ g * V := by
        rw [h.hV, Nat.mul_add, ← Nat.mul_assoc]
        have e3 : T * B + u3 + 1 ≤ g * (v1 * B + v2) := by
          rw [Nat.mul_add, ← Nat.mul_assoc, ← he, Nat.add_mul]
          omega
        have := Nat.mul_le_mul_right P e3
        omega
      have := h.R_lt
      omega

theorem Kn.close {g : Nat} (h : Kn q B P T u1 u2 u3 v1 v2 vl low R V) (hg : g ≤ B) (he : g * (v1 * B + v2) ≤ T * B + u3) : g ≤ q + 1 := by
  have e1 : g * V < R + V := by
    have e2 : g * V = g * (v1 * B + v2) * P + g * vl := by rw [h.hV, Nat.mul_add, ← Nat.mul_assoc]
    have e3 : g * (v1 * B + v2) * P ≤ (T * B + u3) * P := Nat.mul_le_mul_right _ he
    have e4 : g * vl ≤ B * (P - 1) := Nat.mul_le_mul hg (by have := h.hvl; omega)
    have e5 : B * (P - 1) + B = B * P := by
      have := h.hP
      rw [← Nat.mul_succ]; congr 1; omega
    have e6 : B * P ≤ V := by
      rw [h.hV]
      have : B * P ≤ (v1 * B + v2) * P := Nat.mul_le_mul_right _ (by
        have := h.half
        have := h.g1
        have : 1 * B ≤ v1 * B := Nat.mul_le_mul_right _ (by omega)
        omega)
      omega
    have e7 : (T * B + u3) * P ≤ R := by rw [h.hR]; omega
    have hB : 0 < B := by have := h.g1; omega
    omega
  have e2 := h.hq2
  have e3 : g * V < (q + 2) * V := by
    rw [show (q + 2) * V = (q + 1) * V + V by rw [Nat.add_mul, Nat.add_mul, Nat.one_mul]; omega]
    omega
  have := Nat.lt_of_mul_lt_mul_right e3
  omega

/-- If the test says no, the guess is the word or one more. -/
theorem Kn.done {g r : Nat} (h : Kn q B P T u1 u2 u3 v1 v2 vl low R V) (he : g * v1 + r = T) (hg : g < B) (ht : g * v2 ≤ r * B + u3) : g ≤ q + 1 := by
  refine h.close (by omega) ?_
  rw [Nat.mul_add, ← Nat.mul_assoc, ← he, Nat.add_mul]
  omega
/-- If the rest has become too great, the guess is the word or one more. -/
theorem Kn.out {g r : Nat} (h : Kn q B P T u1 u2 u3 v1 v2 vl low R V) (he : g * v1 + r = T) (hg : g ≤ B) (hr : B ≤ r) : g ≤ q + 1 ∧ g < B := by
  constructor
  · refine h.close hg ?_
    have e1 : g * v2 ≤ B * B := Nat.mul_le_mul hg (by have := h.g2; omega)
    have e2 : B * B ≤ r * B := Nat.mul_le_mul_right _ hr
    rw [Nat.mul_add, ← Nat.mul_assoc, ← he, Nat.add_mul]
    omega
  · rcases Nat.lt_or_ge g B with hl | hl
    · exact hl
    · exfalso
      have e0 : g = B := by omega
      subst e0
      have e1 := h.T_le
      have e2 : g * v1 = v1 * g := Nat.mul_comm _ _
      have := h.g1
      omega
end
end Go.Proofs.YtbnbaokamccmjaaGreatDoor
