/- The factor that makes a divisor's highest word great enough. Plain lemmas: no program. -/
import Derived.Test.YtbnbaokamccmjaaGreatDoorMa5
set_option linter.unusedVariables false
set_option linter.unusedSimpArgs false
namespace Go.Proofs.YtbnbaokamccmjaaGreatDoor

theorem half_aux {B v f : Nat} (hB : B % 2 = 0) (hv : 1 ≤ v) (hvB : v < B) (hf : f = B / (v + 1)) : B ≤ 2 * (v * f) ∧ 1 ≤ f ∧ (v + 1) * f ≤ B := by
  have h1 : B < (f + 1) * (v + 1) := by rw [hf]; exact Nat.lt_mul_of_div_lt (Nat.lt_succ_self _) (by omega)
  have h2 : f * (v + 1) ≤ B := by rw [hf]; exact Nat.div_mul_le_self _ _
  have h3 : 1 ≤ f := by rw [hf, Nat.le_div_iff_mul_le (by omega)]; omega
  refine ⟨?_, h3, by rw [Nat.mul_comm]; exact h2⟩
  rw [Nat.add_mul, Nat.one_mul] at h1
  rcases Nat.lt_or_ge (2 * v) B with hl | hl
  · rcases Nat.lt_or_ge (2 * (v * f)) B with hc | hc
    · exfalso
      have e1 : 2 * (v * f) ≤ B - 2 := by omega
      have e2 : 2 * (v * f) * (v + 1) ≤ (B - 2) * (v + 1) := Nat.mul_le_mul_right _ e1
      have e3 : 2 * (v * f) * (v + 1) = 2 * v * (f * (v + 1)) := by ac_rfl
      have e4 : 2 * v * (B - v) ≤ 2 * v * (f * (v + 1)) := Nat.mul_le_mul_left _ (by omega)
      obtain ⟨c, rfl⟩ : ∃ c, B = c + 2 * v := ⟨B - 2 * v, by omega⟩
      obtain ⟨d, rfl⟩ : ∃ d, v = d + 1 := ⟨v - 1, by omega⟩
      have e5 : (c + 2 * (d + 1) - 2) = c + 2 * d := by omega
      have e6 : (c + 2 * (d + 1) - (d + 1)) = c + (d + 1) := by omega
      rw [e5] at e2
      rw [e6] at e4
      rw [e3] at e2
      have e7 := Nat.le_trans e4 e2
      simp only [Nat.mul_add, Nat.add_mul, Nat.mul_one, Nat.one_mul, Nat.mul_assoc] at e7
      have e8 : c * d = d * c := Nat.mul_comm _ _
      omega
    · exact hc
  · have : v * 1 ≤ v * f := Nat.mul_le_mul_left _ h3
    omega

/-- The highest word of a number of k words. -/
theorem top_word {n k : Nat} (hk : (wds n).length = k) (h1 : 1 ≤ k) : wd (wds n) (k - 1) * wB ^ (k - 1) ≤ n ∧ n < (wd (wds n) (k - 1) + 1) * wB ^ (k - 1) ∧ 1 ≤ wd (wds n) (k - 1) ∧ wd (wds n) (k - 1) < wB := by
  have e := val_take_succ (wds n) (k - 1) (by omega)
  rw [show k - 1 + 1 = k by omega, List.take_of_length_le (by omega), val_wds] at e
  have hlt := val_lt ((okw_wds n).take (k - 1))
  rw [List.length_take, Nat.min_eq_left (by omega)] at hlt
  have e2 : (wds n).getD (k - 1) 0 = wd (wds n) (k - 1) := rfl
  rw [e2] at e
  have e3 : wB ^ (k - 1) * wd (wds n) (k - 1) = wd (wds n) (k - 1) * wB ^ (k - 1) := Nat.mul_comm _ _
  refine ⟨by omega, by rw [Nat.add_mul, Nat.one_mul]; omega, ?_, (okw_wds n).wd _⟩
  rcases lnz_wds n with h | h
  · rw [h] at hk; simp at hk; omega
  · rw [hk, e2] at h; omega

/-- The divisor, made great enough: as many words, and half the base at least in the highest. -/
theorem norm_div {m k f : Nat} (hk : (wds m).length = k) (h1 : 1 ≤ k) (hf : f = wB / (wd (wds m) (k - 1) + 1)) :
    (wds (m * f)).length = k ∧ wB ≤ 2 * wd (wds (m * f)) (k - 1) ∧ 1 ≤ f ∧ f ≤ 500000000 := by
  obtain ⟨t1, t2, t3, t4⟩ := top_word hk h1
  obtain ⟨a1, a2, a3⟩ := half_aux (B := wB) (by decide) t3 t4 hf
  have hm0 : 0 < m := by
    have : 1 * wB ^ (k - 1) ≤ wd (wds m) (k - 1) * wB ^ (k - 1) := Nat.mul_le_mul_right _ t3
    have := Nat.pow_pos (n := k - 1) wB_pos
    omega
  have hlen : (wds (m * f)).length = k := by
    have u1 : (wds (m * f)).length ≤ k := by
      refine wds_lt_pow ?_
      have e1 : m * f < (wd (wds m) (k - 1) + 1) * wB ^ (k - 1) * f := (Nat.mul_lt_mul_right a2).2 t2
      have e2 : (wd (wds m) (k - 1) + 1) * wB ^ (k - 1) * f = ((wd (wds m) (k - 1) + 1) * f) * wB ^ (k - 1) := by ac_rfl
      have e3 : ((wd (wds m) (k - 1) + 1) * f) * wB ^ (k - 1) ≤ wB * wB ^ (k - 1) := Nat.mul_le_mul_right _ a3
      have e4 : wB * wB ^ (k - 1) = wB ^ k := by
        obtain ⟨j, rfl⟩ : ∃ j, k = j + 1 := ⟨k - 1, by omega⟩
        rw [Nat.add_sub_cancel, Nat.pow_succ, Nat.mul_comm]
      omega
    have u2 : (wds m).length ≤ (wds (m * f)).length := wds_mono_length (Nat.le_mul_of_pos_right _ a2)
    omega
  refine ⟨hlen, ?_, a2, ?_⟩
  · obtain ⟨s1, s2, _, _⟩ := top_word hlen h1
    have e1 : wd (wds m) (k - 1) * wB ^ (k - 1) * f ≤ m * f := Nat.mul_le_mul_right _ t1
    have e2 : wd (wds m) (k - 1) * wB ^ (k - 1) * f = wd (wds m) (k - 1) * f * wB ^ (k - 1) := by ac_rfl
    have e3 : wd (wds m) (k - 1) * f * wB ^ (k - 1) < (wd (wds (m * f)) (k - 1) + 1) * wB ^ (k - 1) := by omega
    have := Nat.lt_of_mul_lt_mul_right e3
    omega
  · have : 2 * f ≤ (wd (wds m) (k - 1) + 1) * f := Nat.mul_le_mul_right _ (by omega)
    have := wB_eq
    omega

/-- The beginning of the division. -/
theorem dv_start {U V Lu k : Nat} {l : List Nat} (h : l.length = Lu) (ho : Okw l) (hv : val l = U) (hk : k + 1 ≤ Lu) (hz : wd l (Lu - 1) = 0) (hV : wB ^ (k - 1) ≤ V) (hk1 : 1 ≤ k) : Dv U V Lu (Lu - k) (Lu - k) l (List.replicate (Lu - k) 0) := by
  refine ⟨h, ho, by simp, Okw.replicate _, ?_, ?_⟩
  · have hlen : (l.drop (Lu - k)).length = k := by rw [List.length_drop]; omega
    have e := val_take_succ (l.drop (Lu - k)) (k - 1) (by omega)
    rw [show k - 1 + 1 = k by omega, List.take_of_length_le (by omega)] at e
    have e2 : (l.drop (Lu - k)).getD (k - 1) 0 = 0 := by
      have := wd_drop l (Lu - k) (k - 1)
      rw [show Lu - k + (k - 1) = Lu - 1 by omega, hz] at this
      exact this
    rw [e2, Nat.mul_zero, Nat.add_zero] at e
    have hlt := val_lt ((ho.drop (Lu - k)).take (k - 1))
    rw [List.length_take, hlen, Nat.min_eq_left (by omega)] at hlt
    omega
  · rw [List.drop_of_length_le (by simp), val_nil, Nat.mul_zero, Nat.add_zero, hv]
/-- The end of the division. -/
theorem dv_end {U V Lu Lq : Nat} {l qs : List Nat} (h : Dv U V Lu Lq 0 l qs) : val qs = U / V ∧ val l = U % V := by
  obtain ⟨h1, h2, h3, h4, h5, h6⟩ := h
  rw [List.drop_zero] at h5 h6
  rw [Nat.pow_zero, Nat.mul_one] at h6
  have hV : 0 < V := by omega
  rw [← h6]
  constructor
  · rw [Nat.add_mul_div_left _ _ hV, Nat.div_eq_of_lt h5, Nat.zero_add]
  · rw [Nat.add_mul_mod_self_left, Nat.mod_eq_of_lt h5]
end Go.Proofs.YtbnbaokamccmjaaGreatDoor
