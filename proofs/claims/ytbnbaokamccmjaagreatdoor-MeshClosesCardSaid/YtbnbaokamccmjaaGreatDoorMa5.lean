/- Lists of words in a long division: from one word of the quotient to the next. Plain lemmas: no program. -/
import Derived.Test.YtbnbaokamccmjaaGreatDoorMa4
set_option linter.unusedVariables false
set_option linter.unusedSimpArgs false
namespace Go.Proofs.YtbnbaokamccmjaaGreatDoor

/-- What holds when the words of the quotient from t on are known: l: what is left; qs: the quotient; U: the dividend; V: the divisor. -/
def Dv (U V Lu Lq t : Nat) (l qs : List Nat) : Prop :=
  l.length = Lu ∧ Okw l ∧ qs.length = Lq ∧ Okw qs ∧ val (l.drop t) < V ∧ val l + V * wB ^ t * val (qs.drop t) = U

/-- The value of k words from j on. -/
def win (l : List Nat) (j k : Nat) : Nat := preN (l.drop j) k
theorem win_lt {l : List Nat} (h : Okw l) (j k : Nat) : win l j k < wB ^ k := by
  have h1 := val_lt ((h.drop j).take k)
  refine Nat.lt_of_lt_of_le h1 (Nat.pow_le_pow_right wB_pos ?_)
  rw [List.length_take]; omega
theorem val_low (l : List Nat) {j : Nat} (h : j ≤ l.length) : val l = preN l j + wB ^ j * val (l.drop j) := val_split l j h
theorem val_win {l : List Nat} {j k : Nat} (hz : ∀ i, j + k < i → wd l i = 0) (h : j + k < l.length) : val (l.drop j) = win l j k + wB ^ k * wd l (j + k) := by
  have e : val (l.drop j) = preN (l.drop j) (k + 1) := val_of_zero (fun i hi => by rw [wd_drop]; exact hz _ (by omega)) (by rw [List.length_drop]; omega)
  rw [e, preN_succ (by rw [List.length_drop]; omega), wd_drop]
  rfl

/-- The dividend's three words and the divisor's two, for the guess. -/
theorem kn_of {U V Lu Lq j k : Nat} {l qs v : List Nat} (h : Dv U V Lu Lq (j + 1) l qs) (hv : Okw v) (hV : val v = V) (hk : v.length = k) (hk2 : 2 ≤ k) (hhalf : wB ≤ 2 * wd v (k - 1)) (hL : Lu = Lq + k) (hj : j < Lq) :
    Kn (val (l.drop j) / V) wB (wB ^ (k - 2)) (wd l (j + k) * wB + wd l (j + k - 1)) (wd l (j + k)) (wd l (j + k - 1)) (wd l (j + k - 2)) (wd v (k - 1)) (wd v (k - 2)) (preN v (k - 2)) (win l j (k - 2)) (val (l.drop j)) V := by
  obtain ⟨h1, h2, h3, h4, h5, h6⟩ := h
  have hVlt : V < wB ^ k := by rw [← hV, ← hk]; exact val_lt hv
  have hV0 : 0 < V := by
    have := hv.wd (k - 1)
    have e := val_split v (k - 1) (by omega)
    rw [drop_wd (by omega), val_cons] at e
    have e2 : 0 < wB ^ (k - 1) * (wd v (k - 1) + wB * val (v.drop (k - 1 + 1))) := by
      refine Nat.mul_pos (Nat.pow_pos wB_pos) ?_
      have := wB_eq
      omega
    omega
  have hz : ∀ i, j + k < i → wd l i = 0 := fun i hi => by
    have := wd_zero_of_lt (l := l.drop (j + 1)) (k := k) (i := i - (j + 1)) (by omega) (by omega)
    rw [wd_drop] at this
    rwa [show j + 1 + (i - (j + 1)) = i by omega] at this
  have hR : val (l.drop j) = wd l j + wB * val (l.drop (j + 1)) := by rw [drop_wd (by omega), val_cons]
  refine ⟨Nat.pow_pos wB_pos, rfl, ?_, ?_, win_lt h2 _ _, ?_, h2.wd _, h2.wd _, h2.wd _, hv.wd _, hv.wd _, hhalf, Nat.div_mul_le_self _ _, ?_, ?_⟩
  · rw [val_win hz (by omega), win, win]
    obtain ⟨m, rfl⟩ : ∃ m, k = m + 2 := ⟨k - 2, by omega⟩
    rw [show m + 2 - 2 = m by omega, show m + 2 = m + 1 + 1 by omega, preN_succ (by rw [List.length_drop]; omega), preN_succ (by rw [List.length_drop]; omega), wd_drop, wd_drop]
    rw [show j + (m + 1 + 1) - 1 = j + (m + 1) by omega, show j + (m + 1 + 1) - 2 = j + m by omega, Nat.add_mul, Nat.add_mul, Nat.add_mul]
    have e1 : wB ^ (m + 1) * wd l (j + (m + 1)) = wd l (j + (m + 1)) * wB * wB ^ m := by rw [Nat.pow_succ]; ac_rfl
    have e2 : wB ^ (m + 1 + 1) * wd l (j + (m + 1 + 1)) = wd l (j + (m + 1 + 1)) * wB * wB * wB ^ m := by rw [Nat.pow_succ, Nat.pow_succ]; ac_rfl
    have e3 : wB ^ m * wd l (j + m) = wd l (j + m) * wB ^ m := Nat.mul_comm _ _
    omega
  · obtain ⟨m, rfl⟩ : ∃ m, k = m + 2 := ⟨k - 2, by omega⟩
    rw [← hV, ← preN_all (l := v) (j := m + 2) (by omega), show m + 2 = m + 1 + 1 by omega, preN_succ (by omega), preN_succ (by omega)]
    rw [show m + 1 + 1 - 1 = m + 1 by omega, show m + 1 + 1 - 2 = m by omega, Nat.add_mul]
    have e1 : wB ^ (m + 1) * wd v (m + 1) = wd v (m + 1) * wB * wB ^ m := by rw [Nat.pow_succ]; ac_rfl
    have e3 : wB ^ m * wd v m = wd v m * wB ^ m := Nat.mul_comm _ _
    omega
  · have := val_lt (hv.take (k - 2))
    refine Nat.lt_of_lt_of_le this (Nat.pow_le_pow_right wB_pos ?_)
    rw [List.length_take]; omega
  · have := Nat.lt_div_mul_add (a := val (l.drop j)) hV0
    rw [Nat.add_mul, Nat.one_mul]
    exact this
  · rw [hR]
    have := h2.wd j
    have e : wB * (val (l.drop (j + 1)) + 1) ≤ wB * V := Nat.mul_le_mul_left _ h5
    rw [Nat.mul_add, Nat.mul_one] at e
    omega

/-- One word more of the quotient is known. -/
theorem dv_next {U V Lu Lq j k q : Nat} {l qs l2 : List Nat} (h : Dv U V Lu Lq (j + 1) l qs) (hL : Lu = Lq + k) (hj : j < Lq) (hV : V ≤ wB ^ k) (hq : q = val (l.drop j) / V) (hqB : q < wB)
    (hlen : l2.length = Lu) (ho : Okw l2) (hsame : ∀ t, t < j ∨ j + k < t → wd l2 t = wd l t) (hw : win l2 j k + q * V = val (l.drop j)) :
    Dv U V Lu Lq j (l2.set (j + k) 0) (qs.set j q) := by
  obtain ⟨h1, h2, h3, h4, h5, h6⟩ := h
  have hV0 : 0 < V := by omega
  have hz : ∀ i, j + k < i → wd l i = 0 := fun i hi => by
    have := wd_zero_of_lt (l := l.drop (j + 1)) (k := k) (i := i - (j + 1)) (by omega) (by omega)
    rw [wd_drop] at this
    rwa [show j + 1 + (i - (j + 1)) = i by omega] at this
  have hlen' : (l2.set (j + k) 0).length = Lu := by rw [List.length_set]; exact hlen
  have hz2 : ∀ i, j + k < i → wd (l2.set (j + k) 0) i = 0 := fun i hi => by
    rw [wd_set (by omega), if_neg (by omega), hsame i (.inr hi), hz i hi]
  have e0 : wd (l2.set (j + k) 0) (j + k) = 0 := by rw [wd_set (by omega), if_pos rfl]
  have ew : win (l2.set (j + k) 0) j k = win l2 j k := by
    refine preN_congr (fun i hi => ?_) (by rw [List.length_drop]; omega) (by rw [List.length_drop]; omega)
    rw [wd_drop, wd_drop, wd_set (by omega), if_neg (by omega)]
  have e1 : val ((l2.set (j + k) 0).drop j) = win l2 j k := by rw [val_win hz2 (by omega), e0, ew, Nat.mul_zero, Nat.add_zero]
  have hmod : win l2 j k < V := by
    have := Nat.lt_div_mul_add (a := val (l.drop j)) hV0
    rw [← hq] at this
    omega
  refine ⟨hlen', ho.set _ _ wB_pos, by rw [List.length_set]; exact h3, h4.set _ _ hqB, by rw [e1]; exact hmod, ?_⟩
  have elow : preN (l2.set (j + k) 0) j = preN l j := preN_congr (fun i hi => by rw [wd_set (by omega), if_neg (by omega), hsame i (.inl hi)]) (by omega) (by omega)
  rw [val_low _ (show j ≤ (l2.set (j + k) 0).length by omega), e1, elow, drop_wd (by rw [List.length_set]; omega), wd_set (by omega), if_pos rfl, drop_set_same, val_cons, ← h6, val_low l (j := j) (by omega), ← hw, Nat.mul_add, Nat.mul_add, Nat.pow_succ]
  have e2 : V * wB ^ j * q = wB ^ j * (q * V) := by ac_rfl
  have e3 : V * wB ^ j * (wB * val (qs.drop (j + 1))) = V * (wB ^ j * wB) * val (qs.drop (j + 1)) := by ac_rfl
  rw [e2, e3]
  omega

/-- What the words say when a multiple of the divisor has been taken away. -/
theorem sub_win {U V Lu Lq j k g c b : Nat} {l qs v l' : List Nat} (h : Dv U V Lu Lq (j + 1) l qs) (hV : val v = V) (hk : v.length = k) (hVk : V ≤ wB ^ k) (hL : Lu = Lq + k) (hj : j < Lq) (hm : Msub l v j g k l' c b) :
    (win l' j k : Int) + (wB : Int) ^ k * ((wd l' (j + k) : Int) - c - b) = (val (l.drop j) : Int) - g * V := by
  obtain ⟨h1, h2, h3, h4, h5, h6⟩ := h
  obtain ⟨m1, m2, m3, m4, m5, m6⟩ := hm
  have hz : ∀ i, j + k < i → wd l i = 0 := fun i hi => by
    have := wd_zero_of_lt (l := l.drop (j + 1)) (k := k) (i := i - (j + 1)) (by omega) (by omega)
    rw [wd_drop] at this
    rwa [show j + 1 + (i - (j + 1)) = i by omega] at this
  have hz2 : ∀ i, j + k < i → wd l' i = 0 := fun i hi => by rw [m6 i (.inr (by omega)), hz i hi]
  have elow : preN l' j = preN l j := preN_congr (fun i hi => m6 i (.inl hi)) (by omega) (by omega)
  have e1 := val_low l' (j := j) (by omega)
  rw [val_win hz2 (by omega), elow] at e1
  have e2 := val_low l (j := j) (by omega)
  rw [preN_all (by omega), hV] at m5
  have e1' := congrArg (Nat.cast : Nat → Int) e1
  have e2' := congrArg (Nat.cast : Nat → Int) e2
  push_cast at e1' e2'
  have hX : (0 : Int) < (wB : Int) ^ j := by exact_mod_cast Nat.pow_pos (n := j) wB_pos
  refine Int.eq_of_mul_eq_mul_left (Int.ne_of_gt hX) ?_
  rw [Int.pow_add] at m5
  generalize (wB : Int) ^ j = X at *
  generalize (wB : Int) ^ k = Y at *
  rw [Int.mul_sub, Int.mul_add, Int.mul_sub, Int.mul_sub, Int.mul_sub, Int.mul_sub]
  rw [Int.mul_add] at e1'
  have e3 : X * Y * ((c : Int) + b) = X * (Y * c) + X * (Y * b) := by rw [Int.mul_add, Int.mul_assoc, Int.mul_assoc]
  omega

/-- Taken away as often as it goes: nothing is left in the word above. -/
theorem sub_exact {U V Lu Lq j k g c b : Nat} {l qs v l' : List Nat} (h : Dv U V Lu Lq (j + 1) l qs) (hV : val v = V) (hk : v.length = k) (hVk : V ≤ wB ^ k) (hL : Lu = Lq + k) (hj : j < Lq) (hm : Msub l v j g k l' c b)
    (hg : g = val (l.drop j) / V) : (wd l' (j + k) : Int) - c - b = 0 ∧ win l' j k + g * V = val (l.drop j) := by
  have e := sub_win h hV hk hVk hL hj hm
  have hV0 : 0 < V := by have := h.2.2.2.2.1; omega
  have h1 := Nat.div_mul_le_self (val (l.drop j)) V
  have h2 := Nat.lt_div_mul_add (a := val (l.drop j)) hV0
  rw [← hg] at h1 h2
  have h3 := win_lt hm.2.1 j k
  have h3' : (win l' j k : Int) < (wB : Int) ^ k := by exact_mod_cast h3
  have hVk' : (V : Int) ≤ (wB : Int) ^ k := by exact_mod_cast hVk
  have hgV : (g : Int) * V = ((g * V : Nat) : Int) := by rw [Int.natCast_mul]
  rw [hgV] at e
  generalize (wd l' (j + k) : Int) - c - b = z at *
  generalize (wB : Int) ^ k = Y at *
  have hz : z = 0 := by
    rcases Int.lt_trichotomy z 0 with hz | hz | hz
    · exfalso
      have : Y * z ≤ Y * (-1) := Int.mul_le_mul_of_nonneg_left (by omega) (by omega)
      omega
    · exact hz
    · exfalso
      have : Y * 1 ≤ Y * z := Int.mul_le_mul_of_nonneg_left (by omega) (by omega)
      omega
  subst hz
  rw [Int.mul_zero] at e
  exact ⟨rfl, by omega⟩

/-- Taken away once too often: the word above says so; and what the divisor, added back, makes of it. -/
theorem sub_over {U V Lu Lq j k g c b : Nat} {l qs v l' : List Nat} (h : Dv U V Lu Lq (j + 1) l qs) (hV : val v = V) (hk : v.length = k) (hVk : V ≤ wB ^ k) (hL : Lu = Lq + k) (hj : j < Lq) (hm : Msub l v j g k l' c b)
    (hg : g = val (l.drop j) / V + 1) : (wd l' (j + k) : Int) - c - b = -1 ∧
      ∀ l2 c2, Madd l' v j k l2 c2 → c2 = 1 ∧ win l2 j k + (g - 1) * V = val (l.drop j) ∧ wd l2 (j + k) = wd l' (j + k) ∧ (∀ t, t < j ∨ j + k < t → wd l2 t = wd l t) := by
  have e := sub_win h hV hk hVk hL hj hm
  have hV0 : 0 < V := by have := h.2.2.2.2.1; omega
  obtain ⟨q, rfl⟩ : ∃ q, g = q + 1 := ⟨_, hg⟩
  have hq : q = val (l.drop j) / V := Nat.add_right_cancel hg
  have h1 := Nat.div_mul_le_self (val (l.drop j)) V
  have h2 := Nat.lt_div_mul_add (a := val (l.drop j)) hV0
  rw [← hq] at h1 h2
  have h3 := win_lt hm.2.1 j k
  have h3' : (win l' j k : Int) < (wB : Int) ^ k := by exact_mod_cast h3
  have hVk' : (V : Int) ≤ (wB : Int) ^ k := by exact_mod_cast hVk
  have hgV : ((q + 1 : Nat) : Int) * V = ((q * V : Nat) : Int) + V := by push_cast; rw [Int.add_mul, Int.one_mul]
  rw [hgV] at e
  have hz : (wd l' (j + k) : Int) - c - b = -1 := by
    generalize (wd l' (j + k) : Int) - c - b = z at *
    generalize (wB : Int) ^ k = Y at *
    rcases Int.lt_trichotomy z (-1) with hz | hz | hz
    · exfalso
      have : Y * z ≤ Y * (-2) := Int.mul_le_mul_of_nonneg_left (by omega) (by omega)
      omega
    · exact hz
    · exfalso
      have : Y * 0 ≤ Y * z := Int.mul_le_mul_of_nonneg_left (by omega) (by omega)
      omega
  refine ⟨hz, fun l2 c2 hadd => ?_⟩
  rw [hz] at e
  obtain ⟨a1, a2, a3, a4, a5⟩ := hadd
  obtain ⟨d1, d2, d3, d4, d5, d6⟩ := h
  obtain ⟨m1, m2, m3, m4, m5, m6⟩ := hm
  have hzl : ∀ i, j + k < i → wd l i = 0 := fun i hi => by
    have := wd_zero_of_lt (l := l.drop (j + 1)) (k := k) (i := i - (j + 1)) (by omega) (by omega)
    rw [wd_drop] at this
    rwa [show j + 1 + (i - (j + 1)) = i by omega] at this
  have hz1 : ∀ i, j + k < i → wd l' i = 0 := fun i hi => by rw [m6 i (.inr (by omega)), hzl i hi]
  have hz2 : ∀ i, j + k < i → wd l2 i = 0 := fun i hi => by rw [a5 i (.inr (by omega)), hz1 i hi]
  have elow : preN l2 j = preN l' j := preN_congr (fun i hi => a5 i (.inl hi)) (by omega) (by omega)
  have e1 := val_low l' (j := j) (by omega)
  have e2 := val_low l2 (j := j) (by omega)
  rw [val_win hz1 (by omega)] at e1
  rw [val_win hz2 (by omega), elow, a5 (j + k) (.inr (by omega))] at e2
  rw [preN_all (by omega), hV, Nat.pow_add] at a4
  have ewin : win l2 j k + wB ^ k * c2 = win l' j k + V := by
    refine Nat.eq_of_mul_eq_mul_left (Nat.pow_pos (n := j) wB_pos) ?_
    rw [Nat.mul_add] at e1 e2
    rw [Nat.mul_add, Nat.mul_add, ← Nat.mul_assoc]
    omega
  have ewin' : (win l2 j k : Int) + (wB : Int) ^ k * c2 = win l' j k + V := by exact_mod_cast ewin
  have h4 := win_lt a2 j k
  have h4' : (win l2 j k : Int) < (wB : Int) ^ k := by exact_mod_cast h4
  have hc2 : c2 = 1 := by
    rcases Nat.eq_zero_or_pos c2 with e0 | e0
    · exfalso
      subst e0
      generalize (wB : Int) ^ k = Y at *
      omega
    · omega
  subst hc2
  refine ⟨rfl, ?_, a5 _ (.inr (by omega)), fun t ht => ?_⟩
  · rw [Nat.add_sub_cancel]
    generalize (wB : Int) ^ k = Y at *
    omega
  · rw [a5 t (by omega), m6 t (by omega)]
end Go.Proofs.YtbnbaokamccmjaaGreatDoor
