/- rational: Compare. -/
import Derived.Test.YtbnbaokamccmjaaGreatDoorQa6
set_option linter.unusedVariables false
set_option linter.unusedSimpArgs false
namespace Go.Proofs.YtbnbaokamccmjaaGreatDoor
open Go Go.RowKit

/-- Three-way comparison. -/
def rcmp (x y : Rat) : Int := if x < y then -1 else if x = y then 0 else 1
theorem rcmp_self (x : Rat) : rcmp x x = 0 := by
  unfold rcmp
  rw [if_neg (Rat.lt_irrefl), if_pos rfl]
theorem sgn_range (z : Int) : -1 ≤ sgn z ∧ sgn z ≤ 1 := by
  unfold sgn
  split
  · omega
  · split <;> omega
theorem rcmp_cross (x y : Rat) : rcmp x y = icmp (x.num * y.den) (y.num * x.den) := by
  unfold rcmp icmp sgn
  have h1 := Rat.lt_iff x y
  have h2 : x = y ↔ x.num * y.den = y.num * x.den := by
    constructor
    · rintro rfl; rfl
    · intro e
      have e2 := (Rat.divInt_eq_divInt_iff (n₁ := x.num) (d₁ := x.den) (n₂ := y.num) (d₂ := y.den) (by have := x.den_nz; omega) (by have := y.den_nz; omega)).2 e
      rwa [Rat.num_divInt_den, Rat.num_divInt_den] at e2
  by_cases a : x < y
  · have := h1.1 a
    rw [if_pos a, if_neg (by omega), if_pos (by omega)]
  · have a' : ¬ x.num * y.den < y.num * x.den := fun h => a (h1.2 h)
    rw [if_neg a]
    by_cases b : x = y
    · have := h2.1 b
      rw [if_pos b, if_pos (by omega)]
    · have : ¬ x.num * y.den = y.num * x.den := fun h => b (h2.2 h)
      rw [if_neg b, if_neg (by omega), if_neg (by omega)]
theorem rcmp_signs (x y : Rat) (h : sgn x.num ≠ sgn y.num) : rcmp x y = max (-1) (min (sgn x.num - sgn y.num) 1) := by
  rw [rcmp_cross]
  unfold icmp
  have hd := x.den_pos
  have hd2 := y.den_pos
  have f : ∀ (a : Int) (d : Nat), 0 < d → sgn (a * d) = sgn a := by
    intro a d hd
    unfold sgn
    have h0 : a * (d : Int) = 0 ↔ a = 0 := by
      constructor
      · intro e
        rcases Int.mul_eq_zero.1 e with h | h
        · exact h
        · omega
      · rintro rfl; simp
    have h1 : a * (d : Int) < 0 ↔ a < 0 := by
      constructor
      · intro e
        refine Decidable.byContradiction fun h => ?_
        have := Int.mul_nonneg (show 0 ≤ a by omega) (Int.natCast_nonneg d)
        omega
      · intro e
        exact Int.mul_neg_of_neg_of_pos e (by omega)
    simp only [h0, h1]
  have h1 := f x.num y.den hd2
  have h2 := f y.num x.den hd
  generalize x.num * (y.den : Int) = u at *
  generalize y.num * (x.den : Int) = v at *
  rw [← h1, ← h2] at h ⊢
  unfold sgn at *
  omega

set_option maxHeartbeats 1000000 in
theorem rcomp_same (x : Rat) (hx : rz x ≤ 10000000) (w : World) (hB : Bw w) :
    Calls Tryz.prog 58 #[.string (rtx x), .string (rtx x)] w fun e w' => e = .returned (.tuple #[.int .i64 0, .int .i64 0]) ∧ Below w.heap.size w w' := by
  have H1 := Lib.hid (fun w hB => rboth_walk x x hx hx w hB)
  obtain ⟨s1, t1, e1⟩ := FV_shape x
  rw [e1] at H1
  clear e1 hx
  generalize rtx x = xs at *
  go_enter Tryz.func58, Tryz.ntmps58
  go_wp2_with fail
  refine (H1.out _ (hB.below (by repeat (first | exact br _ | assumption | refine ba ?_ | refine bd ?_ | refine below_drewN ?_ _ | refine bs ?_ (by (try simp) <;> omega))))).mono ?_
  rintro e w1 ⟨rfl, g1⟩
  have B1 : Below w.heap.size w w1 := bn (by repeat (first | exact br _ | assumption | refine ba ?_ | refine bd ?_ | refine below_drewN ?_ _ | refine bs ?_ (by (try simp) <;> omega))) g1
  clear g1
  go_wp2
  go_ret2
  exact ⟨rfl, (by repeat (first | exact br _ | assumption | refine ba ?_ | refine bd ?_ | refine below_drewN ?_ _ | refine bs ?_ (by (try simp) <;> omega)))⟩

set_option maxHeartbeats 1000000 in
theorem rcomp_bad (s t : ByteArray) (hs : s.size ≤ 40000000) (ht : t.size ≤ 40000000) (hr : (isRat s && isRat t) = false) (w : World) (hB : Bw w) :
    Calls Tryz.prog 58 #[.string s, .string t] w fun e w' => e = .returned (.tuple #[.int .i64 0, .int .i64 1]) ∧ Below w.heap.size w w' := by
  have H1 := Lib.hid (fun w hB => rboth_bad s t hs ht _ _ rfl rfl hr w hB)
  clear hs ht hr
  go_enter Tryz.func58, Tryz.ntmps58
  go_wp2_with fail
  refine (H1.out _ (hB.below (by repeat (first | exact br _ | assumption | refine ba ?_ | refine bd ?_ | refine below_drewN ?_ _ | refine bs ?_ (by (try simp) <;> omega))))).mono ?_
  rintro e w1 ⟨rfl, g1⟩
  have B1 : Below w.heap.size w w1 := bn (by repeat (first | exact br _ | assumption | refine ba ?_ | refine bd ?_ | refine below_drewN ?_ _ | refine bs ?_ (by (try simp) <;> omega))) g1
  clear g1
  go_wp2
  go_ret2
  exact ⟨rfl, (by repeat (first | exact br _ | assumption | refine ba ?_ | refine bd ?_ | refine below_drewN ?_ _ | refine bs ?_ (by (try simp) <;> omega)))⟩

set_option maxHeartbeats 1000000 in
theorem rcomp_sign (x y : Rat) (hne : x ≠ y) (h : sgn x.num ≠ sgn y.num) (hx : rz x ≤ 10000000) (hy : rz y ≤ 10000000) (w : World) (hB : Bw w) :
    Calls Tryz.prog 58 #[.string (rtx x), .string (rtx y)] w fun e w' => e = .returned (.tuple #[.int .i64 (rcmp x y), .int .i64 0]) ∧ Below w.heap.size w w' := by
  rw [rcmp_signs x y h]
  have H1 := Lib.hid (fun w hB => rboth_walk x y hx hy w hB)
  have H2 := Lib.hid (fun w => rsign_walk x (by omega) w)
  have H3 := Lib.hid (fun w => rsign_walk y (by omega) w)
  have hst : ((rtx x).toList == (rtx y).toList) = false := beq_eq_false_iff_ne.2 fun e => hne (rtoa_inj (by rwa [ByteArray.toList_eq, ByteArray.toList_eq, rtx_toList, rtx_toList] at e))
  have r1 := sgn_range x.num
  have r2 := sgn_range y.num
  have hq : (sgn x.num == sgn y.num) = false := beq_eq_false_iff_ne.2 h
  have hxy : FV x ≠ FV y := fun e => hne (by
    rw [FV_eq, FV_eq] at e
    simp only [Value.agg.injEq, Array.mk.injEq, List.cons.injEq, Value.string.injEq] at e
    exact Rat.ext (itx_inj e.1) (dec_inj e.2.1))
  obtain ⟨s1, t1, e1⟩ := FV_shape x
  obtain ⟨s2, t2, e2⟩ := FV_shape y
  rw [e1, e2] at H1 hxy
  rw [e1] at H2
  rw [e2] at H3
  clear e1 e2 hx hy hne h
  generalize rtx x = xs at *
  generalize rtx y = ys at *
  generalize sgn x.num = sx at *
  generalize sgn y.num = sy at *
  obtain ⟨r1a, r1b⟩ := r1
  obtain ⟨r2a, r2b⟩ := r2
  have HXY := Lib.hid hxy
  clear hxy
  go_enter Tryz.func58, Tryz.ntmps58
  go_wp2_with fail
  refine (H1.out _ (hB.below (by repeat (first | exact br _ | assumption | refine ba ?_ | refine bd ?_ | refine below_drewN ?_ _ | refine bs ?_ (by (try simp) <;> omega))))).mono ?_
  rintro e w1 ⟨rfl, g1⟩
  have B1 : Below w.heap.size w w1 := bn (by repeat (first | exact br _ | assumption | refine ba ?_ | refine bd ?_ | refine below_drewN ?_ _ | refine bs ?_ (by (try simp) <;> omega))) g1
  clear g1
  go_wp2
  go_region_held3 (fun w' => w'.cell? ⟨w1.heap.size, 0, none⟩ = some (.string s1) ∧ w'.cell? ⟨w1.heap.size, 1, none⟩ = some (.string t1) ∧ w'.cell? ⟨w1.heap.size + 1, 0, none⟩ = some (.string s2) ∧ w'.cell? ⟨w1.heap.size + 1, 1, none⟩ = some (.string t2) ∧ Below w.heap.size w w')
    ((go_split_ands; refine ⟨?_, ?_, ?_, ?_, ?_⟩ <;> first | (go_simp; done) | (exact bc g2 (by first | with_reducible assumption | go_simp)) | (exact bn (by repeat (first | exact br _ | assumption | refine ba ?_ | refine bd ?_ | refine below_drewN ?_ _ | refine bs ?_ (by (try simp) <;> omega))) g2) | exact (by repeat (first | exact br _ | assumption | refine ba ?_ | refine bd ?_ | refine below_drewN ?_ _ | refine bs ?_ (by (try simp) <;> omega)))))
    (first | (go_at_call_of 93 (Value.agg #[.string s1, .string t1]); refine (H2.out _).mono ?_; rintro e w2 ⟨rfl, g2⟩) | (go_at_call_of 93 (Value.agg #[.string s2, .string t2]); refine (H3.out _).mono ?_; rintro e w2 ⟨rfl, g2⟩))
  all_goals
    go_split_ands
    go_wp2
    go_ret2
    exact ⟨rfl, (by repeat (first | exact br _ | assumption | refine ba ?_ | refine bd ?_ | refine below_drewN ?_ _ | refine bs ?_ (by (try simp) <;> omega)))⟩

set_option maxHeartbeats 1000000 in
theorem rcomp_cross (x y : Rat) (hne : x ≠ y) (h : sgn x.num = sgn y.num) (hx : rz x ≤ 10000000) (hy : rz y ≤ 10000000) (w : World) (hB : Bw w) :
    Calls Tryz.prog 58 #[.string (rtx x), .string (rtx y)] w fun e w' => e = .returned (.tuple #[.int .i64 (rcmp x y), .int .i64 0]) ∧ Below w.heap.size w w' := by
  rw [rcmp_cross x y]
  have n1 := rz_num x
  have n2 := rz_num y
  have n3 := rz_den x
  have n4 := rz_den y
  have H1 := Lib.hid (fun w hB => rboth_walk x y hx hy w hB)
  have H2 := Lib.hid (fun w => rsign_walk x (by omega) w)
  have H3 := Lib.hid (fun w => rsign_walk y (by omega) w)
  have HA := Lib.hid (fun w hB => iMul_walk x.num (y.den : Int) (by omega) (by rw [Int.natAbs_natCast]; omega) w hB)
  have HC := Lib.hid (fun w hB => iMul_walk y.num (x.den : Int) (by omega) (by rw [Int.natAbs_natCast]; omega) w hB)
  have k1 : dg (x.num * y.den).natAbs ≤ 40000000 := by have := dg_mul x.num.natAbs y.den; rw [Int.natAbs_mul, Int.natAbs_natCast]; omega
  have k2 : dg (y.num * x.den).natAbs ≤ 40000000 := by have := dg_mul y.num.natAbs x.den; rw [Int.natAbs_mul, Int.natAbs_natCast]; omega
  have HD := Lib.hid (fun w hB => iCompare_walk (x.num * y.den) (y.num * x.den) (by omega) (by omega) w hB)
  rw [itx_nat] at HA HC
  have hst : ((rtx x).toList == (rtx y).toList) = false := beq_eq_false_iff_ne.2 fun e => hne (rtoa_inj (by rwa [ByteArray.toList_eq, ByteArray.toList_eq, rtx_toList, rtx_toList] at e))
  rw [← h] at H3
  have hne2 : FV x ≠ FV y := fun e => hne (by
    rw [FV_eq, FV_eq] at e
    simp only [Value.agg.injEq, Array.mk.injEq, List.cons.injEq, Value.string.injEq] at e
    exact Rat.ext (itx_inj e.1) (dec_inj e.2.1))
  rw [FV_eq x] at H1 H2 hne2
  rw [FV_eq y] at H1 H3 hne2
  clear hx hy hne h n1 n2 n3 n4 k1 k2
  generalize rtx x = xs at *
  generalize rtx y = ys at *
  generalize sgn x.num = sx at *
  generalize itx (x.num * y.den) = u1 at *
  generalize itx (y.num * x.den) = u2 at *
  generalize icmp (x.num * y.den) (y.num * x.den) = rs at *
  generalize itx x.num = s1 at *
  generalize itx y.num = s2 at *
  generalize dec x.den = t1 at *
  generalize dec y.den = t2 at *
  have HNE := Lib.hid hne2
  clear hne2
  go_enter Tryz.func58, Tryz.ntmps58
  go_wp2_with fail
  refine (H1.out _ (hB.below (by repeat (first | exact br _ | assumption | refine ba ?_ | refine bd ?_ | refine below_drewN ?_ _ | refine bs ?_ (by (try simp) <;> omega))))).mono ?_
  rintro e w1 ⟨rfl, g1⟩
  have B1 : Below w.heap.size w w1 := bn (by repeat (first | exact br _ | assumption | refine ba ?_ | refine bd ?_ | refine below_drewN ?_ _ | refine bs ?_ (by (try simp) <;> omega))) g1
  clear g1
  go_wp2
  go_region_held3 (fun w' => w'.cell? ⟨w1.heap.size, 0, none⟩ = some (.string s1) ∧ w'.cell? ⟨w1.heap.size, 1, none⟩ = some (.string t1) ∧ w'.cell? ⟨w1.heap.size + 1, 0, none⟩ = some (.string s2) ∧ w'.cell? ⟨w1.heap.size + 1, 1, none⟩ = some (.string t2) ∧ w1.heap.size + 1 < w'.heap.size ∧ Below w.heap.size w w')
    ((go_split_ands; refine ⟨?_, ?_, ?_, ?_, ?_, ?_⟩ <;> first | (go_simp; done) | (exact bc g2 (by first | with_reducible assumption | go_simp)) | (exact Nat.lt_of_lt_of_le (by first | with_reducible assumption | go_simp) g2.size) | (exact bn (by repeat (first | exact br _ | assumption | refine ba ?_ | refine bd ?_ | refine below_drewN ?_ _ | refine bs ?_ (by (try simp) <;> omega))) g2) | exact (by repeat (first | exact br _ | assumption | refine ba ?_ | refine bd ?_ | refine below_drewN ?_ _ | refine bs ?_ (by (try simp) <;> omega)))))
    (first | (go_at_call_of 93 (Value.agg #[.string s1, .string t1]); refine (H2.out _).mono ?_; rintro e w2 ⟨rfl, g2⟩) | (go_at_call_of 93 (Value.agg #[.string s2, .string t2]); refine (H3.out _).mono ?_; rintro e w2 ⟨rfl, g2⟩))
  all_goals
    go_split_ands
    go_wp2_with fail
    refine (HA.out _ (hB.below (by repeat (first | exact br _ | assumption | refine ba ?_ | refine bd ?_ | refine below_drewN ?_ _ | refine bs ?_ (by (try simp) <;> omega))))).mono ?_
    rintro e w3 ⟨rfl, g3⟩
    have k1 := bc (b := w1.heap.size) (o := 1) (v := .string t1) g3 (by first | with_reducible assumption | go_simp)
    have k2 := bc (b := w1.heap.size + 1) (o := 0) (v := .string s2) g3 (by first | with_reducible assumption | go_simp)
    have B3 : Below w.heap.size w w3 := bn (by repeat (first | exact br _ | assumption | refine ba ?_ | refine bd ?_ | refine below_drewN ?_ _ | refine bs ?_ (by (try simp) <;> omega))) g3
    clear g3
    go_wp2_with fail
    refine (HC.out _ (hB.below (by repeat (first | exact br _ | assumption | refine ba ?_ | refine bd ?_ | refine below_drewN ?_ _ | refine bs ?_ (by (try simp) <;> omega))))).mono ?_
    rintro e w4 ⟨rfl, g4⟩
    have B4 : Below w.heap.size w w4 := bn (by repeat (first | exact br _ | assumption | refine ba ?_ | refine bd ?_ | refine below_drewN ?_ _ | refine bs ?_ (by (try simp) <;> omega))) g4
    clear g4
    go_wp2_with fail
    refine (HD.out _ (hB.below (by repeat (first | exact br _ | assumption | refine ba ?_ | refine bd ?_ | refine below_drewN ?_ _ | refine bs ?_ (by (try simp) <;> omega))))).mono ?_
    rintro e w5 ⟨rfl, g5⟩
    have B5 : Below w.heap.size w w5 := bn (by repeat (first | exact br _ | assumption | refine ba ?_ | refine bd ?_ | refine below_drewN ?_ _ | refine bs ?_ (by (try simp) <;> omega))) g5
    clear g5
    go_wp2
    go_ret2
    exact ⟨rfl, (by repeat (first | exact br _ | assumption | refine ba ?_ | refine bd ?_ | refine below_drewN ?_ _ | refine bs ?_ (by (try simp) <;> omega)))⟩

theorem rCompare_walk (x y : Rat) (hx : rz x ≤ 10000000) (hy : rz y ≤ 10000000) (w : World) (hB : Bw w) :
    Calls Tryz.prog 58 #[.string (rtx x), .string (rtx y)] w fun e w' => e = .returned (.tuple #[.int .i64 (rcmp x y), .int .i64 0]) ∧ Below w.heap.size w w' := by
  by_cases h : x = y
  · subst h
    rw [rcmp_self]
    exact rcomp_same x hx w hB
  · by_cases hs : sgn x.num = sgn y.num
    · exact rcomp_cross x y h hs hx hy w hB
    · exact rcomp_sign x y h hs hx hy w hB
end Go.Proofs.YtbnbaokamccmjaaGreatDoor
