/- rational: plus, times. -/
import Derived.Test.YtbnbaokamccmjaaGreatDoorQa2
set_option linter.unusedVariables false
set_option linter.unusedSimpArgs false
namespace Go.Proofs.YtbnbaokamccmjaaGreatDoor
open Go Go.RowKit

theorem little_any (q : Rat) : ∃ a b : Int, ∀ w, Calls Tryz.prog 198 #[FV q] w fun e w' => e = .returned (.tuple #[.int .i64 a, .int .i64 b, .bool (shortB q)]) ∧ Below w.heap.size w w' := by
  cases h : shortB q
  · exact ⟨0, 0, fun w => little_long q h w⟩
  · exact ⟨_, _, fun w => little_short q h w⟩
theorem short_bounds {q : Rat} (h : shortB q = true) : q.num.natAbs ≤ 999999999 ∧ 1 ≤ q.den ∧ q.den ≤ 999999999 := by
  unfold shortB at h
  rw [Bool.and_eq_true, decide_eq_true_eq, decide_eq_true_eq] at h
  have h1 := dg_sgn q.num
  have h2 : q.num.natAbs < 1000000000 := lt_of_len (by rw [← dec_toList, toList_length, dg_def]; omega)
  have h3 : q.den < 1000000000 := lt_of_len (by rw [← dec_toList, toList_length]; exact h.2)
  have := q.den_pos
  exact ⟨by omega, by omega, by omega⟩
theorem prod_bound {a b : Int} (ha : a.natAbs ≤ 999999999) (hb : b.natAbs ≤ 999999999) : -1000000000000000000 ≤ a * b ∧ a * b ≤ 1000000000000000000 := by
  have h : (a * b).natAbs ≤ 999999999 * 999999999 := by
    rw [Int.natAbs_mul]
    exact Nat.mul_le_mul ha hb
  omega
theorem prod_pos {a b : Nat} (ha : 1 ≤ a) (hb : 1 ≤ b) : (1 : Int) ≤ (a : Int) * (b : Int) := by
  have := Nat.mul_le_mul ha hb
  exact_mod_cast this

set_option maxHeartbeats 1000000 in
theorem rplus_short (x y : Rat) (hx : shortB x = true) (hy : shortB y = true) (w : World) (hB : Bw w) :
    Calls Tryz.prog 181 #[FV x, FV y] w fun e w' => e = .returned (FV (x + y)) ∧ Below w.heap.size w w' := by
  have b1 := short_bounds hx
  have b2 := short_bounds hy
  have H1 := Lib.hid (fun w => little_short x hx w)
  have H2 := Lib.hid (fun w => little_short y hy w)
  have p1 := prod_bound (a := x.num) (b := (y.den : Int)) (by omega) (by omega)
  have p2 := prod_bound (a := y.num) (b := (x.den : Int)) (by omega) (by omega)
  have p3 := prod_bound (a := (x.den : Int)) (b := (y.den : Int)) (by omega) (by omega)
  have p4 := prod_pos b1.2.1 b2.2.1
  have H3 := Lib.hid (fun w hB => rof_walk (x.num * y.den + y.num * x.den) (x.den * y.den) (by omega) (by omega) p4 p3.2 w hB)
  rw [show ((x.den : Int) * (y.den : Int)).toNat = x.den * y.den by rw [← Int.natCast_mul]; rfl, ← Rat.add_def'] at H3
  obtain ⟨s1, t1, e1⟩ := FV_shape x
  obtain ⟨s2, t2, e2⟩ := FV_shape y
  obtain ⟨s3, t3, e3⟩ := FV_shape (x + y)
  rw [e1] at H1 ⊢
  rw [e2] at H2 ⊢
  rw [e3] at H3 ⊢
  clear e1 e2 e3 hx hy b1 b2
  generalize x.num = p at *
  generalize y.num = r at *
  generalize (x.den : Int) = q at *
  generalize (y.den : Int) = s at *
  obtain ⟨p1a, p1b⟩ := p1
  obtain ⟨p2a, p2b⟩ := p2
  obtain ⟨p3a, p3b⟩ := p3
  go_enter Tryz.func181, Tryz.ntmps181
  go_wp2_with fail
  refine (H1.out _).mono ?_
  rintro e w1 ⟨rfl, g1⟩
  have hz1 : w.heap.size + 2 < w1.heap.size := by have := g1.size; (try simp at this); omega
  have hz1_0 : w.heap.size < w1.heap.size := by omega
  have hz1_1 : w.heap.size + 1 < w1.heap.size := by omega
  have B1 : Below w.heap.size w w1 := bn (by repeat (first | exact br _ | assumption | refine ba ?_ | refine bd ?_ | refine below_drewN ?_ _ | refine bs ?_ (by (try simp) <;> omega))) g1
  have c1_1_0 : w1.cell? ⟨w.heap.size + 1, 0, none⟩ = some (.string s2) := bc g1 (by first | with_reducible assumption | go_simp)
  have f1_1_0 : w1.frozen? ⟨w.heap.size + 1, 0, none⟩ = false := bfz g1 (by (try simp) <;> omega) (by first | with_reducible assumption | go_simp)
  have c1_1_1 : w1.cell? ⟨w.heap.size + 1, 1, none⟩ = some (.string t2) := bc g1 (by first | with_reducible assumption | go_simp)
  have f1_1_1 : w1.frozen? ⟨w.heap.size + 1, 1, none⟩ = false := bfz g1 (by (try simp) <;> omega) (by first | with_reducible assumption | go_simp)
  have c1_2_0 : w1.cell? ⟨w.heap.size + 1 + 1, 0, none⟩ = some (.string ⟨#[]⟩) := bc g1 (by first | with_reducible assumption | go_simp)
  have f1_2_0 : w1.frozen? ⟨w.heap.size + 1 + 1, 0, none⟩ = false := bfz g1 (by (try simp) <;> omega) (by first | with_reducible assumption | go_simp)
  have c1_2_1 : w1.cell? ⟨w.heap.size + 1 + 1, 1, none⟩ = some (.string ⟨#[]⟩) := bc g1 (by first | with_reducible assumption | go_simp)
  have f1_2_1 : w1.frozen? ⟨w.heap.size + 1 + 1, 1, none⟩ = false := bfz g1 (by (try simp) <;> omega) (by first | with_reducible assumption | go_simp)
  clear g1
  go_wp2_with fail
  refine (H2.out _).mono ?_
  rintro e w2 ⟨rfl, g2⟩
  have hz2 : w.heap.size + 2 < w2.heap.size := by have := g2.size; (try simp at this); omega
  have hz2_0 : w.heap.size < w2.heap.size := by omega
  have hz2_1 : w.heap.size + 1 < w2.heap.size := by omega
  have B2 : Below w.heap.size w w2 := bn (by repeat (first | exact br _ | assumption | refine ba ?_ | refine bd ?_ | refine below_drewN ?_ _ | refine bs ?_ (by (try simp) <;> omega))) g2
  have c2_2_0 : w2.cell? ⟨w.heap.size + 1 + 1, 0, none⟩ = some (.string ⟨#[]⟩) := bc g2 (by first | with_reducible assumption | go_simp)
  have f2_2_0 : w2.frozen? ⟨w.heap.size + 1 + 1, 0, none⟩ = false := bfz g2 (by (try simp) <;> omega) (by first | with_reducible assumption | go_simp)
  have c2_2_1 : w2.cell? ⟨w.heap.size + 1 + 1, 1, none⟩ = some (.string ⟨#[]⟩) := bc g2 (by first | with_reducible assumption | go_simp)
  have f2_2_1 : w2.frozen? ⟨w.heap.size + 1 + 1, 1, none⟩ = false := bfz g2 (by (try simp) <;> omega) (by first | with_reducible assumption | go_simp)
  clear g2
  go_wp2_with fail
  refine (H3.out _ (hB.below (by repeat (first | exact br _ | assumption | refine ba ?_ | refine bd ?_ | refine below_drewN ?_ _ | refine bs ?_ (by (try simp) <;> omega))))).mono ?_
  rintro e w3 ⟨rfl, g3⟩
  have hz3 : w.heap.size + 2 < w3.heap.size := by have := g3.size; (try simp at this); omega
  have hz3_0 : w.heap.size < w3.heap.size := by omega
  have hz3_1 : w.heap.size + 1 < w3.heap.size := by omega
  have B3 : Below w.heap.size w w3 := bn (by repeat (first | exact br _ | assumption | refine ba ?_ | refine bd ?_ | refine below_drewN ?_ _ | refine bs ?_ (by (try simp) <;> omega))) g3
  have c3_2_0 : w3.cell? ⟨w.heap.size + 1 + 1, 0, none⟩ = some (.string ⟨#[]⟩) := bc g3 (by first | with_reducible assumption | go_simp)
  have f3_2_0 : w3.frozen? ⟨w.heap.size + 1 + 1, 0, none⟩ = false := bfz g3 (by (try simp) <;> omega) (by first | with_reducible assumption | go_simp)
  have c3_2_1 : w3.cell? ⟨w.heap.size + 1 + 1, 1, none⟩ = some (.string ⟨#[]⟩) := bc g3 (by first | with_reducible assumption | go_simp)
  have f3_2_1 : w3.frozen? ⟨w.heap.size + 1 + 1, 1, none⟩ = false := bfz g3 (by (try simp) <;> omega) (by first | with_reducible assumption | go_simp)
  clear g3
  go_wp2
  refine bodyPost_ret (v := .agg #[.string s3, .string t3]) (by simp [results, Tryz.results181, go_sem, *]) rfl ⟨(by first | rfl | rw [hI]), (by repeat (first | exact br _ | assumption | refine ba ?_ | refine bd ?_ | refine below_drewN ?_ _ | refine bs ?_ (by (try simp) <;> omega)))⟩

set_option maxHeartbeats 1000000 in
theorem rtimes_short (x y : Rat) (hx : shortB x = true) (hy : shortB y = true) (w : World) (hB : Bw w) :
    Calls Tryz.prog 182 #[FV x, FV y] w fun e w' => e = .returned (FV (x * y)) ∧ Below w.heap.size w w' := by
  have b1 := short_bounds hx
  have b2 := short_bounds hy
  have H1 := Lib.hid (fun w => little_short x hx w)
  have H2 := Lib.hid (fun w => little_short y hy w)
  have p1 := prod_bound (a := x.num) (b := y.num) (by omega) (by omega)
  have p3 := prod_bound (a := (x.den : Int)) (b := (y.den : Int)) (by omega) (by omega)
  have p4 := prod_pos b1.2.1 b2.2.1
  have H3 := Lib.hid (fun w hB => rof_walk (x.num * y.num) (x.den * y.den) (by omega) (by omega) p4 p3.2 w hB)
  rw [show ((x.den : Int) * (y.den : Int)).toNat = x.den * y.den by rw [← Int.natCast_mul]; rfl, ← Rat.mul_def'] at H3
  obtain ⟨s1, t1, e1⟩ := FV_shape x
  obtain ⟨s2, t2, e2⟩ := FV_shape y
  obtain ⟨s3, t3, e3⟩ := FV_shape (x * y)
  rw [e1] at H1 ⊢
  rw [e2] at H2 ⊢
  rw [e3] at H3 ⊢
  clear e1 e2 e3 hx hy b1 b2
  generalize x.num = p at *
  generalize y.num = r at *
  generalize (x.den : Int) = q at *
  generalize (y.den : Int) = s at *
  obtain ⟨p1a, p1b⟩ := p1
  obtain ⟨p3a, p3b⟩ := p3
  go_enter Tryz.func182, Tryz.ntmps182
  go_wp2_with fail
  refine (H1.out _).mono ?_
  rintro e w1 ⟨rfl, g1⟩
  have hz1 : w.heap.size + 2 < w1.heap.size := by have := g1.size; (try simp at this); omega
  have hz1_0 : w.heap.size < w1.heap.size := by omega
  have hz1_1 : w.heap.size + 1 < w1.heap.size := by omega
  have B1 : Below w.heap.size w w1 := bn (by repeat (first | exact br _ | assumption | refine ba ?_ | refine bd ?_ | refine below_drewN ?_ _ | refine bs ?_ (by (try simp) <;> omega))) g1
  have c1_1_0 : w1.cell? ⟨w.heap.size + 1, 0, none⟩ = some (.string s2) := bc g1 (by first | with_reducible assumption | go_simp)
  have f1_1_0 : w1.frozen? ⟨w.heap.size + 1, 0, none⟩ = false := bfz g1 (by (try simp) <;> omega) (by first | with_reducible assumption | go_simp)
  have c1_1_1 : w1.cell? ⟨w.heap.size + 1, 1, none⟩ = some (.string t2) := bc g1 (by first | with_reducible assumption | go_simp)
  have f1_1_1 : w1.frozen? ⟨w.heap.size + 1, 1, none⟩ = false := bfz g1 (by (try simp) <;> omega) (by first | with_reducible assumption | go_simp)
  have c1_2_0 : w1.cell? ⟨w.heap.size + 1 + 1, 0, none⟩ = some (.string ⟨#[]⟩) := bc g1 (by first | with_reducible assumption | go_simp)
  have f1_2_0 : w1.frozen? ⟨w.heap.size + 1 + 1, 0, none⟩ = false := bfz g1 (by (try simp) <;> omega) (by first | with_reducible assumption | go_simp)
  have c1_2_1 : w1.cell? ⟨w.heap.size + 1 + 1, 1, none⟩ = some (.string ⟨#[]⟩) := bc g1 (by first | with_reducible assumption | go_simp)
  have f1_2_1 : w1.frozen? ⟨w.heap.size + 1 + 1, 1, none⟩ = false := bfz g1 (by (try simp) <;> omega) (by first | with_reducible assumption | go_simp)
  clear g1
  go_wp2_with fail
  refine (H2.out _).mono ?_
  rintro e w2 ⟨rfl, g2⟩
  have hz2 : w.heap.size + 2 < w2.heap.size := by have := g2.size; (try simp at this); omega
  have hz2_0 : w.heap.size < w2.heap.size := by omega
  have hz2_1 : w.heap.size + 1 < w2.heap.size := by omega
  have B2 : Below w.heap.size w w2 := bn (by repeat (first | exact br _ | assumption | refine ba ?_ | refine bd ?_ | refine below_drewN ?_ _ | refine bs ?_ (by (try simp) <;> omega))) g2
  have c2_2_0 : w2.cell? ⟨w.heap.size + 1 + 1, 0, none⟩ = some (.string ⟨#[]⟩) := bc g2 (by first | with_reducible assumption | go_simp)
  have f2_2_0 : w2.frozen? ⟨w.heap.size + 1 + 1, 0, none⟩ = false := bfz g2 (by (try simp) <;> omega) (by first | with_reducible assumption | go_simp)
  have c2_2_1 : w2.cell? ⟨w.heap.size + 1 + 1, 1, none⟩ = some (.string ⟨#[]⟩) := bc g2 (by first | with_reducible assumption | go_simp)
  have f2_2_1 : w2.frozen? ⟨w.heap.size + 1 + 1, 1, none⟩ = false := bfz g2 (by (try simp) <;> omega) (by first | with_reducible assumption | go_simp)
  clear g2
  go_wp2_with fail
  refine (H3.out _ (hB.below (by repeat (first | exact br _ | assumption | refine ba ?_ | refine bd ?_ | refine below_drewN ?_ _ | refine bs ?_ (by (try simp) <;> omega))))).mono ?_
  rintro e w3 ⟨rfl, g3⟩
  have hz3 : w.heap.size + 2 < w3.heap.size := by have := g3.size; (try simp at this); omega
  have hz3_0 : w.heap.size < w3.heap.size := by omega
  have hz3_1 : w.heap.size + 1 < w3.heap.size := by omega
  have B3 : Below w.heap.size w w3 := bn (by repeat (first | exact br _ | assumption | refine ba ?_ | refine bd ?_ | refine below_drewN ?_ _ | refine bs ?_ (by (try simp) <;> omega))) g3
  have c3_2_0 : w3.cell? ⟨w.heap.size + 1 + 1, 0, none⟩ = some (.string ⟨#[]⟩) := bc g3 (by first | with_reducible assumption | go_simp)
  have f3_2_0 : w3.frozen? ⟨w.heap.size + 1 + 1, 0, none⟩ = false := bfz g3 (by (try simp) <;> omega) (by first | with_reducible assumption | go_simp)
  have c3_2_1 : w3.cell? ⟨w.heap.size + 1 + 1, 1, none⟩ = some (.string ⟨#[]⟩) := bc g3 (by first | with_reducible assumption | go_simp)
  have f3_2_1 : w3.frozen? ⟨w.heap.size + 1 + 1, 1, none⟩ = false := bfz g3 (by (try simp) <;> omega) (by first | with_reducible assumption | go_simp)
  clear g3
  go_wp2
  refine bodyPost_ret (v := .agg #[.string s3, .string t3]) (by simp [results, Tryz.results182, go_sem, *]) rfl ⟨(by first | rfl | rw [hI]), (by repeat (first | exact br _ | assumption | refine ba ?_ | refine bd ?_ | refine below_drewN ?_ _ | refine bs ?_ (by (try simp) <;> omega)))⟩

set_option maxHeartbeats 1000000 in
theorem rplus_long (x y : Rat) (hxy : (shortB x && shortB y) = false) (hx : rz x ≤ 20000000) (hy : rz y ≤ 20000000) (w : World) (hB : Bw w) :
    Calls Tryz.prog 181 #[FV x, FV y] w fun e w' => e = .returned (FV (x + y)) ∧ Below w.heap.size w w' := by
  obtain ⟨a1, a2, h1⟩ := little_any x
  obtain ⟨a3, a4, h2⟩ := little_any y
  have H1 := Lib.hid h1
  have H2 := Lib.hid h2
  clear h1 h2
  have n1 := rz_num x
  have n2 := rz_num y
  have n3 := rz_den x
  have n4 := rz_den y
  have HA := Lib.hid (fun w hB => iMul_walk x.num (y.den : Int) (by omega) (by rw [Int.natAbs_natCast]; omega) w hB)
  have HC := Lib.hid (fun w hB => iMul_walk y.num (x.den : Int) (by omega) (by rw [Int.natAbs_natCast]; omega) w hB)
  rw [itx_nat] at HA HC
  have m1 := dg_mul x.num.natAbs y.den
  have m2 := dg_mul y.num.natAbs x.den
  have m3 := dg_mul x.den y.den
  have m4 := dg_add (x.num.natAbs * y.den) (y.num.natAbs * x.den)
  have k1 : dg (x.num * y.den).natAbs ≤ 40000000 := by rw [Int.natAbs_mul, Int.natAbs_natCast]; omega
  have k2 : dg (y.num * x.den).natAbs ≤ 40000000 := by rw [Int.natAbs_mul, Int.natAbs_natCast]; omega
  have k3 : dg (x.num * y.den + y.num * x.den).natAbs ≤ 40000001 := by
    have := dg_mono (Int.natAbs_add_le (x.num * y.den) (y.num * x.den))
    rw [Int.natAbs_mul, Int.natAbs_mul, Int.natAbs_natCast, Int.natAbs_natCast] at this
    omega
  have HD := Lib.hid (fun w hB => iAdd_walk (x.num * y.den) (y.num * x.den) (by omega) (by omega) w hB)
  have HM := Lib.hid (fun w hB => natMul_walk x.den y.den (by have := dg_def x.den; omega) (by have := dg_def y.den; omega) (by have := wds_le_dg (x.den * y.den); omega) w hB)
  have HL := Lib.hid (fun w hB => lowest_walk (x.num * y.den + y.num * x.den) (x.den * y.den) (Nat.mul_ne_zero x.den_nz y.den_nz) (by omega) (by omega) w hB)
  rw [← Rat.add_def'] at HL
  clear m1 m2 m3 m4 k1 k2 k3
  obtain ⟨s3, t3, e3⟩ := FV_shape (x + y)
  rw [FV_eq x] at H1 ⊢
  rw [FV_eq y] at H2 ⊢
  rw [e3] at HL ⊢
  clear e3 hx hy n1 n2 n3 n4
  generalize itx (x.num * y.den + y.num * x.den) = u3 at *
  generalize itx (x.num * y.den) = u1 at *
  generalize itx (y.num * x.den) = u2 at *
  generalize dec (x.den * y.den) = u4 at *
  generalize itx x.num = s1 at *
  generalize itx y.num = s2 at *
  generalize dec x.den = t1 at *
  generalize dec y.den = t2 at *
  generalize shortB x = bx at *
  generalize shortB y = by' at *
  cases bx
  case' true =>
    cases by'
    case true => cases hxy
  all_goals
    clear hxy
    go_enter Tryz.func181, Tryz.ntmps181
    go_wp2_with fail
    refine (H1.out _).mono ?_
    rintro e w1 ⟨rfl, g1⟩
    have hz1 : w.heap.size + 2 < w1.heap.size := by have := g1.size; (try simp at this); omega
    have hz1_0 : w.heap.size < w1.heap.size := by omega
    have hz1_1 : w.heap.size + 1 < w1.heap.size := by omega
    have B1 : Below w.heap.size w w1 := bn (by repeat (first | exact br _ | assumption | refine ba ?_ | refine bd ?_ | refine below_drewN ?_ _ | refine bs ?_ (by (try simp) <;> omega))) g1
    have c1_0_0 : w1.cell? ⟨w.heap.size, 0, none⟩ = some (.string s1) := bc g1 (by first | with_reducible assumption | go_simp)
    have f1_0_0 : w1.frozen? ⟨w.heap.size, 0, none⟩ = false := bfz g1 (by (try simp) <;> omega) (by first | with_reducible assumption | go_simp)
    have c1_0_1 : w1.cell? ⟨w.heap.size, 1, none⟩ = some (.string t1) := bc g1 (by first | with_reducible assumption | go_simp)
    have f1_0_1 : w1.frozen? ⟨w.heap.size, 1, none⟩ = false := bfz g1 (by (try simp) <;> omega) (by first | with_reducible assumption | go_simp)
    have c1_1_0 : w1.cell? ⟨w.heap.size + 1, 0, none⟩ = some (.string s2) := bc g1 (by first | with_reducible assumption | go_simp)
    have f1_1_0 : w1.frozen? ⟨w.heap.size + 1, 0, none⟩ = false := bfz g1 (by (try simp) <;> omega) (by first | with_reducible assumption | go_simp)
    have c1_1_1 : w1.cell? ⟨w.heap.size + 1, 1, none⟩ = some (.string t2) := bc g1 (by first | with_reducible assumption | go_simp)
    have f1_1_1 : w1.frozen? ⟨w.heap.size + 1, 1, none⟩ = false := bfz g1 (by (try simp) <;> omega) (by first | with_reducible assumption | go_simp)
    have c1_2_0 : w1.cell? ⟨w.heap.size + 1 + 1, 0, none⟩ = some (.string ⟨#[]⟩) := bc g1 (by first | with_reducible assumption | go_simp)
    have f1_2_0 : w1.frozen? ⟨w.heap.size + 1 + 1, 0, none⟩ = false := bfz g1 (by (try simp) <;> omega) (by first | with_reducible assumption | go_simp)
    have c1_2_1 : w1.cell? ⟨w.heap.size + 1 + 1, 1, none⟩ = some (.string ⟨#[]⟩) := bc g1 (by first | with_reducible assumption | go_simp)
    have f1_2_1 : w1.frozen? ⟨w.heap.size + 1 + 1, 1, none⟩ = false := bfz g1 (by (try simp) <;> omega) (by first | with_reducible assumption | go_simp)
    clear g1
    go_wp2_with fail
    refine (H2.out _).mono ?_
    rintro e w2 ⟨rfl, g2⟩
    have hz2 : w.heap.size + 2 < w2.heap.size := by have := g2.size; (try simp at this); omega
    have hz2_0 : w.heap.size < w2.heap.size := by omega
    have hz2_1 : w.heap.size + 1 < w2.heap.size := by omega
    have B2 : Below w.heap.size w w2 := bn (by repeat (first | exact br _ | assumption | refine ba ?_ | refine bd ?_ | refine below_drewN ?_ _ | refine bs ?_ (by (try simp) <;> omega))) g2
    have c2_0_0 : w2.cell? ⟨w.heap.size, 0, none⟩ = some (.string s1) := bc g2 (by first | with_reducible assumption | go_simp)
    have f2_0_0 : w2.frozen? ⟨w.heap.size, 0, none⟩ = false := bfz g2 (by (try simp) <;> omega) (by first | with_reducible assumption | go_simp)
    have c2_0_1 : w2.cell? ⟨w.heap.size, 1, none⟩ = some (.string t1) := bc g2 (by first | with_reducible assumption | go_simp)
    have f2_0_1 : w2.frozen? ⟨w.heap.size, 1, none⟩ = false := bfz g2 (by (try simp) <;> omega) (by first | with_reducible assumption | go_simp)
    have c2_1_0 : w2.cell? ⟨w.heap.size + 1, 0, none⟩ = some (.string s2) := bc g2 (by first | with_reducible assumption | go_simp)
    have f2_1_0 : w2.frozen? ⟨w.heap.size + 1, 0, none⟩ = false := bfz g2 (by (try simp) <;> omega) (by first | with_reducible assumption | go_simp)
    have c2_1_1 : w2.cell? ⟨w.heap.size + 1, 1, none⟩ = some (.string t2) := bc g2 (by first | with_reducible assumption | go_simp)
    have f2_1_1 : w2.frozen? ⟨w.heap.size + 1, 1, none⟩ = false := bfz g2 (by (try simp) <;> omega) (by first | with_reducible assumption | go_simp)
    have c2_2_0 : w2.cell? ⟨w.heap.size + 1 + 1, 0, none⟩ = some (.string ⟨#[]⟩) := bc g2 (by first | with_reducible assumption | go_simp)
    have f2_2_0 : w2.frozen? ⟨w.heap.size + 1 + 1, 0, none⟩ = false := bfz g2 (by (try simp) <;> omega) (by first | with_reducible assumption | go_simp)
    have c2_2_1 : w2.cell? ⟨w.heap.size + 1 + 1, 1, none⟩ = some (.string ⟨#[]⟩) := bc g2 (by first | with_reducible assumption | go_simp)
    have f2_2_1 : w2.frozen? ⟨w.heap.size + 1 + 1, 1, none⟩ = false := bfz g2 (by (try simp) <;> omega) (by first | with_reducible assumption | go_simp)
    clear g2
    go_wp2_with fail
    refine (HA.out _ (hB.below (by repeat (first | exact br _ | assumption | refine ba ?_ | refine bd ?_ | refine below_drewN ?_ _ | refine bs ?_ (by (try simp) <;> omega))))).mono ?_
    rintro e w3 ⟨rfl, g3⟩
    have hz3 : w.heap.size + 2 < w3.heap.size := by have := g3.size; (try simp at this); omega
    have hz3_0 : w.heap.size < w3.heap.size := by omega
    have hz3_1 : w.heap.size + 1 < w3.heap.size := by omega
    have B3 : Below w.heap.size w w3 := bn (by repeat (first | exact br _ | assumption | refine ba ?_ | refine bd ?_ | refine below_drewN ?_ _ | refine bs ?_ (by (try simp) <;> omega))) g3
    have c3_0_0 : w3.cell? ⟨w.heap.size, 0, none⟩ = some (.string s1) := bc g3 (by first | with_reducible assumption | go_simp)
    have f3_0_0 : w3.frozen? ⟨w.heap.size, 0, none⟩ = false := bfz g3 (by (try simp) <;> omega) (by first | with_reducible assumption | go_simp)
    have c3_0_1 : w3.cell? ⟨w.heap.size, 1, none⟩ = some (.string t1) := bc g3 (by first | with_reducible assumption | go_simp)
    have f3_0_1 : w3.frozen? ⟨w.heap.size, 1, none⟩ = false := bfz g3 (by (try simp) <;> omega) (by first | with_reducible assumption | go_simp)
    have c3_1_0 : w3.cell? ⟨w.heap.size + 1, 0, none⟩ = some (.string s2) := bc g3 (by first | with_reducible assumption | go_simp)
    have f3_1_0 : w3.frozen? ⟨w.heap.size + 1, 0, none⟩ = false := bfz g3 (by (try simp) <;> omega) (by first | with_reducible assumption | go_simp)
    have c3_1_1 : w3.cell? ⟨w.heap.size + 1, 1, none⟩ = some (.string t2) := bc g3 (by first | with_reducible assumption | go_simp)
    have f3_1_1 : w3.frozen? ⟨w.heap.size + 1, 1, none⟩ = false := bfz g3 (by (try simp) <;> omega) (by first | with_reducible assumption | go_simp)
    have c3_2_0 : w3.cell? ⟨w.heap.size + 1 + 1, 0, none⟩ = some (.string ⟨#[]⟩) := bc g3 (by first | with_reducible assumption | go_simp)
    have f3_2_0 : w3.frozen? ⟨w.heap.size + 1 + 1, 0, none⟩ = false := bfz g3 (by (try simp) <;> omega) (by first | with_reducible assumption | go_simp)
    have c3_2_1 : w3.cell? ⟨w.heap.size + 1 + 1, 1, none⟩ = some (.string ⟨#[]⟩) := bc g3 (by first | with_reducible assumption | go_simp)
    have f3_2_1 : w3.frozen? ⟨w.heap.size + 1 + 1, 1, none⟩ = false := bfz g3 (by (try simp) <;> omega) (by first | with_reducible assumption | go_simp)
    clear g3
    go_wp2_with fail
    refine (HC.out _ (hB.below (by repeat (first | exact br _ | assumption | refine ba ?_ | refine bd ?_ | refine below_drewN ?_ _ | refine bs ?_ (by (try simp) <;> omega))))).mono ?_
    rintro e w4 ⟨rfl, g4⟩
    have hz4 : w.heap.size + 2 < w4.heap.size := by have := g4.size; (try simp at this); omega
    have hz4_0 : w.heap.size < w4.heap.size := by omega
    have hz4_1 : w.heap.size + 1 < w4.heap.size := by omega
    have B4 : Below w.heap.size w w4 := bn (by repeat (first | exact br _ | assumption | refine ba ?_ | refine bd ?_ | refine below_drewN ?_ _ | refine bs ?_ (by (try simp) <;> omega))) g4
    have c4_0_0 : w4.cell? ⟨w.heap.size, 0, none⟩ = some (.string s1) := bc g4 (by first | with_reducible assumption | go_simp)
    have f4_0_0 : w4.frozen? ⟨w.heap.size, 0, none⟩ = false := bfz g4 (by (try simp) <;> omega) (by first | with_reducible assumption | go_simp)
    have c4_0_1 : w4.cell? ⟨w.heap.size, 1, none⟩ = some (.string t1) := bc g4 (by first | with_reducible assumption | go_simp)
    have f4_0_1 : w4.frozen? ⟨w.heap.size, 1, none⟩ = false := bfz g4 (by (try simp) <;> omega) (by first | with_reducible assumption | go_simp)
    have c4_1_0 : w4.cell? ⟨w.heap.size + 1, 0, none⟩ = some (.string s2) := bc g4 (by first | with_reducible assumption | go_simp)
    have f4_1_0 : w4.frozen? ⟨w.heap.size + 1, 0, none⟩ = false := bfz g4 (by (try simp) <;> omega) (by first | with_reducible assumption | go_simp)
    have c4_1_1 : w4.cell? ⟨w.heap.size + 1, 1, none⟩ = some (.string t2) := bc g4 (by first | with_reducible assumption | go_simp)
    have f4_1_1 : w4.frozen? ⟨w.heap.size + 1, 1, none⟩ = false := bfz g4 (by (try simp) <;> omega) (by first | with_reducible assumption | go_simp)
    have c4_2_0 : w4.cell? ⟨w.heap.size + 1 + 1, 0, none⟩ = some (.string ⟨#[]⟩) := bc g4 (by first | with_reducible assumption | go_simp)
    have f4_2_0 : w4.frozen? ⟨w.heap.size + 1 + 1, 0, none⟩ = false := bfz g4 (by (try simp) <;> omega) (by first | with_reducible assumption | go_simp)
    have c4_2_1 : w4.cell? ⟨w.heap.size + 1 + 1, 1, none⟩ = some (.string ⟨#[]⟩) := bc g4 (by first | with_reducible assumption | go_simp)
    have f4_2_1 : w4.frozen? ⟨w.heap.size + 1 + 1, 1, none⟩ = false := bfz g4 (by (try simp) <;> omega) (by first | with_reducible assumption | go_simp)
    clear g4
    go_wp2_with fail
    refine (HD.out _ (hB.below (by repeat (first | exact br _ | assumption | refine ba ?_ | refine bd ?_ | refine below_drewN ?_ _ | refine bs ?_ (by (try simp) <;> omega))))).mono ?_
    rintro e w5 ⟨rfl, g5⟩
    have hz5 : w.heap.size + 2 < w5.heap.size := by have := g5.size; (try simp at this); omega
    have hz5_0 : w.heap.size < w5.heap.size := by omega
    have hz5_1 : w.heap.size + 1 < w5.heap.size := by omega
    have B5 : Below w.heap.size w w5 := bn (by repeat (first | exact br _ | assumption | refine ba ?_ | refine bd ?_ | refine below_drewN ?_ _ | refine bs ?_ (by (try simp) <;> omega))) g5
    have c5_0_0 : w5.cell? ⟨w.heap.size, 0, none⟩ = some (.string s1) := bc g5 (by first | with_reducible assumption | go_simp)
    have f5_0_0 : w5.frozen? ⟨w.heap.size, 0, none⟩ = false := bfz g5 (by (try simp) <;> omega) (by first | with_reducible assumption | go_simp)
    have c5_0_1 : w5.cell? ⟨w.heap.size, 1, none⟩ = some (.string t1) := bc g5 (by first | with_reducible assumption | go_simp)
    have f5_0_1 : w5.frozen? ⟨w.heap.size, 1, none⟩ = false := bfz g5 (by (try simp) <;> omega) (by first | with_reducible assumption | go_simp)
    have c5_1_0 : w5.cell? ⟨w.heap.size + 1, 0, none⟩ = some (.string s2) := bc g5 (by first | with_reducible assumption | go_simp)
    have f5_1_0 : w5.frozen? ⟨w.heap.size + 1, 0, none⟩ = false := bfz g5 (by (try simp) <;> omega) (by first | with_reducible assumption | go_simp)
    have c5_1_1 : w5.cell? ⟨w.heap.size + 1, 1, none⟩ = some (.string t2) := bc g5 (by first | with_reducible assumption | go_simp)
    have f5_1_1 : w5.frozen? ⟨w.heap.size + 1, 1, none⟩ = false := bfz g5 (by (try simp) <;> omega) (by first | with_reducible assumption | go_simp)
    have c5_2_0 : w5.cell? ⟨w.heap.size + 1 + 1, 0, none⟩ = some (.string ⟨#[]⟩) := bc g5 (by first | with_reducible assumption | go_simp)
    have f5_2_0 : w5.frozen? ⟨w.heap.size + 1 + 1, 0, none⟩ = false := bfz g5 (by (try simp) <;> omega) (by first | with_reducible assumption | go_simp)
    have c5_2_1 : w5.cell? ⟨w.heap.size + 1 + 1, 1, none⟩ = some (.string ⟨#[]⟩) := bc g5 (by first | with_reducible assumption | go_simp)
    have f5_2_1 : w5.frozen? ⟨w.heap.size + 1 + 1, 1, none⟩ = false := bfz g5 (by (try simp) <;> omega) (by first | with_reducible assumption | go_simp)
    clear g5
    go_wp2_with fail
    refine (HM.out _ (hB.below (by repeat (first | exact br _ | assumption | refine ba ?_ | refine bd ?_ | refine below_drewN ?_ _ | refine bs ?_ (by (try simp) <;> omega))))).mono ?_
    rintro e w6 ⟨rfl, g6⟩
    have hz6 : w.heap.size + 2 < w6.heap.size := by have := g6.size; (try simp at this); omega
    have hz6_0 : w.heap.size < w6.heap.size := by omega
    have hz6_1 : w.heap.size + 1 < w6.heap.size := by omega
    have B6 : Below w.heap.size w w6 := bn (by repeat (first | exact br _ | assumption | refine ba ?_ | refine bd ?_ | refine below_drewN ?_ _ | refine bs ?_ (by (try simp) <;> omega))) g6
    have c6_0_0 : w6.cell? ⟨w.heap.size, 0, none⟩ = some (.string s1) := bc g6 (by first | with_reducible assumption | go_simp)
    have f6_0_0 : w6.frozen? ⟨w.heap.size, 0, none⟩ = false := bfz g6 (by (try simp) <;> omega) (by first | with_reducible assumption | go_simp)
    have c6_0_1 : w6.cell? ⟨w.heap.size, 1, none⟩ = some (.string t1) := bc g6 (by first | with_reducible assumption | go_simp)
    have f6_0_1 : w6.frozen? ⟨w.heap.size, 1, none⟩ = false := bfz g6 (by (try simp) <;> omega) (by first | with_reducible assumption | go_simp)
    have c6_1_0 : w6.cell? ⟨w.heap.size + 1, 0, none⟩ = some (.string s2) := bc g6 (by first | with_reducible assumption | go_simp)
    have f6_1_0 : w6.frozen? ⟨w.heap.size + 1, 0, none⟩ = false := bfz g6 (by (try simp) <;> omega) (by first | with_reducible assumption | go_simp)
    have c6_1_1 : w6.cell? ⟨w.heap.size + 1, 1, none⟩ = some (.string t2) := bc g6 (by first | with_reducible assumption | go_simp)
    have f6_1_1 : w6.frozen? ⟨w.heap.size + 1, 1, none⟩ = false := bfz g6 (by (try simp) <;> omega) (by first | with_reducible assumption | go_simp)
    have c6_2_0 : w6.cell? ⟨w.heap.size + 1 + 1, 0, none⟩ = some (.string ⟨#[]⟩) := bc g6 (by first | with_reducible assumption | go_simp)
    have f6_2_0 : w6.frozen? ⟨w.heap.size + 1 + 1, 0, none⟩ = false := bfz g6 (by (try simp) <;> omega) (by first | with_reducible assumption | go_simp)
    have c6_2_1 : w6.cell? ⟨w.heap.size + 1 + 1, 1, none⟩ = some (.string ⟨#[]⟩) := bc g6 (by first | with_reducible assumption | go_simp)
    have f6_2_1 : w6.frozen? ⟨w.heap.size + 1 + 1, 1, none⟩ = false := bfz g6 (by (try simp) <;> omega) (by first | with_reducible assumption | go_simp)
    clear g6
    go_wp2_with fail
    refine (HL.out _ (hB.below (by repeat (first | exact br _ | assumption | refine ba ?_ | refine bd ?_ | refine below_drewN ?_ _ | refine bs ?_ (by (try simp) <;> omega))))).mono ?_
    rintro e w7 ⟨rfl, g7⟩
    have hz7 : w.heap.size + 2 < w7.heap.size := by have := g7.size; (try simp at this); omega
    have hz7_0 : w.heap.size < w7.heap.size := by omega
    have hz7_1 : w.heap.size + 1 < w7.heap.size := by omega
    have B7 : Below w.heap.size w w7 := bn (by repeat (first | exact br _ | assumption | refine ba ?_ | refine bd ?_ | refine below_drewN ?_ _ | refine bs ?_ (by (try simp) <;> omega))) g7
    have c7_0_0 : w7.cell? ⟨w.heap.size, 0, none⟩ = some (.string s1) := bc g7 (by first | with_reducible assumption | go_simp)
    have f7_0_0 : w7.frozen? ⟨w.heap.size, 0, none⟩ = false := bfz g7 (by (try simp) <;> omega) (by first | with_reducible assumption | go_simp)
    have c7_0_1 : w7.cell? ⟨w.heap.size, 1, none⟩ = some (.string t1) := bc g7 (by first | with_reducible assumption | go_simp)
    have f7_0_1 : w7.frozen? ⟨w.heap.size, 1, none⟩ = false := bfz g7 (by (try simp) <;> omega) (by first | with_reducible assumption | go_simp)
    have c7_1_0 : w7.cell? ⟨w.heap.size + 1, 0, none⟩ = some (.string s2) := bc g7 (by first | with_reducible assumption | go_simp)
    have f7_1_0 : w7.frozen? ⟨w.heap.size + 1, 0, none⟩ = false := bfz g7 (by (try simp) <;> omega) (by first | with_reducible assumption | go_simp)
    have c7_1_1 : w7.cell? ⟨w.heap.size + 1, 1, none⟩ = some (.string t2) := bc g7 (by first | with_reducible assumption | go_simp)
    have f7_1_1 : w7.frozen? ⟨w.heap.size + 1, 1, none⟩ = false := bfz g7 (by (try simp) <;> omega) (by first | with_reducible assumption | go_simp)
    have c7_2_0 : w7.cell? ⟨w.heap.size + 1 + 1, 0, none⟩ = some (.string ⟨#[]⟩) := bc g7 (by first | with_reducible assumption | go_simp)
    have f7_2_0 : w7.frozen? ⟨w.heap.size + 1 + 1, 0, none⟩ = false := bfz g7 (by (try simp) <;> omega) (by first | with_reducible assumption | go_simp)
    have c7_2_1 : w7.cell? ⟨w.heap.size + 1 + 1, 1, none⟩ = some (.string ⟨#[]⟩) := bc g7 (by first | with_reducible assumption | go_simp)
    have f7_2_1 : w7.frozen? ⟨w.heap.size + 1 + 1, 1, none⟩ = false := bfz g7 (by (try simp) <;> omega) (by first | with_reducible assumption | go_simp)
    clear g7
    go_wp2
    refine bodyPost_ret (v := .agg #[.string s3, .string t3]) (by simp [results, Tryz.results181, go_sem, *]) rfl ⟨(by first | rfl | rw [hI]), (by repeat (first | exact br _ | assumption | refine ba ?_ | refine bd ?_ | refine below_drewN ?_ _ | refine bs ?_ (by (try simp) <;> omega)))⟩

set_option maxHeartbeats 1000000 in
theorem rtimes_long (x y : Rat) (hxy : (shortB x && shortB y) = false) (hx : rz x ≤ 20000000) (hy : rz y ≤ 20000000) (w : World) (hB : Bw w) :
    Calls Tryz.prog 182 #[FV x, FV y] w fun e w' => e = .returned (FV (x * y)) ∧ Below w.heap.size w w' := by
  obtain ⟨a1, a2, h1⟩ := little_any x
  obtain ⟨a3, a4, h2⟩ := little_any y
  have H1 := Lib.hid h1
  have H2 := Lib.hid h2
  clear h1 h2
  have n1 := rz_num x
  have n2 := rz_num y
  have n3 := rz_den x
  have n4 := rz_den y
  have HA := Lib.hid (fun w hB => iMul_walk x.num y.num (by omega) (by omega) w hB)
  have m1 := dg_mul x.num.natAbs y.num.natAbs
  have m3 := dg_mul x.den y.den
  have k1 : dg (x.num * y.num).natAbs ≤ 40000000 := by rw [Int.natAbs_mul]; omega
  have HM := Lib.hid (fun w hB => natMul_walk x.den y.den (by have := dg_def x.den; omega) (by have := dg_def y.den; omega) (by have := wds_le_dg (x.den * y.den); omega) w hB)
  have HL := Lib.hid (fun w hB => lowest_walk (x.num * y.num) (x.den * y.den) (Nat.mul_ne_zero x.den_nz y.den_nz) (by omega) (by omega) w hB)
  rw [← Rat.mul_def'] at HL
  clear m1 m3 k1
  obtain ⟨s3, t3, e3⟩ := FV_shape (x * y)
  rw [FV_eq x] at H1 ⊢
  rw [FV_eq y] at H2 ⊢
  rw [e3] at HL ⊢
  clear e3 hx hy n1 n2 n3 n4
  generalize itx (x.num * y.num) = u1 at *
  generalize dec (x.den * y.den) = u4 at *
  generalize itx x.num = s1 at *
  generalize itx y.num = s2 at *
  generalize dec x.den = t1 at *
  generalize dec y.den = t2 at *
  generalize shortB x = bx at *
  generalize shortB y = by' at *
  cases bx
  case' true =>
    cases by'
    case true => cases hxy
  all_goals
    clear hxy
    go_enter Tryz.func182, Tryz.ntmps182
    go_wp2_with fail
    refine (H1.out _).mono ?_
    rintro e w1 ⟨rfl, g1⟩
    have hz1 : w.heap.size + 2 < w1.heap.size := by have := g1.size; (try simp at this); omega
    have hz1_0 : w.heap.size < w1.heap.size := by omega
    have hz1_1 : w.heap.size + 1 < w1.heap.size := by omega
    have B1 : Below w.heap.size w w1 := bn (by repeat (first | exact br _ | assumption | refine ba ?_ | refine bd ?_ | refine below_drewN ?_ _ | refine bs ?_ (by (try simp) <;> omega))) g1
    have c1_0_0 : w1.cell? ⟨w.heap.size, 0, none⟩ = some (.string s1) := bc g1 (by first | with_reducible assumption | go_simp)
    have f1_0_0 : w1.frozen? ⟨w.heap.size, 0, none⟩ = false := bfz g1 (by (try simp) <;> omega) (by first | with_reducible assumption | go_simp)
    have c1_0_1 : w1.cell? ⟨w.heap.size, 1, none⟩ = some (.string t1) := bc g1 (by first | with_reducible assumption | go_simp)
    have f1_0_1 : w1.frozen? ⟨w.heap.size, 1, none⟩ = false := bfz g1 (by (try simp) <;> omega) (by first | with_reducible assumption | go_simp)
    have c1_1_0 : w1.cell? ⟨w.heap.size + 1, 0, none⟩ = some (.string s2) := bc g1 (by first | with_reducible assumption | go_simp)
    have f1_1_0 : w1.frozen? ⟨w.heap.size + 1, 0, none⟩ = false := bfz g1 (by (try simp) <;> omega) (by first | with_reducible assumption | go_simp)
    have c1_1_1 : w1.cell? ⟨w.heap.size + 1, 1, none⟩ = some (.string t2) := bc g1 (by first | with_reducible assumption | go_simp)
    have f1_1_1 : w1.frozen? ⟨w.heap.size + 1, 1, none⟩ = false := bfz g1 (by (try simp) <;> omega) (by first | with_reducible assumption | go_simp)
    have c1_2_0 : w1.cell? ⟨w.heap.size + 1 + 1, 0, none⟩ = some (.string ⟨#[]⟩) := bc g1 (by first | with_reducible assumption | go_simp)
    have f1_2_0 : w1.frozen? ⟨w.heap.size + 1 + 1, 0, none⟩ = false := bfz g1 (by (try simp) <;> omega) (by first | with_reducible assumption | go_simp)
    have c1_2_1 : w1.cell? ⟨w.heap.size + 1 + 1, 1, none⟩ = some (.string ⟨#[]⟩) := bc g1 (by first | with_reducible assumption | go_simp)
    have f1_2_1 : w1.frozen? ⟨w.heap.size + 1 + 1, 1, none⟩ = false := bfz g1 (by (try simp) <;> omega) (by first | with_reducible assumption | go_simp)
    clear g1
    go_wp2_with fail
    refine (H2.out _).mono ?_
    rintro e w2 ⟨rfl, g2⟩
    have hz2 : w.heap.size + 2 < w2.heap.size := by have := g2.size; (try simp at this); omega
    have hz2_0 : w.heap.size < w2.heap.size := by omega
    have hz2_1 : w.heap.size + 1 < w2.heap.size := by omega
    have B2 : Below w.heap.size w w2 := bn (by repeat (first | exact br _ | assumption | refine ba ?_ | refine bd ?_ | refine below_drewN ?_ _ | refine bs ?_ (by (try simp) <;> omega))) g2
    have c2_0_0 : w2.cell? ⟨w.heap.size, 0, none⟩ = some (.string s1) := bc g2 (by first | with_reducible assumption | go_simp)
    have f2_0_0 : w2.frozen? ⟨w.heap.size, 0, none⟩ = false := bfz g2 (by (try simp) <;> omega) (by first | with_reducible assumption | go_simp)
    have c2_0_1 : w2.cell? ⟨w.heap.size, 1, none⟩ = some (.string t1) := bc g2 (by first | with_reducible assumption | go_simp)
    have f2_0_1 : w2.frozen? ⟨w.heap.size, 1, none⟩ = false := bfz g2 (by (try simp) <;> omega) (by first | with_reducible assumption | go_simp)
    have c2_1_0 : w2.cell? ⟨w.heap.size + 1, 0, none⟩ = some (.string s2) := bc g2 (by first | with_reducible assumption | go_simp)
    have f2_1_0 : w2.frozen? ⟨w.heap.size + 1, 0, none⟩ = false := bfz g2 (by (try simp) <;> omega) (by first | with_reducible assumption | go_simp)
    have c2_1_1 : w2.cell? ⟨w.heap.size + 1, 1, none⟩ = some (.string t2) := bc g2 (by first | with_reducible assumption | go_simp)
    have f2_1_1 : w2.frozen? ⟨w.heap.size + 1, 1, none⟩ = false := bfz g2 (by (try simp) <;> omega) (by first | with_reducible assumption | go_simp)
    have c2_2_0 : w2.cell? ⟨w.heap.size + 1 + 1, 0, none⟩ = some (.string ⟨#[]⟩) := bc g2 (by first | with_reducible assumption | go_simp)
    have f2_2_0 : w2.frozen? ⟨w.heap.size + 1 + 1, 0, none⟩ = false := bfz g2 (by (try simp) <;> omega) (by first | with_reducible assumption | go_simp)
    have c2_2_1 : w2.cell? ⟨w.heap.size + 1 + 1, 1, none⟩ = some (.string ⟨#[]⟩) := bc g2 (by first | with_reducible assumption | go_simp)
    have f2_2_1 : w2.frozen? ⟨w.heap.size + 1 + 1, 1, none⟩ = false := bfz g2 (by (try simp) <;> omega) (by first | with_reducible assumption | go_simp)
    clear g2
    go_wp2_with fail
    refine (HA.out _ (hB.below (by repeat (first | exact br _ | assumption | refine ba ?_ | refine bd ?_ | refine below_drewN ?_ _ | refine bs ?_ (by (try simp) <;> omega))))).mono ?_
    rintro e w3 ⟨rfl, g3⟩
    have hz3 : w.heap.size + 2 < w3.heap.size := by have := g3.size; (try simp at this); omega
    have hz3_0 : w.heap.size < w3.heap.size := by omega
    have hz3_1 : w.heap.size + 1 < w3.heap.size := by omega
    have B3 : Below w.heap.size w w3 := bn (by repeat (first | exact br _ | assumption | refine ba ?_ | refine bd ?_ | refine below_drewN ?_ _ | refine bs ?_ (by (try simp) <;> omega))) g3
    have c3_0_0 : w3.cell? ⟨w.heap.size, 0, none⟩ = some (.string s1) := bc g3 (by first | with_reducible assumption | go_simp)
    have f3_0_0 : w3.frozen? ⟨w.heap.size, 0, none⟩ = false := bfz g3 (by (try simp) <;> omega) (by first | with_reducible assumption | go_simp)
    have c3_0_1 : w3.cell? ⟨w.heap.size, 1, none⟩ = some (.string t1) := bc g3 (by first | with_reducible assumption | go_simp)
    have f3_0_1 : w3.frozen? ⟨w.heap.size, 1, none⟩ = false := bfz g3 (by (try simp) <;> omega) (by first | with_reducible assumption | go_simp)
    have c3_1_0 : w3.cell? ⟨w.heap.size + 1, 0, none⟩ = some (.string s2) := bc g3 (by first | with_reducible assumption | go_simp)
    have f3_1_0 : w3.frozen? ⟨w.heap.size + 1, 0, none⟩ = false := bfz g3 (by (try simp) <;> omega) (by first | with_reducible assumption | go_simp)
    have c3_1_1 : w3.cell? ⟨w.heap.size + 1, 1, none⟩ = some (.string t2) := bc g3 (by first | with_reducible assumption | go_simp)
    have f3_1_1 : w3.frozen? ⟨w.heap.size + 1, 1, none⟩ = false := bfz g3 (by (try simp) <;> omega) (by first | with_reducible assumption | go_simp)
    have c3_2_0 : w3.cell? ⟨w.heap.size + 1 + 1, 0, none⟩ = some (.string ⟨#[]⟩) := bc g3 (by first | with_reducible assumption | go_simp)
    have f3_2_0 : w3.frozen? ⟨w.heap.size + 1 + 1, 0, none⟩ = false := bfz g3 (by (try simp) <;> omega) (by first | with_reducible assumption | go_simp)
    have c3_2_1 : w3.cell? ⟨w.heap.size + 1 + 1, 1, none⟩ = some (.string ⟨#[]⟩) := bc g3 (by first | with_reducible assumption | go_simp)
    have f3_2_1 : w3.frozen? ⟨w.heap.size + 1 + 1, 1, none⟩ = false := bfz g3 (by (try simp) <;> omega) (by first | with_reducible assumption | go_simp)
    clear g3
    go_wp2_with fail
    refine (HM.out _ (hB.below (by repeat (first | exact br _ | assumption | refine ba ?_ | refine bd ?_ | refine below_drewN ?_ _ | refine bs ?_ (by (try simp) <;> omega))))).mono ?_
    rintro e w4 ⟨rfl, g4⟩
    have hz4 : w.heap.size + 2 < w4.heap.size := by have := g4.size; (try simp at this); omega
    have hz4_0 : w.heap.size < w4.heap.size := by omega
    have hz4_1 : w.heap.size + 1 < w4.heap.size := by omega
    have B4 : Below w.heap.size w w4 := bn (by repeat (first | exact br _ | assumption | refine ba ?_ | refine bd ?_ | refine below_drewN ?_ _ | refine bs ?_ (by (try simp) <;> omega))) g4
    have c4_0_0 : w4.cell? ⟨w.heap.size, 0, none⟩ = some (.string s1) := bc g4 (by first | with_reducible assumption | go_simp)
    have f4_0_0 : w4.frozen? ⟨w.heap.size, 0, none⟩ = false := bfz g4 (by (try simp) <;> omega) (by first | with_reducible assumption | go_simp)
    have c4_0_1 : w4.cell? ⟨w.heap.size, 1, none⟩ = some (.string t1) := bc g4 (by first | with_reducible assumption | go_simp)
    have f4_0_1 : w4.frozen? ⟨w.heap.size, 1, none⟩ = false := bfz g4 (by (try simp) <;> omega) (by first | with_reducible assumption | go_simp)
    have c4_1_0 : w4.cell? ⟨w.heap.size + 1, 0, none⟩ = some (.string s2) := bc g4 (by first | with_reducible assumption | go_simp)
    have f4_1_0 : w4.frozen? ⟨w.heap.size + 1, 0, none⟩ = false := bfz g4 (by (try simp) <;> omega) (by first | with_reducible assumption | go_simp)
    have c4_1_1 : w4.cell? ⟨w.heap.size + 1, 1, none⟩ = some (.string t2) := bc g4 (by first | with_reducible assumption | go_simp)
    have f4_1_1 : w4.frozen? ⟨w.heap.size + 1, 1, none⟩ = false := bfz g4 (by (try simp) <;> omega) (by first | with_reducible assumption | go_simp)
    have c4_2_0 : w4.cell? ⟨w.heap.size + 1 + 1, 0, none⟩ = some (.string ⟨#[]⟩) := bc g4 (by first | with_reducible assumption | go_simp)
    have f4_2_0 : w4.frozen? ⟨w.heap.size + 1 + 1, 0, none⟩ = false := bfz g4 (by (try simp) <;> omega) (by first | with_reducible assumption | go_simp)
    have c4_2_1 : w4.cell? ⟨w.heap.size + 1 + 1, 1, none⟩ = some (.string ⟨#[]⟩) := bc g4 (by first | with_reducible assumption | go_simp)
    have f4_2_1 : w4.frozen? ⟨w.heap.size + 1 + 1, 1, none⟩ = false := bfz g4 (by (try simp) <;> omega) (by first | with_reducible assumption | go_simp)
    clear g4
    go_wp2_with fail
    refine (HL.out _ (hB.below (by repeat (first | exact br _ | assumption | refine ba ?_ | refine bd ?_ | refine below_drewN ?_ _ | refine bs ?_ (by (try simp) <;> omega))))).mono ?_
    rintro e w5 ⟨rfl, g5⟩
    have hz5 : w.heap.size + 2 < w5.heap.size := by have := g5.size; (try simp at this); omega
    have hz5_0 : w.heap.size < w5.heap.size := by omega
    have hz5_1 : w.heap.size + 1 < w5.heap.size := by omega
    have B5 : Below w.heap.size w w5 := bn (by repeat (first | exact br _ | assumption | refine ba ?_ | refine bd ?_ | refine below_drewN ?_ _ | refine bs ?_ (by (try simp) <;> omega))) g5
    have c5_0_0 : w5.cell? ⟨w.heap.size, 0, none⟩ = some (.string s1) := bc g5 (by first | with_reducible assumption | go_simp)
    have f5_0_0 : w5.frozen? ⟨w.heap.size, 0, none⟩ = false := bfz g5 (by (try simp) <;> omega) (by first | with_reducible assumption | go_simp)
    have c5_0_1 : w5.cell? ⟨w.heap.size, 1, none⟩ = some (.string t1) := bc g5 (by first | with_reducible assumption | go_simp)
    have f5_0_1 : w5.frozen? ⟨w.heap.size, 1, none⟩ = false := bfz g5 (by (try simp) <;> omega) (by first | with_reducible assumption | go_simp)
    have c5_1_0 : w5.cell? ⟨w.heap.size + 1, 0, none⟩ = some (.string s2) := bc g5 (by first | with_reducible assumption | go_simp)
    have f5_1_0 : w5.frozen? ⟨w.heap.size + 1, 0, none⟩ = false := bfz g5 (by (try simp) <;> omega) (by first | with_reducible assumption | go_simp)
    have c5_1_1 : w5.cell? ⟨w.heap.size + 1, 1, none⟩ = some (.string t2) := bc g5 (by first | with_reducible assumption | go_simp)
    have f5_1_1 : w5.frozen? ⟨w.heap.size + 1, 1, none⟩ = false := bfz g5 (by (try simp) <;> omega) (by first | with_reducible assumption | go_simp)
    have c5_2_0 : w5.cell? ⟨w.heap.size + 1 + 1, 0, none⟩ = some (.string ⟨#[]⟩) := bc g5 (by first | with_reducible assumption | go_simp)
    have f5_2_0 : w5.frozen? ⟨w.heap.size + 1 + 1, 0, none⟩ = false := bfz g5 (by (try simp) <;> omega) (by first | with_reducible assumption | go_simp)
    have c5_2_1 : w5.cell? ⟨w.heap.size + 1 + 1, 1, none⟩ = some (.string ⟨#[]⟩) := bc g5 (by first | with_reducible assumption | go_simp)
    have f5_2_1 : w5.frozen? ⟨w.heap.size + 1 + 1, 1, none⟩ = false := bfz g5 (by (try simp) <;> omega) (by first | with_reducible assumption | go_simp)
    clear g5
    go_wp2
    refine bodyPost_ret (v := .agg #[.string s3, .string t3]) (by simp [results, Tryz.results182, go_sem, *]) rfl ⟨(by first | rfl | rw [hI]), (by repeat (first | exact br _ | assumption | refine ba ?_ | refine bd ?_ | refine below_drewN ?_ _ | refine bs ?_ (by (try simp) <;> omega)))⟩

theorem rplus_walk (x y : Rat) (hx : rz x ≤ 20000000) (hy : rz y ≤ 20000000) (w : World) (hB : Bw w) :
    Calls Tryz.prog 181 #[FV x, FV y] w fun e w' => e = .returned (FV (x + y)) ∧ Below w.heap.size w w' := by
  cases h : (shortB x && shortB y)
  · exact rplus_long x y h hx hy w hB
  · rw [Bool.and_eq_true] at h
    exact rplus_short x y h.1 h.2 w hB
theorem rtimes_walk (x y : Rat) (hx : rz x ≤ 20000000) (hy : rz y ≤ 20000000) (w : World) (hB : Bw w) :
    Calls Tryz.prog 182 #[FV x, FV y] w fun e w' => e = .returned (FV (x * y)) ∧ Below w.heap.size w w' := by
  cases h : (shortB x && shortB y)
  · exact rtimes_long x y h hx hy w hB
  · rw [Bool.and_eq_true] at h
    exact rtimes_short x y h.1 h.2 w hB
end Go.Proofs.YtbnbaokamccmjaaGreatDoor
