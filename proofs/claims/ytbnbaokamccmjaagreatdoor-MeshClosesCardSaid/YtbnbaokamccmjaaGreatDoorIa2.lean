/- integer: bit, sum, difference, times. -/
import Derived.Test.YtbnbaokamccmjaaGreatDoorIa1
import Derived.Test.YtbnbaokamccmjaaGreatDoorBb1
set_option linter.unusedVariables false
set_option linter.unusedSimpArgs false
namespace Go.Proofs.YtbnbaokamccmjaaGreatDoor
open Go Go.RowKit

set_option maxHeartbeats 400000 in
theorem bit_walk (b : Bool) (w : World) :
    Calls Tryz.prog 161 #[.bool b] w fun e w' => e = .returned (.int .i64 (if b then 1 else 0)) ∧ w' = w := by
  cases b
  all_goals
    go_enter Tryz.func161, Tryz.ntmps161
    go_wp2
    go_ret
    exact ⟨rfl, rfl⟩

theorem IV_eq (z : Int) : IV z = .agg #[.bool (decide (z < 0)), .string (dec z.natAbs)] := rfl
theorem IV_get (b : Bool) (n : Nat) : ∃ c d, IV (sgnI b n) = .agg #[.bool c, .string d] := ⟨_, _, rfl⟩

set_option maxHeartbeats 1000000 in
theorem sum_walk (x y : Int) (hx : dg x.natAbs ≤ 50000000) (hy : dg y.natAbs ≤ 50000000) (w : World) (hB : Bw w) :
    Calls Tryz.prog 159 #[IV x, IV y] w fun e w' => e = .returned (IV (sgnI (decide (x < 0)) (x.natAbs + y.natAbs))) ∧ Below w.heap.size w w' := by
  rw [IV_eq, IV_eq]
  have H1 := Lib.hid (show (dec x.natAbs).size ≤ 100000000 by have := dg_def x.natAbs; omega)
  have H2 := Lib.hid (show (dec y.natAbs).size ≤ 100000000 by have := dg_def y.natAbs; omega)
  have H3 := Lib.hid (show (wds (x.natAbs + y.natAbs)).length ≤ 100000000 by have := wds_le_dg (x.natAbs + y.natAbs); have := dg_add x.natAbs y.natAbs; omega)
  generalize decide (x < 0) = b at *
  generalize decide (y < 0) = c at *
  generalize x.natAbs = n at *
  generalize y.natAbs = m at *
  clear hx hy
  go_enter Tryz.func159, Tryz.ntmps159
  go_wp2_with fail
  refine (natAdd_walk n m H1.out H2.out H3.out _ (hB.below (ba (ba (ba (br w)))))).mono ?_
  rintro e w1 ⟨rfl, g1⟩
  obtain ⟨hc1, hf1⟩ := bcell g1
  have hz1 : w.heap.size + 2 < w1.heap.size := by have := g1.size; (try simp at this); omega
  have hz1_0 : w.heap.size < w1.heap.size := by omega
  have hz1_1 : w.heap.size + 1 < w1.heap.size := by omega
  have B1 : Below w.heap.size w w1 := bn (by repeat (first | exact br _ | assumption | refine ba ?_ | refine bd ?_ | refine below_drewN ?_ _ | refine bs ?_ (by (try simp) <;> omega))) g1
  clear g1
  go_wp2_with fail
  refine (with_walk b (n + m) w1).mono ?_
  rintro e w2 ⟨rfl, g2⟩
  obtain ⟨hc2, hf2⟩ := bcell g2
  have hz2 : w.heap.size + 2 < w2.heap.size := by have := g2.size; (try simp at this); omega
  have hz2_0 : w.heap.size < w2.heap.size := by omega
  have hz2_1 : w.heap.size + 1 < w2.heap.size := by omega
  have B2 : Below w.heap.size w w2 := bn (by repeat (first | exact br _ | assumption | refine ba ?_ | refine bd ?_ | refine below_drewN ?_ _ | refine bs ?_ (by (try simp) <;> omega))) g2
  clear g2
  obtain ⟨c', d', hI⟩ := IV_get b (n + m)
  rw [hI]
  go_wp2
  refine bodyPost_ret (v := .agg #[.bool c', .string d']) (by simp [results, Tryz.results159, go_sem, *]) rfl ⟨(by first | rfl | rw [hI]), (by repeat (first | exact br _ | assumption | refine ba ?_ | refine bd ?_ | refine below_drewN ?_ _ | refine bs ?_ (by (try simp) <;> omega)))⟩

set_option maxHeartbeats 1000000 in
theorem itimes_walk (x y : Int) (hx : dg x.natAbs ≤ 50000000) (hy : dg y.natAbs ≤ 50000000) (w : World) (hB : Bw w) :
    Calls Tryz.prog 127 #[IV x, IV y] w fun e w' => e = .returned (IV (x * y)) ∧ Below w.heap.size w w' := by
  have HX : Hid (sgnI (decide (x < 0) != decide (y < 0)) (x.natAbs * y.natAbs) = x * y) := Lib.hid (by
    unfold sgnI
    rw [Int.natCast_mul]
    by_cases h1 : x < 0 <;> by_cases h2 : y < 0
    · rw [decide_eq_true h1, decide_eq_true h2]
      simp only [bne_self_eq_false, if_false, Bool.false_eq_true]
      rw [show (x.natAbs : Int) = -x by omega, show (y.natAbs : Int) = -y by omega, Int.neg_mul_neg]
    · rw [decide_eq_true h1, decide_eq_false h2]
      rw [show (x.natAbs : Int) = -x by omega, show (y.natAbs : Int) = y by omega]
      simp [Int.neg_mul]
    · rw [decide_eq_false h1, decide_eq_true h2]
      rw [show (x.natAbs : Int) = x by omega, show (y.natAbs : Int) = -y by omega]
      simp [Int.mul_neg]
    · rw [decide_eq_false h1, decide_eq_false h2]
      rw [show (x.natAbs : Int) = x by omega, show (y.natAbs : Int) = y by omega]
      simp)
  rw [← HX.out]
  rw [IV_eq, IV_eq]
  have H1 := Lib.hid (show (dec x.natAbs).size ≤ 100000000 by have := dg_def x.natAbs; omega)
  have H2 := Lib.hid (show (dec y.natAbs).size ≤ 100000000 by have := dg_def y.natAbs; omega)
  have H3 := Lib.hid (show (wds (x.natAbs * y.natAbs)).length ≤ 100000000 by have := wds_le_dg (x.natAbs * y.natAbs); have := dg_mul x.natAbs y.natAbs; omega)
  clear HX
  generalize decide (x < 0) = b at *
  generalize decide (y < 0) = c at *
  generalize x.natAbs = n at *
  generalize y.natAbs = m at *
  clear hx hy
  go_enter Tryz.func127, Tryz.ntmps127
  go_wp2_with fail
  refine (natMul_walk n m H1.out H2.out H3.out _ (hB.below (by repeat (first | exact br _ | assumption | refine ba ?_ | refine bd ?_ | refine below_drewN ?_ _ | refine bs ?_ (by (try simp) <;> omega))))).mono ?_
  rintro e w1 ⟨rfl, g1⟩
  obtain ⟨hc1, hf1⟩ := bcell g1
  have hz1 : w.heap.size + 2 < w1.heap.size := by have := g1.size; (try simp at this); omega
  have hz1_0 : w.heap.size < w1.heap.size := by omega
  have hz1_1 : w.heap.size + 1 < w1.heap.size := by omega
  have B1 : Below w.heap.size w w1 := bn (by repeat (first | exact br _ | assumption | refine ba ?_ | refine bd ?_ | refine below_drewN ?_ _ | refine bs ?_ (by (try simp) <;> omega))) g1
  clear g1
  go_wp2_with fail
  refine (with_walk (b != c) (n * m) w1).mono ?_
  rintro e w2 ⟨rfl, g2⟩
  obtain ⟨hc2, hf2⟩ := bcell g2
  have hz2 : w.heap.size + 2 < w2.heap.size := by have := g2.size; (try simp at this); omega
  have hz2_0 : w.heap.size < w2.heap.size := by omega
  have hz2_1 : w.heap.size + 1 < w2.heap.size := by omega
  have B2 : Below w.heap.size w w2 := bn (by repeat (first | exact br _ | assumption | refine ba ?_ | refine bd ?_ | refine below_drewN ?_ _ | refine bs ?_ (by (try simp) <;> omega))) g2
  clear g2
  obtain ⟨c', d', hI⟩ := IV_get (b != c) (n * m)
  rw [hI]
  go_wp2
  refine bodyPost_ret (v := .agg #[.bool c', .string d']) (by simp [results, Tryz.results127, go_sem, *]) rfl ⟨(by first | rfl | rw [hI]), (by repeat (first | exact br _ | assumption | refine ba ?_ | refine bd ?_ | refine below_drewN ?_ _ | refine bs ?_ (by (try simp) <;> omega)))⟩

theorem cmpN_neg {n m : Nat} (h : n < m) : decide (cmpN n m < 0) = true := by
  refine decide_eq_true ?_
  unfold cmpN
  split <;> (try split) <;> omega
theorem cmpN_nonneg {n m : Nat} (h : m ≤ n) : decide (cmpN n m < 0) = false := by
  refine decide_eq_false ?_
  unfold cmpN
  split <;> (try split) <;> omega
/-- What difference returns. -/
def difI (b c : Bool) (n m : Nat) : Int := if n < m then sgnI c (m - n) else sgnI b (n - m)

set_option maxHeartbeats 1000000 in
theorem difference_less (b c : Bool) (n m : Nat) (hlt : n < m) (hx : dg n ≤ 50000000) (hy : dg m ≤ 50000000) (w : World) (hB : Bw w) :
    Calls Tryz.prog 160 #[.agg #[.bool b, .string (dec n)], .agg #[.bool c, .string (dec m)]] w fun e w' => e = .returned (IV (sgnI c (m - n))) ∧ Below w.heap.size w w' := by
  have H1 := Lib.hid (show (dec n).size ≤ 100000000 by have := dg_def n; omega)
  have H2 := Lib.hid (show (dec m).size ≤ 100000000 by have := dg_def m; omega)
  have H3 := Lib.hid (show (wds (m - n)).length ≤ 100000000 by have := wds_le_dg (m - n); have := dg_mono (Nat.sub_le m n); omega)
  have hcm := cmpN_neg hlt
  have HL := Lib.hid (Nat.le_of_lt hlt)
  clear hx hy hlt
  go_enter Tryz.func160, Tryz.ntmps160
  go_wp2_with fail
  refine (natCompare_walk n m H1.out H2.out _).mono ?_
  rintro e w1 ⟨rfl, g1⟩
  have hz1 : w.heap.size + 2 < w1.heap.size := by have := g1.size; (try simp at this); omega
  have hz1_0 : w.heap.size < w1.heap.size := by omega
  have hz1_1 : w.heap.size + 1 < w1.heap.size := by omega
  have B1 : Below w.heap.size w w1 := bn (by repeat (first | exact br _ | assumption | refine ba ?_ | refine bd ?_ | refine below_drewN ?_ _ | refine bs ?_ (by (try simp) <;> omega))) g1
  have c1_0_0 : w1.cell? ⟨w.heap.size, 0, none⟩ = some (.bool b) := bc g1 (by first | with_reducible assumption | go_simp)
  have f1_0_0 : w1.frozen? ⟨w.heap.size, 0, none⟩ = false := bfz g1 (by (try simp) <;> omega) (by first | with_reducible assumption | go_simp)
  have c1_0_1 : w1.cell? ⟨w.heap.size, 1, none⟩ = some (.string (dec n)) := bc g1 (by first | with_reducible assumption | go_simp)
  have f1_0_1 : w1.frozen? ⟨w.heap.size, 1, none⟩ = false := bfz g1 (by (try simp) <;> omega) (by first | with_reducible assumption | go_simp)
  have c1_1_0 : w1.cell? ⟨w.heap.size + 1, 0, none⟩ = some (.bool c) := bc g1 (by first | with_reducible assumption | go_simp)
  have f1_1_0 : w1.frozen? ⟨w.heap.size + 1, 0, none⟩ = false := bfz g1 (by (try simp) <;> omega) (by first | with_reducible assumption | go_simp)
  have c1_1_1 : w1.cell? ⟨w.heap.size + 1, 1, none⟩ = some (.string (dec m)) := bc g1 (by first | with_reducible assumption | go_simp)
  have f1_1_1 : w1.frozen? ⟨w.heap.size + 1, 1, none⟩ = false := bfz g1 (by (try simp) <;> omega) (by first | with_reducible assumption | go_simp)
  have c1_2_0 : w1.cell? ⟨w.heap.size + 1 + 1, 0, none⟩ = some (.bool false) := bc g1 (by first | with_reducible assumption | go_simp)
  have f1_2_0 : w1.frozen? ⟨w.heap.size + 1 + 1, 0, none⟩ = false := bfz g1 (by (try simp) <;> omega) (by first | with_reducible assumption | go_simp)
  have c1_2_1 : w1.cell? ⟨w.heap.size + 1 + 1, 1, none⟩ = some (.string ⟨#[]⟩) := bc g1 (by first | with_reducible assumption | go_simp)
  have f1_2_1 : w1.frozen? ⟨w.heap.size + 1 + 1, 1, none⟩ = false := bfz g1 (by (try simp) <;> omega) (by first | with_reducible assumption | go_simp)
  clear g1
  go_wp2_with fail
  refine (natSub_walk m n HL.out H2.out H1.out H3.out _ (hB.below (by repeat (first | exact br _ | assumption | refine ba ?_ | refine bd ?_ | refine below_drewN ?_ _ | refine bs ?_ (by (try simp) <;> omega))))).mono ?_
  rintro e w2 ⟨rfl, g2⟩
  have hz2 : w.heap.size + 2 < w2.heap.size := by have := g2.size; (try simp at this); omega
  have hz2_0 : w.heap.size < w2.heap.size := by omega
  have hz2_1 : w.heap.size + 1 < w2.heap.size := by omega
  have B2 : Below w.heap.size w w2 := bn (by repeat (first | exact br _ | assumption | refine ba ?_ | refine bd ?_ | refine below_drewN ?_ _ | refine bs ?_ (by (try simp) <;> omega))) g2
  have c2_0_0 : w2.cell? ⟨w.heap.size, 0, none⟩ = some (.bool c) := bc g2 (by first | with_reducible assumption | go_simp)
  have f2_0_0 : w2.frozen? ⟨w.heap.size, 0, none⟩ = false := bfz g2 (by (try simp) <;> omega) (by first | with_reducible assumption | go_simp)
  have c2_0_1 : w2.cell? ⟨w.heap.size, 1, none⟩ = some (.string (dec m)) := bc g2 (by first | with_reducible assumption | go_simp)
  have f2_0_1 : w2.frozen? ⟨w.heap.size, 1, none⟩ = false := bfz g2 (by (try simp) <;> omega) (by first | with_reducible assumption | go_simp)
  have c2_1_0 : w2.cell? ⟨w.heap.size + 1, 0, none⟩ = some (.bool b) := bc g2 (by first | with_reducible assumption | go_simp)
  have f2_1_0 : w2.frozen? ⟨w.heap.size + 1, 0, none⟩ = false := bfz g2 (by (try simp) <;> omega) (by first | with_reducible assumption | go_simp)
  have c2_1_1 : w2.cell? ⟨w.heap.size + 1, 1, none⟩ = some (.string (dec n)) := bc g2 (by first | with_reducible assumption | go_simp)
  have f2_1_1 : w2.frozen? ⟨w.heap.size + 1, 1, none⟩ = false := bfz g2 (by (try simp) <;> omega) (by first | with_reducible assumption | go_simp)
  have c2_2_0 : w2.cell? ⟨w.heap.size + 1 + 1, 0, none⟩ = some (.bool false) := bc g2 (by first | with_reducible assumption | go_simp)
  have f2_2_0 : w2.frozen? ⟨w.heap.size + 1 + 1, 0, none⟩ = false := bfz g2 (by (try simp) <;> omega) (by first | with_reducible assumption | go_simp)
  have c2_2_1 : w2.cell? ⟨w.heap.size + 1 + 1, 1, none⟩ = some (.string ⟨#[]⟩) := bc g2 (by first | with_reducible assumption | go_simp)
  have f2_2_1 : w2.frozen? ⟨w.heap.size + 1 + 1, 1, none⟩ = false := bfz g2 (by (try simp) <;> omega) (by first | with_reducible assumption | go_simp)
  clear g2
  go_wp2_with fail
  refine (with_walk c (m - n) w2).mono ?_
  rintro e w3 ⟨rfl, g3⟩
  have hz3 : w.heap.size + 2 < w3.heap.size := by have := g3.size; (try simp at this); omega
  have hz3_0 : w.heap.size < w3.heap.size := by omega
  have hz3_1 : w.heap.size + 1 < w3.heap.size := by omega
  have B3 : Below w.heap.size w w3 := bn (by repeat (first | exact br _ | assumption | refine ba ?_ | refine bd ?_ | refine below_drewN ?_ _ | refine bs ?_ (by (try simp) <;> omega))) g3
  have c3_2_0 : w3.cell? ⟨w.heap.size + 1 + 1, 0, none⟩ = some (.bool false) := bc g3 (by first | with_reducible assumption | go_simp)
  have f3_2_0 : w3.frozen? ⟨w.heap.size + 1 + 1, 0, none⟩ = false := bfz g3 (by (try simp) <;> omega) (by first | with_reducible assumption | go_simp)
  have c3_2_1 : w3.cell? ⟨w.heap.size + 1 + 1, 1, none⟩ = some (.string ⟨#[]⟩) := bc g3 (by first | with_reducible assumption | go_simp)
  have f3_2_1 : w3.frozen? ⟨w.heap.size + 1 + 1, 1, none⟩ = false := bfz g3 (by (try simp) <;> omega) (by first | with_reducible assumption | go_simp)
  clear g3
  obtain ⟨c', d', hI⟩ := IV_get c (m - n)
  rw [hI]
  go_wp2
  refine bodyPost_ret (v := .agg #[.bool c', .string d']) (by simp [results, Tryz.results160, go_sem, *]) rfl ⟨(by first | rfl | rw [hI]), (by repeat (first | exact br _ | assumption | refine ba ?_ | refine bd ?_ | refine below_drewN ?_ _ | refine bs ?_ (by (try simp) <;> omega)))⟩
set_option maxHeartbeats 1000000 in
theorem difference_more (b c : Bool) (n m : Nat) (hlt : m ≤ n) (hx : dg n ≤ 50000000) (hy : dg m ≤ 50000000) (w : World) (hB : Bw w) :
    Calls Tryz.prog 160 #[.agg #[.bool b, .string (dec n)], .agg #[.bool c, .string (dec m)]] w fun e w' => e = .returned (IV (sgnI b (n - m))) ∧ Below w.heap.size w w' := by
  have H1 := Lib.hid (show (dec n).size ≤ 100000000 by have := dg_def n; omega)
  have H2 := Lib.hid (show (dec m).size ≤ 100000000 by have := dg_def m; omega)
  have H3 := Lib.hid (show (wds (n - m)).length ≤ 100000000 by have := wds_le_dg (n - m); have := dg_mono (Nat.sub_le n m); omega)
  have hcm := cmpN_nonneg hlt
  have HL := Lib.hid hlt
  clear hx hy hlt
  go_enter Tryz.func160, Tryz.ntmps160
  go_wp2_with fail
  refine (natCompare_walk n m H1.out H2.out _).mono ?_
  rintro e w1 ⟨rfl, g1⟩
  have hz1 : w.heap.size + 2 < w1.heap.size := by have := g1.size; (try simp at this); omega
  have hz1_0 : w.heap.size < w1.heap.size := by omega
  have hz1_1 : w.heap.size + 1 < w1.heap.size := by omega
  have B1 : Below w.heap.size w w1 := bn (by repeat (first | exact br _ | assumption | refine ba ?_ | refine bd ?_ | refine below_drewN ?_ _ | refine bs ?_ (by (try simp) <;> omega))) g1
  have c1_0_0 : w1.cell? ⟨w.heap.size, 0, none⟩ = some (.bool b) := bc g1 (by first | with_reducible assumption | go_simp)
  have f1_0_0 : w1.frozen? ⟨w.heap.size, 0, none⟩ = false := bfz g1 (by (try simp) <;> omega) (by first | with_reducible assumption | go_simp)
  have c1_0_1 : w1.cell? ⟨w.heap.size, 1, none⟩ = some (.string (dec n)) := bc g1 (by first | with_reducible assumption | go_simp)
  have f1_0_1 : w1.frozen? ⟨w.heap.size, 1, none⟩ = false := bfz g1 (by (try simp) <;> omega) (by first | with_reducible assumption | go_simp)
  have c1_1_0 : w1.cell? ⟨w.heap.size + 1, 0, none⟩ = some (.bool c) := bc g1 (by first | with_reducible assumption | go_simp)
  have f1_1_0 : w1.frozen? ⟨w.heap.size + 1, 0, none⟩ = false := bfz g1 (by (try simp) <;> omega) (by first | with_reducible assumption | go_simp)
  have c1_1_1 : w1.cell? ⟨w.heap.size + 1, 1, none⟩ = some (.string (dec m)) := bc g1 (by first | with_reducible assumption | go_simp)
  have f1_1_1 : w1.frozen? ⟨w.heap.size + 1, 1, none⟩ = false := bfz g1 (by (try simp) <;> omega) (by first | with_reducible assumption | go_simp)
  have c1_2_0 : w1.cell? ⟨w.heap.size + 1 + 1, 0, none⟩ = some (.bool false) := bc g1 (by first | with_reducible assumption | go_simp)
  have f1_2_0 : w1.frozen? ⟨w.heap.size + 1 + 1, 0, none⟩ = false := bfz g1 (by (try simp) <;> omega) (by first | with_reducible assumption | go_simp)
  have c1_2_1 : w1.cell? ⟨w.heap.size + 1 + 1, 1, none⟩ = some (.string ⟨#[]⟩) := bc g1 (by first | with_reducible assumption | go_simp)
  have f1_2_1 : w1.frozen? ⟨w.heap.size + 1 + 1, 1, none⟩ = false := bfz g1 (by (try simp) <;> omega) (by first | with_reducible assumption | go_simp)
  clear g1
  go_wp2_with fail
  refine (natSub_walk n m HL.out H1.out H2.out H3.out _ (hB.below (by repeat (first | exact br _ | assumption | refine ba ?_ | refine bd ?_ | refine below_drewN ?_ _ | refine bs ?_ (by (try simp) <;> omega))))).mono ?_
  rintro e w2 ⟨rfl, g2⟩
  have hz2 : w.heap.size + 2 < w2.heap.size := by have := g2.size; (try simp at this); omega
  have hz2_0 : w.heap.size < w2.heap.size := by omega
  have hz2_1 : w.heap.size + 1 < w2.heap.size := by omega
  have B2 : Below w.heap.size w w2 := bn (by repeat (first | exact br _ | assumption | refine ba ?_ | refine bd ?_ | refine below_drewN ?_ _ | refine bs ?_ (by (try simp) <;> omega))) g2
  have c2_0_0 : w2.cell? ⟨w.heap.size, 0, none⟩ = some (.bool b) := bc g2 (by first | with_reducible assumption | go_simp)
  have f2_0_0 : w2.frozen? ⟨w.heap.size, 0, none⟩ = false := bfz g2 (by (try simp) <;> omega) (by first | with_reducible assumption | go_simp)
  have c2_0_1 : w2.cell? ⟨w.heap.size, 1, none⟩ = some (.string (dec n)) := bc g2 (by first | with_reducible assumption | go_simp)
  have f2_0_1 : w2.frozen? ⟨w.heap.size, 1, none⟩ = false := bfz g2 (by (try simp) <;> omega) (by first | with_reducible assumption | go_simp)
  have c2_1_0 : w2.cell? ⟨w.heap.size + 1, 0, none⟩ = some (.bool c) := bc g2 (by first | with_reducible assumption | go_simp)
  have f2_1_0 : w2.frozen? ⟨w.heap.size + 1, 0, none⟩ = false := bfz g2 (by (try simp) <;> omega) (by first | with_reducible assumption | go_simp)
  have c2_1_1 : w2.cell? ⟨w.heap.size + 1, 1, none⟩ = some (.string (dec m)) := bc g2 (by first | with_reducible assumption | go_simp)
  have f2_1_1 : w2.frozen? ⟨w.heap.size + 1, 1, none⟩ = false := bfz g2 (by (try simp) <;> omega) (by first | with_reducible assumption | go_simp)
  have c2_2_0 : w2.cell? ⟨w.heap.size + 1 + 1, 0, none⟩ = some (.bool false) := bc g2 (by first | with_reducible assumption | go_simp)
  have f2_2_0 : w2.frozen? ⟨w.heap.size + 1 + 1, 0, none⟩ = false := bfz g2 (by (try simp) <;> omega) (by first | with_reducible assumption | go_simp)
  have c2_2_1 : w2.cell? ⟨w.heap.size + 1 + 1, 1, none⟩ = some (.string ⟨#[]⟩) := bc g2 (by first | with_reducible assumption | go_simp)
  have f2_2_1 : w2.frozen? ⟨w.heap.size + 1 + 1, 1, none⟩ = false := bfz g2 (by (try simp) <;> omega) (by first | with_reducible assumption | go_simp)
  clear g2
  go_wp2_with fail
  refine (with_walk b (n - m) w2).mono ?_
  rintro e w3 ⟨rfl, g3⟩
  have hz3 : w.heap.size + 2 < w3.heap.size := by have := g3.size; (try simp at this); omega
  have hz3_0 : w.heap.size < w3.heap.size := by omega
  have hz3_1 : w.heap.size + 1 < w3.heap.size := by omega
  have B3 : Below w.heap.size w w3 := bn (by repeat (first | exact br _ | assumption | refine ba ?_ | refine bd ?_ | refine below_drewN ?_ _ | refine bs ?_ (by (try simp) <;> omega))) g3
  have c3_2_0 : w3.cell? ⟨w.heap.size + 1 + 1, 0, none⟩ = some (.bool false) := bc g3 (by first | with_reducible assumption | go_simp)
  have f3_2_0 : w3.frozen? ⟨w.heap.size + 1 + 1, 0, none⟩ = false := bfz g3 (by (try simp) <;> omega) (by first | with_reducible assumption | go_simp)
  have c3_2_1 : w3.cell? ⟨w.heap.size + 1 + 1, 1, none⟩ = some (.string ⟨#[]⟩) := bc g3 (by first | with_reducible assumption | go_simp)
  have f3_2_1 : w3.frozen? ⟨w.heap.size + 1 + 1, 1, none⟩ = false := bfz g3 (by (try simp) <;> omega) (by first | with_reducible assumption | go_simp)
  clear g3
  obtain ⟨c', d', hI⟩ := IV_get b (n - m)
  rw [hI]
  go_wp2
  refine bodyPost_ret (v := .agg #[.bool c', .string d']) (by simp [results, Tryz.results160, go_sem, *]) rfl ⟨(by first | rfl | rw [hI]), (by repeat (first | exact br _ | assumption | refine ba ?_ | refine bd ?_ | refine below_drewN ?_ _ | refine bs ?_ (by (try simp) <;> omega)))⟩
end Go.Proofs.YtbnbaokamccmjaaGreatDoor
