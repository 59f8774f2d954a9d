/- integer: divide; the functions on texts. -/
import Derived.Test.YtbnbaokamccmjaaGreatDoorIa4
set_option linter.unusedVariables false
set_option linter.unusedSimpArgs false
namespace Go.Proofs.YtbnbaokamccmjaaGreatDoor
open Go Go.RowKit

theorem dg_one : dg 1 = 1 := dg_small (by omega)
theorem dec_0 : dec 0 = ⟨#[48]⟩ := dec_zero
theorem dec_ne (n : Nat) : ((dec n).toList == [48]) = decide (n = 0) := by rw [ByteArray.toList_eq, dec_toList, decDigits_eq_zero]

/-- Euclid's division by absolute values and signs. -/
theorem ediv_pos {x : Int} (y : Int) (h0 : y ≠ 0) (hx : ¬ x < 0) : sgnI (decide (x < 0) != decide (y < 0)) (x.natAbs / y.natAbs) = x / y ∧ sgnI false (x.natAbs % y.natAbs) = x % y := by
  have e1 : (x.natAbs : Int) = x := by omega
  rw [decide_eq_false hx]
  by_cases hy : y < 0
  · have e2 : (y.natAbs : Int) = -y := by omega
    rw [decide_eq_true hy]
    simp only [sgnI, Bool.false_bne, if_true, Bool.false_eq_true, if_false, Int.natCast_ediv, Int.natCast_emod, e1, e2]
    exact ⟨by rw [Int.ediv_neg, Int.neg_neg], Int.emod_neg _ _⟩
  · have e2 : (y.natAbs : Int) = y := by omega
    rw [decide_eq_false hy]
    simp only [sgnI, Bool.false_bne, Bool.false_eq_true, if_false, Int.natCast_ediv, Int.natCast_emod, e1, e2]
    exact ⟨trivial, trivial⟩
theorem ediv_unique {x y q r : Int} (hy : y ≠ 0) (h : x = y * q + r) (h0 : 0 ≤ r) (h1 : r < y.natAbs) : q = x / y ∧ r = x % y := by
  rcases Int.lt_or_gt_of_ne hy with hn | hp
  · have e := (Int.ediv_emod_unique' (a := x) (b := y) (r := r) (q := q) hn).2 ⟨by omega, h0, by omega⟩
    exact ⟨e.1.symm, e.2.symm⟩
  · have e := (Int.ediv_emod_unique (a := x) (b := y) (r := r) (q := q) hp).2 ⟨by omega, h0, by omega⟩
    exact ⟨e.1.symm, e.2.symm⟩
theorem ediv_even {x : Int} (y : Int) (h0 : y ≠ 0) (hr : x.natAbs % y.natAbs = 0) : sgnI (decide (x < 0) != decide (y < 0)) (x.natAbs / y.natAbs) = x / y ∧ sgnI false (x.natAbs % y.natAbs) = x % y := by
  have hm : (x.natAbs : Int) = y.natAbs * (x.natAbs / y.natAbs : Nat) := by
    have := Nat.div_add_mod x.natAbs y.natAbs
    rw [hr, Nat.add_zero] at this
    exact_mod_cast this.symm
  rw [hr]
  generalize x.natAbs / y.natAbs = q at *
  refine ediv_unique h0 ?_ (by simp [sgnI]) (by simp [sgnI]; omega)
  by_cases hx : x < 0 <;> by_cases hy : y < 0
  · have e1 : (x.natAbs : Int) = -x := by omega
    have e2 : (y.natAbs : Int) = -y := by omega
    rw [e1, e2, Int.neg_mul] at hm
    simp [sgnI, hx, hy, Int.mul_neg]; omega
  · have e1 : (x.natAbs : Int) = -x := by omega
    have e2 : (y.natAbs : Int) = y := by omega
    rw [e1, e2] at hm
    simp [sgnI, hx, hy, Int.mul_neg]; omega
  · have e1 : (x.natAbs : Int) = x := by omega
    have e2 : (y.natAbs : Int) = -y := by omega
    rw [e1, e2, Int.neg_mul] at hm
    simp [sgnI, hx, hy, Int.mul_neg]; omega
  · have e1 : (x.natAbs : Int) = x := by omega
    have e2 : (y.natAbs : Int) = y := by omega
    rw [e1, e2] at hm
    simp [sgnI, hx, hy, Int.mul_neg]; omega
theorem ediv_neg' {x : Int} (y : Int) (h0 : y ≠ 0) (hx : x < 0) (hr : x.natAbs % y.natAbs ≠ 0) : sgnI (true != decide (y < 0)) (x.natAbs / y.natAbs + 1) = x / y ∧ sgnI false (y.natAbs - x.natAbs % y.natAbs) = x % y := by
  have hlt : x.natAbs % y.natAbs < y.natAbs := Nat.mod_lt _ (by omega)
  have hm : (x.natAbs : Int) = y.natAbs * (x.natAbs / y.natAbs : Nat) + (x.natAbs % y.natAbs : Nat) := by
    have := Nat.div_add_mod x.natAbs y.natAbs
    exact_mod_cast this.symm
  generalize x.natAbs / y.natAbs = q at *
  generalize x.natAbs % y.natAbs = r at *
  refine ediv_unique h0 ?_ (by simp [sgnI]) (by simp [sgnI]; omega)
  have e1 : (x.natAbs : Int) = -x := by omega
  by_cases hy : y < 0
  · have e2 : (y.natAbs : Int) = -y := by omega
    rw [e1, e2, Int.neg_mul] at hm
    have : y * ((q : Int) + 1) = y * q + y := by rw [Int.mul_add, Int.mul_one]
    simp [sgnI, hy, Int.mul_neg]; omega
  · have e2 : (y.natAbs : Int) = y := by omega
    rw [e1, e2] at hm
    have : y * ((q : Int) + 1) = y * q + y := by rw [Int.mul_add, Int.mul_one]
    simp [sgnI, hy, Int.mul_neg]; omega

set_option maxHeartbeats 1000000 in
theorem divide_pos (c : Bool) (n m : Nat) (h0 : 0 < m) (hx : dg n ≤ 50000000) (hy : dg m ≤ 50000000) (c1 c2 : Bool) (d1 d2 : ByteArray) (w : World) (hB : Bw w)
    (e1 : IV (sgnI c (n / m)) = .agg #[.bool c1, .string d1]) (e2 : IV (sgnI false (n % m)) = .agg #[.bool c2, .string d2]) :
    Calls Tryz.prog 240 #[.agg #[.bool false, .string (dec n)], .agg #[.bool c, .string (dec m)]] w fun e w' => e = .returned (.tuple #[.agg #[.bool c1, .string d1], .agg #[.bool c2, .string d2]]) ∧ Below w.heap.size w w' := by
  have hq := dg_mono (Nat.div_le_self n m)
  have hq1 := dg_add (n / m) 1
  have hone := dg_one
  have hr := dg_mono (Nat.le_of_lt (Nat.mod_lt n h0))
  have hr1 := dg_mono (Nat.sub_le m (n % m))
  have H1 := Lib.hid (show (dec n).size ≤ 100000000 by have := dg_def n; omega)
  have H2 := Lib.hid (show (dec m).size ≤ 100000000 by have := dg_def m; omega)
  have H3 := Lib.hid (show (wds (n / m)).length ≤ 100000000 by have := wds_le_dg (n / m); omega)
  have H4 := Lib.hid (show (wds (n % m)).length ≤ 100000000 by have := wds_le_dg (n % m); omega)
  have H5 := Lib.hid (show (dec (n / m)).size ≤ 100000000 by have := dg_def (n / m); omega)
  have H6 := Lib.hid (show (dec (n % m)).size ≤ 100000000 by have := dg_def (n % m); omega)
  have H7 := Lib.hid (show (wds (n / m + 1)).length ≤ 100000000 by have := wds_le_dg (n / m + 1); omega)
  have H8 := Lib.hid (show (wds (m - n % m)).length ≤ 100000000 by have := wds_le_dg (m - n % m); omega)
  have H9 := Lib.hid (show n % m ≤ m from Nat.le_of_lt (Nat.mod_lt n h0))
  have H10 := Lib.hid h0
  have H11 := Lib.hid (show (dec 1).size ≤ 100000000 by have := dg_def 1; omega)
  have H12 := Lib.hid dec_one
  have E1 := Lib.hid e1
  have E2 := Lib.hid e2
  clear hx hy hq hq1 hone hr hr1 h0 e1 e2
  go_enter Tryz.func240, Tryz.ntmps240
  go_wp2_with fail
  refine (natDivMod_walk n m H10.out H1.out H2.out H3.out H4.out _ (hB.below (by repeat (first | exact br _ | assumption | refine ba ?_ | refine bd ?_ | refine below_drewN ?_ _ | refine bs ?_ (by (try simp) <;> omega))))).mono ?_
  rintro e w1 ⟨rfl, g1⟩
  have hz1 : w.heap.size + 3 < w1.heap.size := by have := g1.size; (try simp at this); omega
  have hz1_0 : w.heap.size < w1.heap.size := by omega
  have hz1_1 : w.heap.size + 1 < w1.heap.size := by omega
  have hz1_2 : w.heap.size + 2 < w1.heap.size := by omega
  have B1 : Below w.heap.size w w1 := bn (by repeat (first | exact br _ | assumption | refine ba ?_ | refine bd ?_ | refine below_drewN ?_ _ | refine bs ?_ (by (try simp) <;> omega))) g1
  have c1_0_0 : w1.cell? ⟨w.heap.size, 0, none⟩ = some (.bool false) := bc g1 (by first | with_reducible assumption | go_simp)
  have f1_0_0 : w1.frozen? ⟨w.heap.size, 0, none⟩ = false := bfz g1 (by (try simp) <;> omega) (by first | with_reducible assumption | go_simp)
  have c1_0_1 : w1.cell? ⟨w.heap.size, 1, none⟩ = some (.string (dec n)) := bc g1 (by first | with_reducible assumption | go_simp)
  have f1_0_1 : w1.frozen? ⟨w.heap.size, 1, none⟩ = false := bfz g1 (by (try simp) <;> omega) (by first | with_reducible assumption | go_simp)
  have c1_1_0 : w1.cell? ⟨w.heap.size + 1, 0, none⟩ = some (.bool c) := bc g1 (by first | with_reducible assumption | go_simp)
  have f1_1_0 : w1.frozen? ⟨w.heap.size + 1, 0, none⟩ = false := bfz g1 (by (try simp) <;> omega) (by first | with_reducible assumption | go_simp)
  have c1_1_1 : w1.cell? ⟨w.heap.size + 1, 1, none⟩ = some (.string (dec m)) := bc g1 (by first | with_reducible assumption | go_simp)
  have f1_1_1 : w1.frozen? ⟨w.heap.size + 1, 1, none⟩ = false := bfz g1 (by (try simp) <;> omega) (by first | with_reducible assumption | go_simp)
  have c1_2_0 : w1.cell? ⟨w.heap.size + 1 + 1, 0, none⟩ = some (.bool false) := bc g1 (by first | with_reducible assumption | go_simp)
  have f1_2_0 : w1.frozen? ⟨w.heap.size + 1 + 1, 0, none⟩ = false := bfz g1 (by (try simp) <;> omega) (by first | with_reducible assumption | go_simp)
  have c1_2_1 : w1.cell? ⟨w.heap.size + 1 + 1, 1, none⟩ = some (.string ⟨#[]⟩) := bc g1 (by first | with_reducible assumption | go_simp)
  have f1_2_1 : w1.frozen? ⟨w.heap.size + 1 + 1, 1, none⟩ = false := bfz g1 (by (try simp) <;> omega) (by first | with_reducible assumption | go_simp)
  have c1_3_0 : w1.cell? ⟨w.heap.size + 1 + 1 + 1, 0, none⟩ = some (.bool false) := bc g1 (by first | with_reducible assumption | go_simp)
  have f1_3_0 : w1.frozen? ⟨w.heap.size + 1 + 1 + 1, 0, none⟩ = false := bfz g1 (by (try simp) <;> omega) (by first | with_reducible assumption | go_simp)
  have c1_3_1 : w1.cell? ⟨w.heap.size + 1 + 1 + 1, 1, none⟩ = some (.string ⟨#[]⟩) := bc g1 (by first | with_reducible assumption | go_simp)
  have f1_3_1 : w1.frozen? ⟨w.heap.size + 1 + 1 + 1, 1, none⟩ = false := bfz g1 (by (try simp) <;> omega) (by first | with_reducible assumption | go_simp)
  clear g1
  go_wp2_with fail
  refine (with_walk c (n / m) _).mono ?_
  rintro e w2 ⟨rfl, g2⟩
  have hz2 : w.heap.size + 3 < w2.heap.size := by have := g2.size; (try simp at this); omega
  have hz2_0 : w.heap.size < w2.heap.size := by omega
  have hz2_1 : w.heap.size + 1 < w2.heap.size := by omega
  have hz2_2 : w.heap.size + 2 < w2.heap.size := by omega
  have B2 : Below w.heap.size w w2 := bn (by repeat (first | exact br _ | assumption | refine ba ?_ | refine bd ?_ | refine below_drewN ?_ _ | refine bs ?_ (by (try simp) <;> omega))) g2
  have c2_2_0 : w2.cell? ⟨w.heap.size + 1 + 1, 0, none⟩ = some (.bool false) := bc g2 (by first | with_reducible assumption | go_simp)
  have f2_2_0 : w2.frozen? ⟨w.heap.size + 1 + 1, 0, none⟩ = false := bfz g2 (by (try simp) <;> omega) (by first | with_reducible assumption | go_simp)
  have c2_2_1 : w2.cell? ⟨w.heap.size + 1 + 1, 1, none⟩ = some (.string ⟨#[]⟩) := bc g2 (by first | with_reducible assumption | go_simp)
  have f2_2_1 : w2.frozen? ⟨w.heap.size + 1 + 1, 1, none⟩ = false := bfz g2 (by (try simp) <;> omega) (by first | with_reducible assumption | go_simp)
  have c2_3_0 : w2.cell? ⟨w.heap.size + 1 + 1 + 1, 0, none⟩ = some (.bool false) := bc g2 (by first | with_reducible assumption | go_simp)
  have f2_3_0 : w2.frozen? ⟨w.heap.size + 1 + 1 + 1, 0, none⟩ = false := bfz g2 (by (try simp) <;> omega) (by first | with_reducible assumption | go_simp)
  have c2_3_1 : w2.cell? ⟨w.heap.size + 1 + 1 + 1, 1, none⟩ = some (.string ⟨#[]⟩) := bc g2 (by first | with_reducible assumption | go_simp)
  have f2_3_1 : w2.frozen? ⟨w.heap.size + 1 + 1 + 1, 1, none⟩ = false := bfz g2 (by (try simp) <;> omega) (by first | with_reducible assumption | go_simp)
  clear g2
  rw [E1.out]
  go_wp2_with fail
  refine (with_walk false (n % m) _).mono ?_
  rintro e w3 ⟨rfl, g3⟩
  have hz3 : w.heap.size + 3 < w3.heap.size := by have := g3.size; (try simp at this); omega
  have hz3_0 : w.heap.size < w3.heap.size := by omega
  have hz3_1 : w.heap.size + 1 < w3.heap.size := by omega
  have hz3_2 : w.heap.size + 2 < w3.heap.size := by omega
  have B3 : Below w.heap.size w w3 := bn (by repeat (first | exact br _ | assumption | refine ba ?_ | refine bd ?_ | refine below_drewN ?_ _ | refine bs ?_ (by (try simp) <;> omega))) g3
  have c3_2_0 : w3.cell? ⟨w.heap.size + 1 + 1, 0, none⟩ = some (.bool false) := bc g3 (by first | with_reducible assumption | go_simp)
  have f3_2_0 : w3.frozen? ⟨w.heap.size + 1 + 1, 0, none⟩ = false := bfz g3 (by (try simp) <;> omega) (by first | with_reducible assumption | go_simp)
  have c3_2_1 : w3.cell? ⟨w.heap.size + 1 + 1, 1, none⟩ = some (.string ⟨#[]⟩) := bc g3 (by first | with_reducible assumption | go_simp)
  have f3_2_1 : w3.frozen? ⟨w.heap.size + 1 + 1, 1, none⟩ = false := bfz g3 (by (try simp) <;> omega) (by first | with_reducible assumption | go_simp)
  have c3_3_0 : w3.cell? ⟨w.heap.size + 1 + 1 + 1, 0, none⟩ = some (.bool false) := bc g3 (by first | with_reducible assumption | go_simp)
  have f3_3_0 : w3.frozen? ⟨w.heap.size + 1 + 1 + 1, 0, none⟩ = false := bfz g3 (by (try simp) <;> omega) (by first | with_reducible assumption | go_simp)
  have c3_3_1 : w3.cell? ⟨w.heap.size + 1 + 1 + 1, 1, none⟩ = some (.string ⟨#[]⟩) := bc g3 (by first | with_reducible assumption | go_simp)
  have f3_3_1 : w3.frozen? ⟨w.heap.size + 1 + 1 + 1, 1, none⟩ = false := bfz g3 (by (try simp) <;> omega) (by first | with_reducible assumption | go_simp)
  clear g3
  rw [E2.out]
  go_wp2
  refine bodyPost_ret (v := .tuple #[.agg #[.bool c1, .string d1], .agg #[.bool c2, .string d2]]) (by simp [results, Tryz.results240, go_sem, *]) rfl ⟨(by first | rfl | rw [hI]), (by repeat (first | exact br _ | assumption | refine ba ?_ | refine bd ?_ | refine below_drewN ?_ _ | refine bs ?_ (by (try simp) <;> omega)))⟩
set_option maxHeartbeats 1000000 in
theorem divide_even (c : Bool) (n m : Nat) (h0 : 0 < m) (hr0 : n % m = 0) (hx : dg n ≤ 50000000) (hy : dg m ≤ 50000000) (c1 c2 : Bool) (d1 d2 : ByteArray) (w : World) (hB : Bw w)
    (e1 : IV (sgnI (!c) (n / m)) = .agg #[.bool c1, .string d1]) (e2 : IV (sgnI false (n % m)) = .agg #[.bool c2, .string d2]) :
    Calls Tryz.prog 240 #[.agg #[.bool true, .string (dec n)], .agg #[.bool c, .string (dec m)]] w fun e w' => e = .returned (.tuple #[.agg #[.bool c1, .string d1], .agg #[.bool c2, .string d2]]) ∧ Below w.heap.size w w' := by
  have hq := dg_mono (Nat.div_le_self n m)
  have hq1 := dg_add (n / m) 1
  have hone := dg_one
  have hr := dg_mono (Nat.le_of_lt (Nat.mod_lt n h0))
  have hr1 := dg_mono (Nat.sub_le m (n % m))
  have H1 := Lib.hid (show (dec n).size ≤ 100000000 by have := dg_def n; omega)
  have H2 := Lib.hid (show (dec m).size ≤ 100000000 by have := dg_def m; omega)
  have H3 := Lib.hid (show (wds (n / m)).length ≤ 100000000 by have := wds_le_dg (n / m); omega)
  have H4 := Lib.hid (show (wds (n % m)).length ≤ 100000000 by have := wds_le_dg (n % m); omega)
  have H5 := Lib.hid (show (dec (n / m)).size ≤ 100000000 by have := dg_def (n / m); omega)
  have H6 := Lib.hid (show (dec (n % m)).size ≤ 100000000 by have := dg_def (n % m); omega)
  have H7 := Lib.hid (show (wds (n / m + 1)).length ≤ 100000000 by have := wds_le_dg (n / m + 1); omega)
  have H8 := Lib.hid (show (wds (m - n % m)).length ≤ 100000000 by have := wds_le_dg (m - n % m); omega)
  have H9 := Lib.hid (show n % m ≤ m from Nat.le_of_lt (Nat.mod_lt n h0))
  have H10 := Lib.hid h0
  have H11 := Lib.hid (show (dec 1).size ≤ 100000000 by have := dg_def 1; omega)
  have H12 := Lib.hid dec_one
  have E1 := Lib.hid e1
  have E2 := Lib.hid e2
  have hq0 : ((dec (n % m)).toList == [48]) = true := by rw [dec_ne, hr0]; rfl
  clear hr0
  clear hx hy hq hq1 hone hr hr1 h0 e1 e2
  go_enter Tryz.func240, Tryz.ntmps240
  go_wp2_with fail
  refine (natDivMod_walk n m H10.out H1.out H2.out H3.out H4.out _ (hB.below (by repeat (first | exact br _ | assumption | refine ba ?_ | refine bd ?_ | refine below_drewN ?_ _ | refine bs ?_ (by (try simp) <;> omega))))).mono ?_
  rintro e w1 ⟨rfl, g1⟩
  have hz1 : w.heap.size + 3 < w1.heap.size := by have := g1.size; (try simp at this); omega
  have hz1_0 : w.heap.size < w1.heap.size := by omega
  have hz1_1 : w.heap.size + 1 < w1.heap.size := by omega
  have hz1_2 : w.heap.size + 2 < w1.heap.size := by omega
  have B1 : Below w.heap.size w w1 := bn (by repeat (first | exact br _ | assumption | refine ba ?_ | refine bd ?_ | refine below_drewN ?_ _ | refine bs ?_ (by (try simp) <;> omega))) g1
  have c1_0_0 : w1.cell? ⟨w.heap.size, 0, none⟩ = some (.bool true) := bc g1 (by first | with_reducible assumption | go_simp)
  have f1_0_0 : w1.frozen? ⟨w.heap.size, 0, none⟩ = false := bfz g1 (by (try simp) <;> omega) (by first | with_reducible assumption | go_simp)
  have c1_0_1 : w1.cell? ⟨w.heap.size, 1, none⟩ = some (.string (dec n)) := bc g1 (by first | with_reducible assumption | go_simp)
  have f1_0_1 : w1.frozen? ⟨w.heap.size, 1, none⟩ = false := bfz g1 (by (try simp) <;> omega) (by first | with_reducible assumption | go_simp)
  have c1_1_0 : w1.cell? ⟨w.heap.size + 1, 0, none⟩ = some (.bool c) := bc g1 (by first | with_reducible assumption | go_simp)
  have f1_1_0 : w1.frozen? ⟨w.heap.size + 1, 0, none⟩ = false := bfz g1 (by (try simp) <;> omega) (by first | with_reducible assumption | go_simp)
  have c1_1_1 : w1.cell? ⟨w.heap.size + 1, 1, none⟩ = some (.string (dec m)) := bc g1 (by first | with_reducible assumption | go_simp)
  have f1_1_1 : w1.frozen? ⟨w.heap.size + 1, 1, none⟩ = false := bfz g1 (by (try simp) <;> omega) (by first | with_reducible assumption | go_simp)
  have c1_2_0 : w1.cell? ⟨w.heap.size + 1 + 1, 0, none⟩ = some (.bool false) := bc g1 (by first | with_reducible assumption | go_simp)
  have f1_2_0 : w1.frozen? ⟨w.heap.size + 1 + 1, 0, none⟩ = false := bfz g1 (by (try simp) <;> omega) (by first | with_reducible assumption | go_simp)
  have c1_2_1 : w1.cell? ⟨w.heap.size + 1 + 1, 1, none⟩ = some (.string ⟨#[]⟩) := bc g1 (by first | with_reducible assumption | go_simp)
  have f1_2_1 : w1.frozen? ⟨w.heap.size + 1 + 1, 1, none⟩ = false := bfz g1 (by (try simp) <;> omega) (by first | with_reducible assumption | go_simp)
  have c1_3_0 : w1.cell? ⟨w.heap.size + 1 + 1 + 1, 0, none⟩ = some (.bool false) := bc g1 (by first | with_reducible assumption | go_simp)
  have f1_3_0 : w1.frozen? ⟨w.heap.size + 1 + 1 + 1, 0, none⟩ = false := bfz g1 (by (try simp) <;> omega) (by first | with_reducible assumption | go_simp)
  have c1_3_1 : w1.cell? ⟨w.heap.size + 1 + 1 + 1, 1, none⟩ = some (.string ⟨#[]⟩) := bc g1 (by first | with_reducible assumption | go_simp)
  have f1_3_1 : w1.frozen? ⟨w.heap.size + 1 + 1 + 1, 1, none⟩ = false := bfz g1 (by (try simp) <;> omega) (by first | with_reducible assumption | go_simp)
  clear g1
  go_wp2_with fail
  refine (with_walk (!c) (n / m) _).mono ?_
  rintro e w2 ⟨rfl, g2⟩
  have hz2 : w.heap.size + 3 < w2.heap.size := by have := g2.size; (try simp at this); omega
  have hz2_0 : w.heap.size < w2.heap.size := by omega
  have hz2_1 : w.heap.size + 1 < w2.heap.size := by omega
  have hz2_2 : w.heap.size + 2 < w2.heap.size := by omega
  have B2 : Below w.heap.size w w2 := bn (by repeat (first | exact br _ | assumption | refine ba ?_ | refine bd ?_ | refine below_drewN ?_ _ | refine bs ?_ (by (try simp) <;> omega))) g2
  have c2_2_0 : w2.cell? ⟨w.heap.size + 1 + 1, 0, none⟩ = some (.bool false) := bc g2 (by first | with_reducible assumption | go_simp)
  have f2_2_0 : w2.frozen? ⟨w.heap.size + 1 + 1, 0, none⟩ = false := bfz g2 (by (try simp) <;> omega) (by first | with_reducible assumption | go_simp)
  have c2_2_1 : w2.cell? ⟨w.heap.size + 1 + 1, 1, none⟩ = some (.string ⟨#[]⟩) := bc g2 (by first | with_reducible assumption | go_simp)
  have f2_2_1 : w2.frozen? ⟨w.heap.size + 1 + 1, 1, none⟩ = false := bfz g2 (by (try simp) <;> omega) (by first | with_reducible assumption | go_simp)
  have c2_3_0 : w2.cell? ⟨w.heap.size + 1 + 1 + 1, 0, none⟩ = some (.bool false) := bc g2 (by first | with_reducible assumption | go_simp)
  have f2_3_0 : w2.frozen? ⟨w.heap.size + 1 + 1 + 1, 0, none⟩ = false := bfz g2 (by (try simp) <;> omega) (by first | with_reducible assumption | go_simp)
  have c2_3_1 : w2.cell? ⟨w.heap.size + 1 + 1 + 1, 1, none⟩ = some (.string ⟨#[]⟩) := bc g2 (by first | with_reducible assumption | go_simp)
  have f2_3_1 : w2.frozen? ⟨w.heap.size + 1 + 1 + 1, 1, none⟩ = false := bfz g2 (by (try simp) <;> omega) (by first | with_reducible assumption | go_simp)
  clear g2
  rw [E1.out]
  go_wp2_with fail
  refine (with_walk false (n % m) _).mono ?_
  rintro e w3 ⟨rfl, g3⟩
  have hz3 : w.heap.size + 3 < w3.heap.size := by have := g3.size; (try simp at this); omega
  have hz3_0 : w.heap.size < w3.heap.size := by omega
  have hz3_1 : w.heap.size + 1 < w3.heap.size := by omega
  have hz3_2 : w.heap.size + 2 < w3.heap.size := by omega
  have B3 : Below w.heap.size w w3 := bn (by repeat (first | exact br _ | assumption | refine ba ?_ | refine bd ?_ | refine below_drewN ?_ _ | refine bs ?_ (by (try simp) <;> omega))) g3
  have c3_2_0 : w3.cell? ⟨w.heap.size + 1 + 1, 0, none⟩ = some (.bool false) := bc g3 (by first | with_reducible assumption | go_simp)
  have f3_2_0 : w3.frozen? ⟨w.heap.size + 1 + 1, 0, none⟩ = false := bfz g3 (by (try simp) <;> omega) (by first | with_reducible assumption | go_simp)
  have c3_2_1 : w3.cell? ⟨w.heap.size + 1 + 1, 1, none⟩ = some (.string ⟨#[]⟩) := bc g3 (by first | with_reducible assumption | go_simp)
  have f3_2_1 : w3.frozen? ⟨w.heap.size + 1 + 1, 1, none⟩ = false := bfz g3 (by (try simp) <;> omega) (by first | with_reducible assumption | go_simp)
  have c3_3_0 : w3.cell? ⟨w.heap.size + 1 + 1 + 1, 0, none⟩ = some (.bool false) := bc g3 (by first | with_reducible assumption | go_simp)
  have f3_3_0 : w3.frozen? ⟨w.heap.size + 1 + 1 + 1, 0, none⟩ = false := bfz g3 (by (try simp) <;> omega) (by first | with_reducible assumption | go_simp)
  have c3_3_1 : w3.cell? ⟨w.heap.size + 1 + 1 + 1, 1, none⟩ = some (.string ⟨#[]⟩) := bc g3 (by first | with_reducible assumption | go_simp)
  have f3_3_1 : w3.frozen? ⟨w.heap.size + 1 + 1 + 1, 1, none⟩ = false := bfz g3 (by (try simp) <;> omega) (by first | with_reducible assumption | go_simp)
  clear g3
  rw [E2.out]
  go_wp2
  refine bodyPost_ret (v := .tuple #[.agg #[.bool c1, .string d1], .agg #[.bool c2, .string d2]]) (by simp [results, Tryz.results240, go_sem, *]) rfl ⟨(by first | rfl | rw [hI]), (by repeat (first | exact br _ | assumption | refine ba ?_ | refine bd ?_ | refine below_drewN ?_ _ | refine bs ?_ (by (try simp) <;> omega)))⟩
set_option maxHeartbeats 1000000 in
theorem divide_odd (c : Bool) (n m : Nat) (h0 : 0 < m) (hr0 : n % m ≠ 0) (hx : dg n ≤ 50000000) (hy : dg m ≤ 50000000) (c1 c2 : Bool) (d1 d2 : ByteArray) (w : World) (hB : Bw w)
    (e1 : IV (sgnI (!c) (n / m + 1)) = .agg #[.bool c1, .string d1]) (e2 : IV (sgnI false (m - n % m)) = .agg #[.bool c2, .string d2]) :
    Calls Tryz.prog 240 #[.agg #[.bool true, .string (dec n)], .agg #[.bool c, .string (dec m)]] w fun e w' => e = .returned (.tuple #[.agg #[.bool c1, .string d1], .agg #[.bool c2, .string d2]]) ∧ Below w.heap.size w w' := by
  have hq := dg_mono (Nat.div_le_self n m)
  have hq1 := dg_add (n / m) 1
  have hone := dg_one
  have hr := dg_mono (Nat.le_of_lt (Nat.mod_lt n h0))
  have hr1 := dg_mono (Nat.sub_le m (n % m))
  have H1 := Lib.hid (show (dec n).size ≤ 100000000 by have := dg_def n; omega)
  have H2 := Lib.hid (show (dec m).size ≤ 100000000 by have := dg_def m; omega)
  have H3 := Lib.hid (show (wds (n / m)).length ≤ 100000000 by have := wds_le_dg (n / m); omega)
  have H4 := Lib.hid (show (wds (n % m)).length ≤ 100000000 by have := wds_le_dg (n % m); omega)
  have H5 := Lib.hid (show (dec (n / m)).size ≤ 100000000 by have := dg_def (n / m); omega)
  have H6 := Lib.hid (show (dec (n % m)).size ≤ 100000000 by have := dg_def (n % m); omega)
  have H7 := Lib.hid (show (wds (n / m + 1)).length ≤ 100000000 by have := wds_le_dg (n / m + 1); omega)
  have H8 := Lib.hid (show (wds (m - n % m)).length ≤ 100000000 by have := wds_le_dg (m - n % m); omega)
  have H9 := Lib.hid (show n % m ≤ m from Nat.le_of_lt (Nat.mod_lt n h0))
  have H10 := Lib.hid h0
  have H11 := Lib.hid (show (dec 1).size ≤ 100000000 by have := dg_def 1; omega)
  have H12 := Lib.hid dec_one
  have E1 := Lib.hid e1
  have E2 := Lib.hid e2
  have hq0 : ((dec (n % m)).toList == [48]) = false := by rw [dec_ne, decide_eq_false hr0]
  clear hr0
  clear hx hy hq hq1 hone hr hr1 h0 e1 e2
  go_enter Tryz.func240, Tryz.ntmps240
  go_wp2_with fail
  refine (natDivMod_walk n m H10.out H1.out H2.out H3.out H4.out _ (hB.below (by repeat (first | exact br _ | assumption | refine ba ?_ | refine bd ?_ | refine below_drewN ?_ _ | refine bs ?_ (by (try simp) <;> omega))))).mono ?_
  rintro e w1 ⟨rfl, g1⟩
  have hz1 : w.heap.size + 3 < w1.heap.size := by have := g1.size; (try simp at this); omega
  have hz1_0 : w.heap.size < w1.heap.size := by omega
  have hz1_1 : w.heap.size + 1 < w1.heap.size := by omega
  have hz1_2 : w.heap.size + 2 < w1.heap.size := by omega
  have B1 : Below w.heap.size w w1 := bn (by repeat (first | exact br _ | assumption | refine ba ?_ | refine bd ?_ | refine below_drewN ?_ _ | refine bs ?_ (by (try simp) <;> omega))) g1
  have c1_0_0 : w1.cell? ⟨w.heap.size, 0, none⟩ = some (.bool true) := bc g1 (by first | with_reducible assumption | go_simp)
  have f1_0_0 : w1.frozen? ⟨w.heap.size, 0, none⟩ = false := bfz g1 (by (try simp) <;> omega) (by first | with_reducible assumption | go_simp)
  have c1_0_1 : w1.cell? ⟨w.heap.size, 1, none⟩ = some (.string (dec n)) := bc g1 (by first | with_reducible assumption | go_simp)
  have f1_0_1 : w1.frozen? ⟨w.heap.size, 1, none⟩ = false := bfz g1 (by (try simp) <;> omega) (by first | with_reducible assumption | go_simp)
  have c1_1_0 : w1.cell? ⟨w.heap.size + 1, 0, none⟩ = some (.bool c) := bc g1 (by first | with_reducible assumption | go_simp)
  have f1_1_0 : w1.frozen? ⟨w.heap.size + 1, 0, none⟩ = false := bfz g1 (by (try simp) <;> omega) (by first | with_reducible assumption | go_simp)
  have c1_1_1 : w1.cell? ⟨w.heap.size + 1, 1, none⟩ = some (.string (dec m)) := bc g1 (by first | with_reducible assumption | go_simp)
  have f1_1_1 : w1.frozen? ⟨w.heap.size + 1, 1, none⟩ = false := bfz g1 (by (try simp) <;> omega) (by first | with_reducible assumption | go_simp)
  have c1_2_0 : w1.cell? ⟨w.heap.size + 1 + 1, 0, none⟩ = some (.bool false) := bc g1 (by first | with_reducible assumption | go_simp)
  have f1_2_0 : w1.frozen? ⟨w.heap.size + 1 + 1, 0, none⟩ = false := bfz g1 (by (try simp) <;> omega) (by first | with_reducible assumption | go_simp)
  have c1_2_1 : w1.cell? ⟨w.heap.size + 1 + 1, 1, none⟩ = some (.string ⟨#[]⟩) := bc g1 (by first | with_reducible assumption | go_simp)
  have f1_2_1 : w1.frozen? ⟨w.heap.size + 1 + 1, 1, none⟩ = false := bfz g1 (by (try simp) <;> omega) (by first | with_reducible assumption | go_simp)
  have c1_3_0 : w1.cell? ⟨w.heap.size + 1 + 1 + 1, 0, none⟩ = some (.bool false) := bc g1 (by first | with_reducible assumption | go_simp)
  have f1_3_0 : w1.frozen? ⟨w.heap.size + 1 + 1 + 1, 0, none⟩ = false := bfz g1 (by (try simp) <;> omega) (by first | with_reducible assumption | go_simp)
  have c1_3_1 : w1.cell? ⟨w.heap.size + 1 + 1 + 1, 1, none⟩ = some (.string ⟨#[]⟩) := bc g1 (by first | with_reducible assumption | go_simp)
  have f1_3_1 : w1.frozen? ⟨w.heap.size + 1 + 1 + 1, 1, none⟩ = false := bfz g1 (by (try simp) <;> omega) (by first | with_reducible assumption | go_simp)
  clear g1
  go_wp2_with fail
  rw [← H12.out]
  refine (natAdd_walk (n / m) 1 H5.out H11.out H7.out _ (hB.below (by repeat (first | exact br _ | assumption | refine ba ?_ | refine bd ?_ | refine below_drewN ?_ _ | refine bs ?_ (by (try simp) <;> omega))))).mono ?_
  rintro e w2 ⟨rfl, g2⟩
  have hz2 : w.heap.size + 3 < w2.heap.size := by have := g2.size; (try simp at this); omega
  have hz2_0 : w.heap.size < w2.heap.size := by omega
  have hz2_1 : w.heap.size + 1 < w2.heap.size := by omega
  have hz2_2 : w.heap.size + 2 < w2.heap.size := by omega
  have B2 : Below w.heap.size w w2 := bn (by repeat (first | exact br _ | assumption | refine ba ?_ | refine bd ?_ | refine below_drewN ?_ _ | refine bs ?_ (by (try simp) <;> omega))) g2
  have c2_0_0 : w2.cell? ⟨w.heap.size, 0, none⟩ = some (.bool true) := bc g2 (by first | with_reducible assumption | go_simp)
  have f2_0_0 : w2.frozen? ⟨w.heap.size, 0, none⟩ = false := bfz g2 (by (try simp) <;> omega) (by first | with_reducible assumption | go_simp)
  have c2_0_1 : w2.cell? ⟨w.heap.size, 1, none⟩ = some (.string (dec n)) := bc g2 (by first | with_reducible assumption | go_simp)
  have f2_0_1 : w2.frozen? ⟨w.heap.size, 1, none⟩ = false := bfz g2 (by (try simp) <;> omega) (by first | with_reducible assumption | go_simp)
  have c2_1_0 : w2.cell? ⟨w.heap.size + 1, 0, none⟩ = some (.bool c) := bc g2 (by first | with_reducible assumption | go_simp)
  have f2_1_0 : w2.frozen? ⟨w.heap.size + 1, 0, none⟩ = false := bfz g2 (by (try simp) <;> omega) (by first | with_reducible assumption | go_simp)
  have c2_1_1 : w2.cell? ⟨w.heap.size + 1, 1, none⟩ = some (.string (dec m)) := bc g2 (by first | with_reducible assumption | go_simp)
  have f2_1_1 : w2.frozen? ⟨w.heap.size + 1, 1, none⟩ = false := bfz g2 (by (try simp) <;> omega) (by first | with_reducible assumption | go_simp)
  have c2_2_0 : w2.cell? ⟨w.heap.size + 1 + 1, 0, none⟩ = some (.bool false) := bc g2 (by first | with_reducible assumption | go_simp)
  have f2_2_0 : w2.frozen? ⟨w.heap.size + 1 + 1, 0, none⟩ = false := bfz g2 (by (try simp) <;> omega) (by first | with_reducible assumption | go_simp)
  have c2_2_1 : w2.cell? ⟨w.heap.size + 1 + 1, 1, none⟩ = some (.string ⟨#[]⟩) := bc g2 (by first | with_reducible assumption | go_simp)
  have f2_2_1 : w2.frozen? ⟨w.heap.size + 1 + 1, 1, none⟩ = false := bfz g2 (by (try simp) <;> omega) (by first | with_reducible assumption | go_simp)
  have c2_3_0 : w2.cell? ⟨w.heap.size + 1 + 1 + 1, 0, none⟩ = some (.bool false) := bc g2 (by first | with_reducible assumption | go_simp)
  have f2_3_0 : w2.frozen? ⟨w.heap.size + 1 + 1 + 1, 0, none⟩ = false := bfz g2 (by (try simp) <;> omega) (by first | with_reducible assumption | go_simp)
  have c2_3_1 : w2.cell? ⟨w.heap.size + 1 + 1 + 1, 1, none⟩ = some (.string ⟨#[]⟩) := bc g2 (by first | with_reducible assumption | go_simp)
  have f2_3_1 : w2.frozen? ⟨w.heap.size + 1 + 1 + 1, 1, none⟩ = false := bfz g2 (by (try simp) <;> omega) (by first | with_reducible assumption | go_simp)
  clear g2
  go_wp2_with fail
  refine (natSub_walk m (n % m) H9.out H2.out H6.out H8.out _ (hB.below (by repeat (first | exact br _ | assumption | refine ba ?_ | refine bd ?_ | refine below_drewN ?_ _ | refine bs ?_ (by (try simp) <;> omega))))).mono ?_
  rintro e w3 ⟨rfl, g3⟩
  have hz3 : w.heap.size + 3 < w3.heap.size := by have := g3.size; (try simp at this); omega
  have hz3_0 : w.heap.size < w3.heap.size := by omega
  have hz3_1 : w.heap.size + 1 < w3.heap.size := by omega
  have hz3_2 : w.heap.size + 2 < w3.heap.size := by omega
  have B3 : Below w.heap.size w w3 := bn (by repeat (first | exact br _ | assumption | refine ba ?_ | refine bd ?_ | refine below_drewN ?_ _ | refine bs ?_ (by (try simp) <;> omega))) g3
  have c3_0_0 : w3.cell? ⟨w.heap.size, 0, none⟩ = some (.bool true) := bc g3 (by first | with_reducible assumption | go_simp)
  have f3_0_0 : w3.frozen? ⟨w.heap.size, 0, none⟩ = false := bfz g3 (by (try simp) <;> omega) (by first | with_reducible assumption | go_simp)
  have c3_0_1 : w3.cell? ⟨w.heap.size, 1, none⟩ = some (.string (dec n)) := bc g3 (by first | with_reducible assumption | go_simp)
  have f3_0_1 : w3.frozen? ⟨w.heap.size, 1, none⟩ = false := bfz g3 (by (try simp) <;> omega) (by first | with_reducible assumption | go_simp)
  have c3_1_0 : w3.cell? ⟨w.heap.size + 1, 0, none⟩ = some (.bool c) := bc g3 (by first | with_reducible assumption | go_simp)
  have f3_1_0 : w3.frozen? ⟨w.heap.size + 1, 0, none⟩ = false := bfz g3 (by (try simp) <;> omega) (by first | with_reducible assumption | go_simp)
  have c3_1_1 : w3.cell? ⟨w.heap.size + 1, 1, none⟩ = some (.string (dec m)) := bc g3 (by first | with_reducible assumption | go_simp)
  have f3_1_1 : w3.frozen? ⟨w.heap.size + 1, 1, none⟩ = false := bfz g3 (by (try simp) <;> omega) (by first | with_reducible assumption | go_simp)
  have c3_2_0 : w3.cell? ⟨w.heap.size + 1 + 1, 0, none⟩ = some (.bool false) := bc g3 (by first | with_reducible assumption | go_simp)
  have f3_2_0 : w3.frozen? ⟨w.heap.size + 1 + 1, 0, none⟩ = false := bfz g3 (by (try simp) <;> omega) (by first | with_reducible assumption | go_simp)
  have c3_2_1 : w3.cell? ⟨w.heap.size + 1 + 1, 1, none⟩ = some (.string ⟨#[]⟩) := bc g3 (by first | with_reducible assumption | go_simp)
  have f3_2_1 : w3.frozen? ⟨w.heap.size + 1 + 1, 1, none⟩ = false := bfz g3 (by (try simp) <;> omega) (by first | with_reducible assumption | go_simp)
  have c3_3_0 : w3.cell? ⟨w.heap.size + 1 + 1 + 1, 0, none⟩ = some (.bool false) := bc g3 (by first | with_reducible assumption | go_simp)
  have f3_3_0 : w3.frozen? ⟨w.heap.size + 1 + 1 + 1, 0, none⟩ = false := bfz g3 (by (try simp) <;> omega) (by first | with_reducible assumption | go_simp)
  have c3_3_1 : w3.cell? ⟨w.heap.size + 1 + 1 + 1, 1, none⟩ = some (.string ⟨#[]⟩) := bc g3 (by first | with_reducible assumption | go_simp)
  have f3_3_1 : w3.frozen? ⟨w.heap.size + 1 + 1 + 1, 1, none⟩ = false := bfz g3 (by (try simp) <;> omega) (by first | with_reducible assumption | go_simp)
  clear g3
  go_wp2_with fail
  refine (with_walk (!c) (n / m + 1) _).mono ?_
  rintro e w4 ⟨rfl, g4⟩
  have hz4 : w.heap.size + 3 < w4.heap.size := by have := g4.size; (try simp at this); omega
  have hz4_0 : w.heap.size < w4.heap.size := by omega
  have hz4_1 : w.heap.size + 1 < w4.heap.size := by omega
  have hz4_2 : w.heap.size + 2 < w4.heap.size := by omega
  have B4 : Below w.heap.size w w4 := bn (by repeat (first | exact br _ | assumption | refine ba ?_ | refine bd ?_ | refine below_drewN ?_ _ | refine bs ?_ (by (try simp) <;> omega))) g4
  have c4_2_0 : w4.cell? ⟨w.heap.size + 1 + 1, 0, none⟩ = some (.bool false) := bc g4 (by first | with_reducible assumption | go_simp)
  have f4_2_0 : w4.frozen? ⟨w.heap.size + 1 + 1, 0, none⟩ = false := bfz g4 (by (try simp) <;> omega) (by first | with_reducible assumption | go_simp)
  have c4_2_1 : w4.cell? ⟨w.heap.size + 1 + 1, 1, none⟩ = some (.string ⟨#[]⟩) := bc g4 (by first | with_reducible assumption | go_simp)
  have f4_2_1 : w4.frozen? ⟨w.heap.size + 1 + 1, 1, none⟩ = false := bfz g4 (by (try simp) <;> omega) (by first | with_reducible assumption | go_simp)
  have c4_3_0 : w4.cell? ⟨w.heap.size + 1 + 1 + 1, 0, none⟩ = some (.bool false) := bc g4 (by first | with_reducible assumption | go_simp)
  have f4_3_0 : w4.frozen? ⟨w.heap.size + 1 + 1 + 1, 0, none⟩ = false := bfz g4 (by (try simp) <;> omega) (by first | with_reducible assumption | go_simp)
  have c4_3_1 : w4.cell? ⟨w.heap.size + 1 + 1 + 1, 1, none⟩ = some (.string ⟨#[]⟩) := bc g4 (by first | with_reducible assumption | go_simp)
  have f4_3_1 : w4.frozen? ⟨w.heap.size + 1 + 1 + 1, 1, none⟩ = false := bfz g4 (by (try simp) <;> omega) (by first | with_reducible assumption | go_simp)
  clear g4
  rw [E1.out]
  go_wp2_with fail
  refine (with_walk false (m - n % m) _).mono ?_
  rintro e w5 ⟨rfl, g5⟩
  have hz5 : w.heap.size + 3 < w5.heap.size := by have := g5.size; (try simp at this); omega
  have hz5_0 : w.heap.size < w5.heap.size := by omega
  have hz5_1 : w.heap.size + 1 < w5.heap.size := by omega
  have hz5_2 : w.heap.size + 2 < w5.heap.size := by omega
  have B5 : Below w.heap.size w w5 := bn (by repeat (first | exact br _ | assumption | refine ba ?_ | refine bd ?_ | refine below_drewN ?_ _ | refine bs ?_ (by (try simp) <;> omega))) g5
  have c5_2_0 : w5.cell? ⟨w.heap.size + 1 + 1, 0, none⟩ = some (.bool false) := bc g5 (by first | with_reducible assumption | go_simp)
  have f5_2_0 : w5.frozen? ⟨w.heap.size + 1 + 1, 0, none⟩ = false := bfz g5 (by (try simp) <;> omega) (by first | with_reducible assumption | go_simp)
  have c5_2_1 : w5.cell? ⟨w.heap.size + 1 + 1, 1, none⟩ = some (.string ⟨#[]⟩) := bc g5 (by first | with_reducible assumption | go_simp)
  have f5_2_1 : w5.frozen? ⟨w.heap.size + 1 + 1, 1, none⟩ = false := bfz g5 (by (try simp) <;> omega) (by first | with_reducible assumption | go_simp)
  have c5_3_0 : w5.cell? ⟨w.heap.size + 1 + 1 + 1, 0, none⟩ = some (.bool false) := bc g5 (by first | with_reducible assumption | go_simp)
  have f5_3_0 : w5.frozen? ⟨w.heap.size + 1 + 1 + 1, 0, none⟩ = false := bfz g5 (by (try simp) <;> omega) (by first | with_reducible assumption | go_simp)
  have c5_3_1 : w5.cell? ⟨w.heap.size + 1 + 1 + 1, 1, none⟩ = some (.string ⟨#[]⟩) := bc g5 (by first | with_reducible assumption | go_simp)
  have f5_3_1 : w5.frozen? ⟨w.heap.size + 1 + 1 + 1, 1, none⟩ = false := bfz g5 (by (try simp) <;> omega) (by first | with_reducible assumption | go_simp)
  clear g5
  rw [E2.out]
  go_wp2
  refine bodyPost_ret (v := .tuple #[.agg #[.bool c1, .string d1], .agg #[.bool c2, .string d2]]) (by simp [results, Tryz.results240, go_sem, *]) rfl ⟨(by first | rfl | rw [hI]), (by repeat (first | exact br _ | assumption | refine ba ?_ | refine bd ?_ | refine below_drewN ?_ _ | refine bs ?_ (by (try simp) <;> omega)))⟩

theorem idivide_walk (x y : Int) (h0 : y ≠ 0) (hx : dg x.natAbs ≤ 50000000) (hy : dg y.natAbs ≤ 50000000) (w : World) (hB : Bw w) :
    Calls Tryz.prog 240 #[IV x, IV y] w fun e w' => e = .returned (.tuple #[IV (x / y), IV (x % y)]) ∧ Below w.heap.size w w' := by
  have hp : 0 < y.natAbs := by omega
  obtain ⟨c1, d1, e1⟩ := IV_shape (x / y)
  obtain ⟨c2, d2, e2⟩ := IV_shape (x % y)
  rw [e1, e2, IV_eq x, IV_eq y]
  by_cases hn : x < 0
  · by_cases hr : x.natAbs % y.natAbs = 0
    · have h := ediv_even y h0 hr
      rw [decide_eq_true hn] at h ⊢
      exact divide_even _ _ _ hp hr hx hy c1 c2 d1 d2 w hB (by rw [← e1, ← h.1, Bool.true_bne]) (by rw [h.2, e2])
    · have h := ediv_neg' y h0 hn hr
      rw [decide_eq_true hn]
      exact divide_odd _ _ _ hp hr hx hy c1 c2 d1 d2 w hB (by rw [← e1, ← h.1, Bool.true_bne]) (by rw [h.2, e2])
  · have h := ediv_pos y h0 hn
    rw [decide_eq_false hn] at h ⊢
    exact divide_pos _ _ _ hp hx hy c1 c2 d1 d2 w hB (by rw [← e1, ← h.1, Bool.false_bne]) (by rw [h.2, e2])

end Go.Proofs.YtbnbaokamccmjaaGreatDoor
