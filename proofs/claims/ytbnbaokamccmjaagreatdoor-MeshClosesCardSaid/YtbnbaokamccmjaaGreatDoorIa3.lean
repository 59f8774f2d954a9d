/- integer: plus. -/
import Derived.Laws.EntriesVeiled
import Derived.Test.YtbnbaokamccmjaaGreatDoorIa2
set_option linter.unusedVariables false
set_option linter.unusedSimpArgs false
namespace Go.Proofs.YtbnbaokamccmjaaGreatDoor
open Go Go.RowKit

set_option maxHeartbeats 1000000 in
theorem plus_truetrue (d1 d2 : ByteArray) (c' : Bool) (d' : ByteArray) (w : World) (hc : ∀ W, Below w.heap.size w W → Calls Tryz.prog 159 #[.agg #[.bool true, .string d1], .agg #[.bool true, .string d2]] W fun e W' => e = .returned (.agg #[.bool c', .string d']) ∧ Below W.heap.size W W') :
    Calls Tryz.prog 129 #[.agg #[.bool true, .string d1], .agg #[.bool true, .string d2]] w fun e w' => e = .returned (.agg #[.bool c', .string d']) ∧ Below w.heap.size w w' := by
  have HC := Lib.hid hc
  clear hc
  go_enter Tryz.func129, Tryz.ntmps129
  go_wp2
  go_region_held3 (fun w' => w'.cell? ⟨w.heap.size, 0, none⟩ = some (.bool true) ∧ w'.cell? ⟨w.heap.size, 1, none⟩ = some (.string d1) ∧ w'.cell? ⟨w.heap.size + 1, 0, none⟩ = some (.bool true) ∧ w'.cell? ⟨w.heap.size + 1, 1, none⟩ = some (.string d2) ∧ w'.cell? ⟨w.heap.size + 1 + 1 + 1, 3, none⟩ = some (.func (.func 159) #[] #[]))
    (refine ⟨?_, ?_, ?_, ?_, ?_⟩ <;> first | (go_simp; done) | (exact bc g1 (by go_simp)))
    (first | (go_at_call 161; refine (bit_walk _ _).mono ?_; rintro e w' ⟨rfl, rfl⟩) | (go_at_call 159; refine (HC.out _ (by repeat (first | exact br _ | assumption | refine ba ?_ | refine bd ?_ | refine below_drewN ?_ _ | refine bs ?_ (by (try simp) <;> omega)))).mono ?_; rintro e w1 ⟨rfl, g1⟩; have hz1 : w.heap.size + 2 < w1.heap.size := (by have := g1.size; (try simp at this); omega); have c1_2_0 : w1.cell? ⟨w.heap.size + 1 + 1, 0, none⟩ = some (.bool false) := bc g1 (by first | with_reducible assumption | go_simp); have f1_2_0 : w1.frozen? ⟨w.heap.size + 1 + 1, 0, none⟩ = false := bfz g1 (by (try simp) <;> omega) (by first | with_reducible assumption | go_simp); have c1_2_1 : w1.cell? ⟨w.heap.size + 1 + 1, 1, none⟩ = some (.string ⟨#[]⟩) := bc g1 (by first | with_reducible assumption | go_simp); have f1_2_1 : w1.frozen? ⟨w.heap.size + 1 + 1, 1, none⟩ = false := bfz g1 (by (try simp) <;> omega) (by first | with_reducible assumption | go_simp)))
  have B1 : Below w.heap.size w w1 := bn (by repeat (first | exact br _ | assumption | refine ba ?_ | refine bd ?_ | refine below_drewN ?_ _ | refine bs ?_ (by (try simp) <;> omega))) g1
  clear g1
  go_wp2
  refine bodyPost_ret (v := .agg #[.bool c', .string d']) (by simp [results, Tryz.results129, go_sem, *]) rfl ⟨(by first | rfl | rw [hI]), (by repeat (first | exact br _ | assumption | refine ba ?_ | refine bd ?_ | refine below_drewN ?_ _ | refine bs ?_ (by (try simp) <;> omega)))⟩
set_option maxHeartbeats 1000000 in
theorem plus_truefalse (d1 d2 : ByteArray) (c' : Bool) (d' : ByteArray) (w : World) (hc : ∀ W, Below w.heap.size w W → Calls Tryz.prog 160 #[.agg #[.bool true, .string d1], .agg #[.bool false, .string d2]] W fun e W' => e = .returned (.agg #[.bool c', .string d']) ∧ Below W.heap.size W W') :
    Calls Tryz.prog 129 #[.agg #[.bool true, .string d1], .agg #[.bool false, .string d2]] w fun e w' => e = .returned (.agg #[.bool c', .string d']) ∧ Below w.heap.size w w' := by
  have HC := Lib.hid hc
  clear hc
  go_enter Tryz.func129, Tryz.ntmps129
  go_wp2
  go_region_held3 (fun w' => w'.cell? ⟨w.heap.size, 0, none⟩ = some (.bool true) ∧ w'.cell? ⟨w.heap.size, 1, none⟩ = some (.string d1) ∧ w'.cell? ⟨w.heap.size + 1, 0, none⟩ = some (.bool false) ∧ w'.cell? ⟨w.heap.size + 1, 1, none⟩ = some (.string d2) ∧ w'.cell? ⟨w.heap.size + 1 + 1 + 1, 2, none⟩ = some (.func (.func 160) #[] #[]))
    (refine ⟨?_, ?_, ?_, ?_, ?_⟩ <;> first | (go_simp; done) | (exact bc g1 (by go_simp)))
    (first | (go_at_call 161; refine (bit_walk _ _).mono ?_; rintro e w' ⟨rfl, rfl⟩) | (go_at_call 160; refine (HC.out _ (by repeat (first | exact br _ | assumption | refine ba ?_ | refine bd ?_ | refine below_drewN ?_ _ | refine bs ?_ (by (try simp) <;> omega)))).mono ?_; rintro e w1 ⟨rfl, g1⟩; have hz1 : w.heap.size + 2 < w1.heap.size := (by have := g1.size; (try simp at this); omega); have c1_2_0 : w1.cell? ⟨w.heap.size + 1 + 1, 0, none⟩ = some (.bool false) := bc g1 (by first | with_reducible assumption | go_simp); have f1_2_0 : w1.frozen? ⟨w.heap.size + 1 + 1, 0, none⟩ = false := bfz g1 (by (try simp) <;> omega) (by first | with_reducible assumption | go_simp); have c1_2_1 : w1.cell? ⟨w.heap.size + 1 + 1, 1, none⟩ = some (.string ⟨#[]⟩) := bc g1 (by first | with_reducible assumption | go_simp); have f1_2_1 : w1.frozen? ⟨w.heap.size + 1 + 1, 1, none⟩ = false := bfz g1 (by (try simp) <;> omega) (by first | with_reducible assumption | go_simp)))
  have B1 : Below w.heap.size w w1 := bn (by repeat (first | exact br _ | assumption | refine ba ?_ | refine bd ?_ | refine below_drewN ?_ _ | refine bs ?_ (by (try simp) <;> omega))) g1
  clear g1
  go_wp2
  refine bodyPost_ret (v := .agg #[.bool c', .string d']) (by simp [results, Tryz.results129, go_sem, *]) rfl ⟨(by first | rfl | rw [hI]), (by repeat (first | exact br _ | assumption | refine ba ?_ | refine bd ?_ | refine below_drewN ?_ _ | refine bs ?_ (by (try simp) <;> omega)))⟩
set_option maxHeartbeats 1000000 in
theorem plus_falsetrue (d1 d2 : ByteArray) (c' : Bool) (d' : ByteArray) (w : World) (hc : ∀ W, Below w.heap.size w W → Calls Tryz.prog 160 #[.agg #[.bool false, .string d1], .agg #[.bool true, .string d2]] W fun e W' => e = .returned (.agg #[.bool c', .string d']) ∧ Below W.heap.size W W') :
    Calls Tryz.prog 129 #[.agg #[.bool false, .string d1], .agg #[.bool true, .string d2]] w fun e w' => e = .returned (.agg #[.bool c', .string d']) ∧ Below w.heap.size w w' := by
  have HC := Lib.hid hc
  clear hc
  go_enter Tryz.func129, Tryz.ntmps129
  go_wp2
  go_region_held3 (fun w' => w'.cell? ⟨w.heap.size, 0, none⟩ = some (.bool false) ∧ w'.cell? ⟨w.heap.size, 1, none⟩ = some (.string d1) ∧ w'.cell? ⟨w.heap.size + 1, 0, none⟩ = some (.bool true) ∧ w'.cell? ⟨w.heap.size + 1, 1, none⟩ = some (.string d2) ∧ w'.cell? ⟨w.heap.size + 1 + 1 + 1, 1, none⟩ = some (.func (.func 160) #[] #[]))
    (refine ⟨?_, ?_, ?_, ?_, ?_⟩ <;> first | (go_simp; done) | (exact bc g1 (by go_simp)))
    (first | (go_at_call 161; refine (bit_walk _ _).mono ?_; rintro e w' ⟨rfl, rfl⟩) | (go_at_call 160; refine (HC.out _ (by repeat (first | exact br _ | assumption | refine ba ?_ | refine bd ?_ | refine below_drewN ?_ _ | refine bs ?_ (by (try simp) <;> omega)))).mono ?_; rintro e w1 ⟨rfl, g1⟩; have hz1 : w.heap.size + 2 < w1.heap.size := (by have := g1.size; (try simp at this); omega); have c1_2_0 : w1.cell? ⟨w.heap.size + 1 + 1, 0, none⟩ = some (.bool false) := bc g1 (by first | with_reducible assumption | go_simp); have f1_2_0 : w1.frozen? ⟨w.heap.size + 1 + 1, 0, none⟩ = false := bfz g1 (by (try simp) <;> omega) (by first | with_reducible assumption | go_simp); have c1_2_1 : w1.cell? ⟨w.heap.size + 1 + 1, 1, none⟩ = some (.string ⟨#[]⟩) := bc g1 (by first | with_reducible assumption | go_simp); have f1_2_1 : w1.frozen? ⟨w.heap.size + 1 + 1, 1, none⟩ = false := bfz g1 (by (try simp) <;> omega) (by first | with_reducible assumption | go_simp)))
  have B1 : Below w.heap.size w w1 := bn (by repeat (first | exact br _ | assumption | refine ba ?_ | refine bd ?_ | refine below_drewN ?_ _ | refine bs ?_ (by (try simp) <;> omega))) g1
  clear g1
  go_wp2
  refine bodyPost_ret (v := .agg #[.bool c', .string d']) (by simp [results, Tryz.results129, go_sem, *]) rfl ⟨(by first | rfl | rw [hI]), (by repeat (first | exact br _ | assumption | refine ba ?_ | refine bd ?_ | refine below_drewN ?_ _ | refine bs ?_ (by (try simp) <;> omega)))⟩
set_option maxHeartbeats 1000000 in
theorem plus_falsefalse (d1 d2 : ByteArray) (c' : Bool) (d' : ByteArray) (w : World) (hc : ∀ W, Below w.heap.size w W → Calls Tryz.prog 159 #[.agg #[.bool false, .string d1], .agg #[.bool false, .string d2]] W fun e W' => e = .returned (.agg #[.bool c', .string d']) ∧ Below W.heap.size W W') :
    Calls Tryz.prog 129 #[.agg #[.bool false, .string d1], .agg #[.bool false, .string d2]] w fun e w' => e = .returned (.agg #[.bool c', .string d']) ∧ Below w.heap.size w w' := by
  have HC := Lib.hid hc
  clear hc
  go_enter Tryz.func129, Tryz.ntmps129
  go_wp2
  go_region_held3 (fun w' => w'.cell? ⟨w.heap.size, 0, none⟩ = some (.bool false) ∧ w'.cell? ⟨w.heap.size, 1, none⟩ = some (.string d1) ∧ w'.cell? ⟨w.heap.size + 1, 0, none⟩ = some (.bool false) ∧ w'.cell? ⟨w.heap.size + 1, 1, none⟩ = some (.string d2) ∧ w'.cell? ⟨w.heap.size + 1 + 1 + 1, 0, none⟩ = some (.func (.func 159) #[] #[]))
    (refine ⟨?_, ?_, ?_, ?_, ?_⟩ <;> first | (go_simp; done) | (exact bc g1 (by go_simp)))
    (first | (go_at_call 161; refine (bit_walk _ _).mono ?_; rintro e w' ⟨rfl, rfl⟩) | (go_at_call 159; refine (HC.out _ (by repeat (first | exact br _ | assumption | refine ba ?_ | refine bd ?_ | refine below_drewN ?_ _ | refine bs ?_ (by (try simp) <;> omega)))).mono ?_; rintro e w1 ⟨rfl, g1⟩; have hz1 : w.heap.size + 2 < w1.heap.size := (by have := g1.size; (try simp at this); omega); have c1_2_0 : w1.cell? ⟨w.heap.size + 1 + 1, 0, none⟩ = some (.bool false) := bc g1 (by first | with_reducible assumption | go_simp); have f1_2_0 : w1.frozen? ⟨w.heap.size + 1 + 1, 0, none⟩ = false := bfz g1 (by (try simp) <;> omega) (by first | with_reducible assumption | go_simp); have c1_2_1 : w1.cell? ⟨w.heap.size + 1 + 1, 1, none⟩ = some (.string ⟨#[]⟩) := bc g1 (by first | with_reducible assumption | go_simp); have f1_2_1 : w1.frozen? ⟨w.heap.size + 1 + 1, 1, none⟩ = false := bfz g1 (by (try simp) <;> omega) (by first | with_reducible assumption | go_simp)))
  have B1 : Below w.heap.size w w1 := bn (by repeat (first | exact br _ | assumption | refine ba ?_ | refine bd ?_ | refine below_drewN ?_ _ | refine bs ?_ (by (try simp) <;> omega))) g1
  clear g1
  go_wp2
  refine bodyPost_ret (v := .agg #[.bool c', .string d']) (by simp [results, Tryz.results129, go_sem, *]) rfl ⟨(by first | rfl | rw [hI]), (by repeat (first | exact br _ | assumption | refine ba ?_ | refine bd ?_ | refine below_drewN ?_ _ | refine bs ?_ (by (try simp) <;> omega)))⟩

theorem sum_add (x y : Int) (h : decide (x < 0) = decide (y < 0)) : sgnI (decide (x < 0)) (x.natAbs + y.natAbs) = x + y := by
  unfold sgnI
  have h' := decide_eq_decide.1 h
  by_cases h1 : x < 0
  · rw [decide_eq_true h1, if_pos rfl]; omega
  · rw [decide_eq_false h1, if_neg (by decide)]; omega
theorem dif_less (x y : Int) (h : decide (x < 0) ≠ decide (y < 0)) (hlt : x.natAbs < y.natAbs) : sgnI (decide (y < 0)) (y.natAbs - x.natAbs) = x + y := by
  unfold sgnI
  have h' : ¬ (x < 0 ↔ y < 0) := fun e => h (decide_eq_decide.2 e)
  by_cases h1 : y < 0
  · rw [decide_eq_true h1, if_pos rfl]; omega
  · rw [decide_eq_false h1, if_neg (by decide)]; omega
theorem dif_more (x y : Int) (h : decide (x < 0) ≠ decide (y < 0)) (hlt : y.natAbs ≤ x.natAbs) : sgnI (decide (x < 0)) (x.natAbs - y.natAbs) = x + y := by
  unfold sgnI
  have h' : ¬ (x < 0 ↔ y < 0) := fun e => h (decide_eq_decide.2 e)
  by_cases h1 : x < 0
  · rw [decide_eq_true h1, if_pos rfl]; omega
  · rw [decide_eq_false h1, if_neg (by decide)]; omega

/-- What the two inner functions return, of either sign. -/
theorem inner_sum (x y : Int) (h : decide (x < 0) = decide (y < 0)) (hx : dg x.natAbs ≤ 50000000) (hy : dg y.natAbs ≤ 50000000) (w : World) (hB : Bw w) :
    Calls Tryz.prog 159 #[IV x, IV y] w fun e W' => e = .returned (IV (x + y)) ∧ Below w.heap.size w W' := by
  have := sum_walk x y hx hy w hB
  rwa [sum_add x y h] at this
theorem inner_dif (x y : Int) (h : decide (x < 0) ≠ decide (y < 0)) (hx : dg x.natAbs ≤ 50000000) (hy : dg y.natAbs ≤ 50000000) (w : World) (hB : Bw w) :
    Calls Tryz.prog 160 #[IV x, IV y] w fun e W' => e = .returned (IV (x + y)) ∧ Below w.heap.size w W' := by
  rw [IV_eq x, IV_eq y]
  rcases Nat.lt_or_ge x.natAbs y.natAbs with hlt | hlt
  · have := difference_less (decide (x < 0)) (decide (y < 0)) x.natAbs y.natAbs hlt hx hy w hB
    rwa [dif_less x y h hlt] at this
  · have := difference_more (decide (x < 0)) (decide (y < 0)) x.natAbs y.natAbs hlt hx hy w hB
    rwa [dif_more x y h hlt] at this
theorem iplus_walk (x y : Int) (hx : dg x.natAbs ≤ 50000000) (hy : dg y.natAbs ≤ 50000000) (w : World) (hB : Bw w) :
    Calls Tryz.prog 129 #[IV x, IV y] w fun e w' => e = .returned (IV (x + y)) ∧ Below w.heap.size w w' := by
  have hs := fun h W hW => inner_sum x y h hx hy W (hB.below hW)
  have hd := fun h W hW => inner_dif x y h hx hy W (hB.below hW)
  clear hx hy hB
  rw [IV_eq x, IV_eq y] at *
  rw [IV_eq (x + y)] at *
  generalize decide (x < 0) = b at *
  generalize decide (y < 0) = c at *
  cases b <;> cases c
  · exact plus_falsefalse _ _ _ _ w fun W hW => hs rfl W hW
  · exact plus_falsetrue _ _ _ _ w fun W hW => hd (by decide) W hW
  · exact plus_truefalse _ _ _ _ w fun W hW => hd (by decide) W hW
  · exact plus_truetrue _ _ _ _ w fun W hW => hs rfl W hW
end Go.Proofs.YtbnbaokamccmjaaGreatDoor
