/- rational: the operations' closures; apply, Add, Sub, Mul. -/
import Derived.Test.YtbnbaokamccmjaaGreatDoorQa5
set_option linter.unusedVariables false
set_option linter.unusedSimpArgs false
namespace Go.Proofs.YtbnbaokamccmjaaGreatDoor
open Go Go.RowKit

theorem all_some (w : World) :
    Calls Tryz.prog 132 #[] w (Ret fun v w' => (∃ b, v = .map (some b) ∧ w'.heap[b]? = some opsMap) ∧ Below w.heap.size w w') := by
  refine (all_walk w).mono ?_
  rintro e w' ⟨rfl, rfl⟩
  exact ⟨_, rfl, ⟨_, rfl, heap_new _ _⟩, ba (br w)⟩

set_option maxHeartbeats 1000000 in
theorem rminus_walk (x y : Rat) (hx : rz x ≤ 20000000) (hy : rz y ≤ 20000000) (w : World) (hB : Bw w) :
    Calls Tryz.prog 183 #[FV x, FV y] w fun e w' => e = .returned (FV (x - y)) ∧ Below w.heap.size w w' := by
  have H1 := Lib.hid (fun w => ropposite_walk y (by omega) w)
  have H2 := Lib.hid (fun w hB => rplus_walk x (-y) hx (by rw [rz_neg]; exact hy) w hB)
  rw [← Rat.sub_eq_add_neg] at H2
  obtain ⟨s1, t1, e1⟩ := FV_shape x
  obtain ⟨s2, t2, e2⟩ := FV_shape y
  obtain ⟨s3, t3, e3⟩ := FV_shape (-y)
  obtain ⟨s4, t4, e4⟩ := FV_shape (x - y)
  rw [e1, e3, e4] at H2
  rw [e2, e3] at H1
  rw [e1, e2, e4]
  clear e1 e2 e3 e4 hx hy
  go_enter Tryz.func183, Tryz.ntmps183
  go_wp2
  go_region_held3 (fun w' => w'.cell? ⟨w.heap.size, 0, none⟩ = some (.string s1) ∧ w'.cell? ⟨w.heap.size, 1, none⟩ = some (.string t1) ∧ w'.cell? ⟨w.heap.size + 1, 0, none⟩ = some (.string s2) ∧ w'.cell? ⟨w.heap.size + 1, 1, none⟩ = some (.string t2) ∧ Below w.heap.size w w')
    ((go_split_ands; refine ⟨?_, ?_, ?_, ?_, ?_⟩ <;> first | (go_simp; done) | (exact bc g1 (by first | with_reducible assumption | go_simp)) | (exact bn (by repeat (first | exact br _ | assumption | refine ba ?_ | refine bd ?_ | refine below_drewN ?_ _ | refine bs ?_ (by (try simp) <;> omega))) g1) | exact (by repeat (first | exact br _ | assumption | refine ba ?_ | refine bd ?_ | refine below_drewN ?_ _ | refine bs ?_ (by (try simp) <;> omega)))))
    (first | (go_at_call 184; refine (H1.out _).mono ?_; rintro e w1 ⟨rfl, g1⟩; have hz1 : w.heap.size + 2 < w1.heap.size := (by have := g1.size; (try simp at this); omega); have c1_2_0 : w1.cell? ⟨w.heap.size + 1 + 1, 0, none⟩ = some (.string ⟨#[]⟩) := bc g1 (by first | with_reducible assumption | go_simp); have f1_2_0 : w1.frozen? ⟨w.heap.size + 1 + 1, 0, none⟩ = false := bfz g1 (by (try simp) <;> omega) (by first | with_reducible assumption | go_simp); have c1_2_1 : w1.cell? ⟨w.heap.size + 1 + 1, 1, none⟩ = some (.string ⟨#[]⟩) := bc g1 (by first | with_reducible assumption | go_simp); have f1_2_1 : w1.frozen? ⟨w.heap.size + 1 + 1, 1, none⟩ = false := bfz g1 (by (try simp) <;> omega) (by first | with_reducible assumption | go_simp)) | (go_at_call 181; refine (H2.out _ (hB.below (by go_split_ands; assumption))).mono ?_; rintro e w1 ⟨rfl, g1⟩; have hz1 : w.heap.size + 2 < w1.heap.size := (by have := g1.size; (try simp at this); omega); have c1_2_0 : w1.cell? ⟨w.heap.size + 1 + 1, 0, none⟩ = some (.string ⟨#[]⟩) := bc g1 (by first | with_reducible assumption | go_simp); have f1_2_0 : w1.frozen? ⟨w.heap.size + 1 + 1, 0, none⟩ = false := bfz g1 (by (try simp) <;> omega) (by first | with_reducible assumption | go_simp); have c1_2_1 : w1.cell? ⟨w.heap.size + 1 + 1, 1, none⟩ = some (.string ⟨#[]⟩) := bc g1 (by first | with_reducible assumption | go_simp); have f1_2_1 : w1.frozen? ⟨w.heap.size + 1 + 1, 1, none⟩ = false := bfz g1 (by (try simp) <;> omega) (by first | with_reducible assumption | go_simp)))
  go_split_ands
  go_wp2
  refine bodyPost_ret (v := .agg #[.string s4, .string t4]) (by simp [results, Tryz.results183, go_sem, *]) rfl ⟨(by first | rfl | rw [hI]), (by repeat (first | exact br _ | assumption | refine ba ?_ | refine bd ?_ | refine below_drewN ?_ _ | refine bs ?_ (by (try simp) <;> omega)))⟩

set_option maxHeartbeats 1000000 in
theorem apply_43 (x y r : Rat) (hx : rz x ≤ 10000000) (hy : rz y ≤ 10000000) (hr : rz r ≤ 50000000)
    (hc : ∀ w, Bw w → Calls Tryz.prog 181 #[FV x, FV y] w fun e w' => e = .returned (FV r) ∧ Below w.heap.size w w') (w : World) (hB : Bw w) :
    Calls Tryz.prog 96 #[.int .u8 43, .string (rtx x), .string (rtx y)] w fun e w' => e = .returned (.tuple #[.string (rtx r), .int .i64 0]) ∧ Below w.heap.size w w' := by
  have H1 := Lib.hid (fun w hB => rboth_walk x y hx hy w hB)
  have H2 := Lib.hid hc
  have H3 := Lib.hid (fun w => rtext_walk r hr w)
  obtain ⟨s1, t1, e1⟩ := FV_shape x
  obtain ⟨s3, t3, e3⟩ := FV_shape r
  obtain ⟨s2, t2, e2⟩ := FV_shape y
  rw [e1, e2] at H1
  rw [e1, e2, e3] at H2
  rw [e3] at H3
  clear e1 e3 hx hy hr hc e2
  generalize rtx x = xs at *
  generalize rtx y = ys at *
  generalize rtx r = rs at *
  have HL := Lib.hid (fun W b hb => look_op W b 43 (.func (.func 181) #[] #[]) 0 hb (by rfl))
  go_enter Tryz.func96, Tryz.ntmps96
  go_wp2_with fail
  refine (H1.out _ (hB.below (by repeat (first | exact br _ | assumption | refine ba ?_ | refine bd ?_ | refine below_drewN ?_ _ | refine bs ?_ (by (try simp) <;> omega))))).mono ?_
  rintro e w1 ⟨rfl, g1⟩
  have B1 : Below w.heap.size w w1 := bn (by repeat (first | exact br _ | assumption | refine ba ?_ | refine bd ?_ | refine below_drewN ?_ _ | refine bs ?_ (by (try simp) <;> omega))) g1
  clear g1
  go_wp2
  go_region_held3 (fun w' => w'.cell? ⟨w1.heap.size, 0, none⟩ = some (.string s1) ∧ w'.cell? ⟨w1.heap.size, 1, none⟩ = some (.string t1) ∧ w'.cell? ⟨w1.heap.size + 1, 0, none⟩ = some (.string s2) ∧ w'.cell? ⟨w1.heap.size + 1, 1, none⟩ = some (.string t2) ∧ Below w.heap.size w w')
    ((go_split_ands; refine ⟨?_, ?_, ?_, ?_, ?_⟩ <;> first | (go_simp; done) | (exact bc g2 (by first | with_reducible assumption | go_simp)) | (exact bn (by repeat (first | exact br _ | assumption | refine ba ?_ | refine bd ?_ | refine below_drewN ?_ _ | refine bs ?_ (by (try simp) <;> omega))) g2) | exact (by repeat (first | exact br _ | assumption | refine ba ?_ | refine bd ?_ | refine below_drewN ?_ _ | refine bs ?_ (by (try simp) <;> omega)))))
    (first | (go_at_call 132; refine (all_some _).mono ?_; rintro e w2 ⟨_, rfl, ⟨b, rfl, hb⟩, g2⟩; have hlk := HL.out w2 b hb; clear hb) | (go_at_call 181; refine (H2.out _ (hB.below (by go_split_ands; assumption))).mono ?_; rintro e w2 ⟨rfl, g2⟩) | (go_at_call 133; refine (H3.out _).mono ?_; rintro e w2 ⟨rfl, g2⟩))
  go_split_ands
  go_wp2
  go_ret2
  exact ⟨rfl, (by repeat (first | exact br _ | assumption | refine ba ?_ | refine bd ?_ | refine below_drewN ?_ _ | refine bs ?_ (by (try simp) <;> omega)))⟩

set_option maxHeartbeats 1000000 in
theorem apply_42 (x y r : Rat) (hx : rz x ≤ 10000000) (hy : rz y ≤ 10000000) (hr : rz r ≤ 50000000)
    (hc : ∀ w, Bw w → Calls Tryz.prog 182 #[FV x, FV y] w fun e w' => e = .returned (FV r) ∧ Below w.heap.size w w') (w : World) (hB : Bw w) :
    Calls Tryz.prog 96 #[.int .u8 42, .string (rtx x), .string (rtx y)] w fun e w' => e = .returned (.tuple #[.string (rtx r), .int .i64 0]) ∧ Below w.heap.size w w' := by
  have H1 := Lib.hid (fun w hB => rboth_walk x y hx hy w hB)
  have H2 := Lib.hid hc
  have H3 := Lib.hid (fun w => rtext_walk r hr w)
  obtain ⟨s1, t1, e1⟩ := FV_shape x
  obtain ⟨s3, t3, e3⟩ := FV_shape r
  obtain ⟨s2, t2, e2⟩ := FV_shape y
  rw [e1, e2] at H1
  rw [e1, e2, e3] at H2
  rw [e3] at H3
  clear e1 e3 hx hy hr hc e2
  generalize rtx x = xs at *
  generalize rtx y = ys at *
  generalize rtx r = rs at *
  have HL := Lib.hid (fun W b hb => look_op W b 42 (.func (.func 182) #[] #[]) 1 hb (by rfl))
  go_enter Tryz.func96, Tryz.ntmps96
  go_wp2_with fail
  refine (H1.out _ (hB.below (by repeat (first | exact br _ | assumption | refine ba ?_ | refine bd ?_ | refine below_drewN ?_ _ | refine bs ?_ (by (try simp) <;> omega))))).mono ?_
  rintro e w1 ⟨rfl, g1⟩
  have B1 : Below w.heap.size w w1 := bn (by repeat (first | exact br _ | assumption | refine ba ?_ | refine bd ?_ | refine below_drewN ?_ _ | refine bs ?_ (by (try simp) <;> omega))) g1
  clear g1
  go_wp2
  go_region_held3 (fun w' => w'.cell? ⟨w1.heap.size, 0, none⟩ = some (.string s1) ∧ w'.cell? ⟨w1.heap.size, 1, none⟩ = some (.string t1) ∧ w'.cell? ⟨w1.heap.size + 1, 0, none⟩ = some (.string s2) ∧ w'.cell? ⟨w1.heap.size + 1, 1, none⟩ = some (.string t2) ∧ Below w.heap.size w w')
    ((go_split_ands; refine ⟨?_, ?_, ?_, ?_, ?_⟩ <;> first | (go_simp; done) | (exact bc g2 (by first | with_reducible assumption | go_simp)) | (exact bn (by repeat (first | exact br _ | assumption | refine ba ?_ | refine bd ?_ | refine below_drewN ?_ _ | refine bs ?_ (by (try simp) <;> omega))) g2) | exact (by repeat (first | exact br _ | assumption | refine ba ?_ | refine bd ?_ | refine below_drewN ?_ _ | refine bs ?_ (by (try simp) <;> omega)))))
    (first | (go_at_call 132; refine (all_some _).mono ?_; rintro e w2 ⟨_, rfl, ⟨b, rfl, hb⟩, g2⟩; have hlk := HL.out w2 b hb; clear hb) | (go_at_call 182; refine (H2.out _ (hB.below (by go_split_ands; assumption))).mono ?_; rintro e w2 ⟨rfl, g2⟩) | (go_at_call 133; refine (H3.out _).mono ?_; rintro e w2 ⟨rfl, g2⟩))
  go_split_ands
  go_wp2
  go_ret2
  exact ⟨rfl, (by repeat (first | exact br _ | assumption | refine ba ?_ | refine bd ?_ | refine below_drewN ?_ _ | refine bs ?_ (by (try simp) <;> omega)))⟩

set_option maxHeartbeats 1000000 in
theorem apply_45 (x y r : Rat) (hx : rz x ≤ 10000000) (hy : rz y ≤ 10000000) (hr : rz r ≤ 50000000)
    (hc : ∀ w, Bw w → Calls Tryz.prog 183 #[FV x, FV y] w fun e w' => e = .returned (FV r) ∧ Below w.heap.size w w') (w : World) (hB : Bw w) :
    Calls Tryz.prog 96 #[.int .u8 45, .string (rtx x), .string (rtx y)] w fun e w' => e = .returned (.tuple #[.string (rtx r), .int .i64 0]) ∧ Below w.heap.size w w' := by
  have H1 := Lib.hid (fun w hB => rboth_walk x y hx hy w hB)
  have H2 := Lib.hid hc
  have H3 := Lib.hid (fun w => rtext_walk r hr w)
  obtain ⟨s1, t1, e1⟩ := FV_shape x
  obtain ⟨s3, t3, e3⟩ := FV_shape r
  obtain ⟨s2, t2, e2⟩ := FV_shape y
  rw [e1, e2] at H1
  rw [e1, e2, e3] at H2
  rw [e3] at H3
  clear e1 e3 hx hy hr hc e2
  generalize rtx x = xs at *
  generalize rtx y = ys at *
  generalize rtx r = rs at *
  have HL := Lib.hid (fun W b hb => look_op W b 45 (.func (.func 183) #[] #[]) 2 hb (by rfl))
  go_enter Tryz.func96, Tryz.ntmps96
  go_wp2_with fail
  refine (H1.out _ (hB.below (by repeat (first | exact br _ | assumption | refine ba ?_ | refine bd ?_ | refine below_drewN ?_ _ | refine bs ?_ (by (try simp) <;> omega))))).mono ?_
  rintro e w1 ⟨rfl, g1⟩
  have B1 : Below w.heap.size w w1 := bn (by repeat (first | exact br _ | assumption | refine ba ?_ | refine bd ?_ | refine below_drewN ?_ _ | refine bs ?_ (by (try simp) <;> omega))) g1
  clear g1
  go_wp2
  go_region_held3 (fun w' => w'.cell? ⟨w1.heap.size, 0, none⟩ = some (.string s1) ∧ w'.cell? ⟨w1.heap.size, 1, none⟩ = some (.string t1) ∧ w'.cell? ⟨w1.heap.size + 1, 0, none⟩ = some (.string s2) ∧ w'.cell? ⟨w1.heap.size + 1, 1, none⟩ = some (.string t2) ∧ Below w.heap.size w w')
    ((go_split_ands; refine ⟨?_, ?_, ?_, ?_, ?_⟩ <;> first | (go_simp; done) | (exact bc g2 (by first | with_reducible assumption | go_simp)) | (exact bn (by repeat (first | exact br _ | assumption | refine ba ?_ | refine bd ?_ | refine below_drewN ?_ _ | refine bs ?_ (by (try simp) <;> omega))) g2) | exact (by repeat (first | exact br _ | assumption | refine ba ?_ | refine bd ?_ | refine below_drewN ?_ _ | refine bs ?_ (by (try simp) <;> omega)))))
    (first | (go_at_call 132; refine (all_some _).mono ?_; rintro e w2 ⟨_, rfl, ⟨b, rfl, hb⟩, g2⟩; have hlk := HL.out w2 b hb; clear hb) | (go_at_call 183; refine (H2.out _ (hB.below (by go_split_ands; assumption))).mono ?_; rintro e w2 ⟨rfl, g2⟩) | (go_at_call 133; refine (H3.out _).mono ?_; rintro e w2 ⟨rfl, g2⟩))
  go_split_ands
  go_wp2
  go_ret2
  exact ⟨rfl, (by repeat (first | exact br _ | assumption | refine ba ?_ | refine bd ?_ | refine below_drewN ?_ _ | refine bs ?_ (by (try simp) <;> omega)))⟩

set_option maxHeartbeats 400000 in
theorem rAdd_walk (x y : Rat) (hx : rz x ≤ 10000000) (hy : rz y ≤ 10000000) (w : World) (hB : Bw w) :
    Calls Tryz.prog 153 #[.string (rtx x), .string (rtx y)] w fun e w' => e = .returned (.tuple #[.string (rtx (x + y)), .int .i64 0]) ∧ Below w.heap.size w w' := by
  have hr : rz (x + y) ≤ 50000000 := by have := rz_add x y; omega
  have H := Lib.hid (fun w hB => apply_43 x y (x + y) hx hy hr (fun w hB => rplus_walk x y (by omega) (by omega) w hB) w hB)
  clear hr hx hy
  generalize rtx x = xs at *
  generalize rtx y = ys at *
  generalize rtx (x + y) = rs at *
  go_enter Tryz.func153, Tryz.ntmps153
  go_wp2_with fail
  refine (H.out _ (hB.below (by repeat (first | exact br _ | assumption | refine ba ?_ | refine bd ?_ | refine below_drewN ?_ _ | refine bs ?_ (by (try simp) <;> omega))))).mono ?_
  rintro e w1 ⟨rfl, g1⟩
  have B1 : Below w.heap.size w w1 := bn (by repeat (first | exact br _ | assumption | refine ba ?_ | refine bd ?_ | refine below_drewN ?_ _ | refine bs ?_ (by (try simp) <;> omega))) g1
  clear g1
  go_wp2
  go_ret2
  exact ⟨rfl, (by repeat (first | exact br _ | assumption | refine ba ?_ | refine bd ?_ | refine below_drewN ?_ _ | refine bs ?_ (by (try simp) <;> omega)))⟩

set_option maxHeartbeats 400000 in
theorem rMul_walk (x y : Rat) (hx : rz x ≤ 10000000) (hy : rz y ≤ 10000000) (w : World) (hB : Bw w) :
    Calls Tryz.prog 151 #[.string (rtx x), .string (rtx y)] w fun e w' => e = .returned (.tuple #[.string (rtx (x * y)), .int .i64 0]) ∧ Below w.heap.size w w' := by
  have hr : rz (x * y) ≤ 50000000 := by have := rz_mul x y; omega
  have H := Lib.hid (fun w hB => apply_42 x y (x * y) hx hy hr (fun w hB => rtimes_walk x y (by omega) (by omega) w hB) w hB)
  clear hr hx hy
  generalize rtx x = xs at *
  generalize rtx y = ys at *
  generalize rtx (x * y) = rs at *
  go_enter Tryz.func151, Tryz.ntmps151
  go_wp2_with fail
  refine (H.out _ (hB.below (by repeat (first | exact br _ | assumption | refine ba ?_ | refine bd ?_ | refine below_drewN ?_ _ | refine bs ?_ (by (try simp) <;> omega))))).mono ?_
  rintro e w1 ⟨rfl, g1⟩
  have B1 : Below w.heap.size w w1 := bn (by repeat (first | exact br _ | assumption | refine ba ?_ | refine bd ?_ | refine below_drewN ?_ _ | refine bs ?_ (by (try simp) <;> omega))) g1
  clear g1
  go_wp2
  go_ret2
  exact ⟨rfl, (by repeat (first | exact br _ | assumption | refine ba ?_ | refine bd ?_ | refine below_drewN ?_ _ | refine bs ?_ (by (try simp) <;> omega)))⟩

set_option maxHeartbeats 400000 in
theorem rSub_walk (x y : Rat) (hx : rz x ≤ 10000000) (hy : rz y ≤ 10000000) (w : World) (hB : Bw w) :
    Calls Tryz.prog 60 #[.string (rtx x), .string (rtx y)] w fun e w' => e = .returned (.tuple #[.string (rtx (x - y)), .int .i64 0]) ∧ Below w.heap.size w w' := by
  have hr : rz (x - y) ≤ 50000000 := by have := rz_sub x y; omega
  have H := Lib.hid (fun w hB => apply_45 x y (x - y) hx hy hr (fun w hB => rminus_walk x y (by omega) (by omega) w hB) w hB)
  clear hr hx hy
  generalize rtx x = xs at *
  generalize rtx y = ys at *
  generalize rtx (x - y) = rs at *
  go_enter Tryz.func60, Tryz.ntmps60
  go_wp2_with fail
  refine (H.out _ (hB.below (by repeat (first | exact br _ | assumption | refine ba ?_ | refine bd ?_ | refine below_drewN ?_ _ | refine bs ?_ (by (try simp) <;> omega))))).mono ?_
  rintro e w1 ⟨rfl, g1⟩
  have B1 : Below w.heap.size w w1 := bn (by repeat (first | exact br _ | assumption | refine ba ?_ | refine bd ?_ | refine below_drewN ?_ _ | refine bs ?_ (by (try simp) <;> omega))) g1
  clear g1
  go_wp2
  go_ret2
  exact ⟨rfl, (by repeat (first | exact br _ | assumption | refine ba ?_ | refine bd ?_ | refine below_drewN ?_ _ | refine bs ?_ (by (try simp) <;> omega)))⟩
end Go.Proofs.YtbnbaokamccmjaaGreatDoor
