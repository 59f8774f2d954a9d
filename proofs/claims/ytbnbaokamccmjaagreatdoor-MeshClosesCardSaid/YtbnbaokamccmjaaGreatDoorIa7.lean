/- integer: DivMod on texts. -/
import Derived.Test.YtbnbaokamccmjaaGreatDoorIa6
set_option linter.unusedVariables false
set_option linter.unusedSimpArgs false
namespace Go.Proofs.YtbnbaokamccmjaaGreatDoor
open Go Go.RowKit

set_option maxHeartbeats 1000000 in
theorem iDivMod_walk (x y : Int) (h0 : y ≠ 0) (hx : dg x.natAbs ≤ 50000000) (hy : dg y.natAbs ≤ 50000000) (w : World) (hB : Bw w) :
    Calls Tryz.prog 222 #[.string (itx x), .string (itx y)] w fun e w' => e = .returned (.tuple #[.string (itx (x / y)), .string (itx (x % y)), .int .i64 0]) ∧ Below w.heap.size w w' := by
  have hq : dg (x / y).natAbs ≤ 50000000 := Nat.le_trans (dg_mono (Int.natAbs_ediv_le_natAbs _ _)) hx
  have hr : dg (x % y).natAbs ≤ 50000000 := by
    refine Nat.le_trans (dg_mono ?_) hy
    have h1 := Int.emod_nonneg x h0
    have h2 := Int.emod_lt x h0
    omega
  have H1 := Lib.hid (fun w => iboth_walk x y (by have := itx_size x; omega) (by have := itx_size y; omega) w)
  have H2 := Lib.hid (fun w hB => idivide_walk x y h0 hx hy w hB)
  have H3 := Lib.hid (fun w => itext_walk (x / y) (by have := dg_def (x / y).natAbs; omega) w)
  have H4 := Lib.hid (fun w => itext_walk (x % y) (by have := dg_def (x % y).natAbs; omega) w)
  have hd : ((dec y.natAbs).toList == [48]) = false := by
    rw [dec_ne]
    exact decide_eq_false (by omega)
  rw [IV_eq y] at H1 H2
  clear hx hy hq hr h0
  generalize itx x = s at *
  generalize itx y = t at *
  generalize itx (x / y) = u at *
  generalize itx (x % y) = v at *
  obtain ⟨b1, d1, e1⟩ := IV_shape x
  obtain ⟨b3, d3, e3⟩ := IV_shape (x / y)
  obtain ⟨b4, d4, e4⟩ := IV_shape (x % y)
  rw [e1] at H1 H2
  rw [e3] at H2 H3
  rw [e4] at H2 H4
  clear e1 e3 e4
  generalize decide (y < 0) = b2 at *
  generalize dec y.natAbs = d2 at *
  have heq := eql_number
  go_enter Tryz.func222, Tryz.ntmps222
  go_wp2_with fail
  refine (H1.out _).mono ?_
  rintro e w1 ⟨rfl, g1⟩
  have B1 : Below w.heap.size w w1 := bn (by repeat (first | exact br _ | assumption | refine ba ?_ | refine bd ?_ | refine below_drewN ?_ _ | refine bs ?_ (by (try simp) <;> omega))) g1
  clear g1
  go_wp2
  go_region_held3 (fun w' => w'.cell? ⟨w1.heap.size, 0, none⟩ = some (.bool b1) ∧ w'.cell? ⟨w1.heap.size, 1, none⟩ = some (.string d1) ∧ w'.cell? ⟨w1.heap.size + 1, 0, none⟩ = some (.bool b2) ∧ w'.cell? ⟨w1.heap.size + 1, 1, none⟩ = some (.string d2) ∧ Below w.heap.size w w')
    ((go_split_ands; refine ⟨?_, ?_, ?_, ?_, ?_⟩ <;> first | (go_simp; done) | (exact bc g (by first | with_reducible assumption | go_simp)) | (exact bn (by repeat (first | exact br _ | assumption | refine ba ?_ | refine bd ?_ | refine below_drewN ?_ _ | refine bs ?_ (by (try simp) <;> omega))) g) | exact (by repeat (first | exact br _ | assumption | refine ba ?_ | refine bd ?_ | refine below_drewN ?_ _ | refine bs ?_ (by (try simp) <;> omega)))))
    (first | (go_at_call 156; refine (zero_lit _).mono ?_; rintro e wz ⟨rfl, g⟩))
  have B2 : Below w.heap.size w wz := bn (by repeat (first | exact br _ | assumption | refine ba ?_ | refine bd ?_ | refine below_drewN ?_ _ | refine bs ?_ (by (try simp) <;> omega))) g
  have k1 := bc (b := w1.heap.size) (o := 0) (v := .bool b1) g (by go_simp)
  have k2 := bc (b := w1.heap.size) (o := 1) (v := .string d1) g (by go_simp)
  have k3 := bc (b := w1.heap.size + 1) (o := 0) (v := .bool b2) g (by go_simp)
  have k4 := bc (b := w1.heap.size + 1) (o := 1) (v := .string d2) g (by go_simp)
  clear g heq
  go_wp2_with fail
  refine (H2.out _ (hB.below B2)).mono ?_
  rintro e w2 ⟨rfl, g2⟩
  have B3 : Below w.heap.size w w2 := bn B2 g2
  clear g2 B2
  go_wp2
  go_region_held3 (fun w' => w'.cell? ⟨w2.heap.size, 0, none⟩ = some (.bool b3) ∧ w'.cell? ⟨w2.heap.size, 1, none⟩ = some (.string d3) ∧ w'.cell? ⟨w2.heap.size + 1, 0, none⟩ = some (.bool b4) ∧ w'.cell? ⟨w2.heap.size + 1, 1, none⟩ = some (.string d4) ∧ Below w.heap.size w w')
    ((go_split_ands; refine ⟨?_, ?_, ?_, ?_, ?_⟩ <;> first | (go_simp; done) | (exact bc g (by first | with_reducible assumption | go_simp)) | (exact bn (by repeat (first | exact br _ | assumption | refine ba ?_ | refine bd ?_ | refine below_drewN ?_ _ | refine bs ?_ (by (try simp) <;> omega))) g) | exact (by repeat (first | exact br _ | assumption | refine ba ?_ | refine bd ?_ | refine below_drewN ?_ _ | refine bs ?_ (by (try simp) <;> omega)))))
    (first | (go_at_call_of 128 (Value.agg #[.bool b3, .string d3]); refine (H3.out _).mono ?_; rintro e wx ⟨rfl, g⟩) | (go_at_call_of 128 (Value.agg #[.bool b4, .string d4]); refine (H4.out _).mono ?_; rintro e wx ⟨rfl, g⟩))
  all_goals
    go_split_ands
    go_wp2
    go_ret3
    exact ⟨rfl, (by repeat (first | exact br _ | assumption | refine ba ?_ | refine bd ?_ | refine below_drewN ?_ _ | refine bs ?_ (by (try simp) <;> omega)))⟩
end Go.Proofs.YtbnbaokamccmjaaGreatDoor
