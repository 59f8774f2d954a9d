/- integer: the functions on texts. -/
import Derived.Test.YtbnbaokamccmjaaGreatDoorIa5
set_option linter.unusedVariables false
set_option linter.unusedSimpArgs false
namespace Go.Proofs.YtbnbaokamccmjaaGreatDoor
open Go Go.RowKit

theorem itx_size (z : Int) : (itx z).size ≤ dg z.natAbs + 1 := by
  have h1 : (dec z.natAbs).data.toList.length = dg z.natAbs := toList_length _
  rw [itx_dec]
  split
  · rw [← toList_length]
    simp
    rw [dg_def]
    omega
  · rw [dg_def]; omega
theorem dg_sgn (z : Int) : dg z.natAbs ≤ (itx z).size := by
  have h1 : (dec z.natAbs).data.toList.length = dg z.natAbs := toList_length _
  rw [itx_dec]
  split
  · rw [← toList_length]
    simp
    rw [dg_def]
    omega
  · rw [dg_def]; omega

set_option maxHeartbeats 1000000 in
theorem iSign_walk (x : Int) (hx : dg x.natAbs ≤ 50000000) (w : World) :
    Calls Tryz.prog 125 #[.string (itx x)] w fun e w' => e = .returned (.tuple #[.int .i64 (sgn x), .int .i64 0]) ∧ Below w.heap.size w w' := by
  have H1 := Lib.hid (fun w => ione_walk x (by have := itx_size x; omega) w)
  have H2 := Lib.hid (fun w => sign_walk x w)
  clear hx
  generalize itx x = s at *
  generalize sgn x = g at *
  obtain ⟨b1, d1, e1⟩ := IV_shape x
  rw [e1] at H1 H2
  clear e1
  go_enter Tryz.func125, Tryz.ntmps125
  go_wp2_with fail
  refine (H1.out _).mono ?_
  rintro e w1 ⟨rfl, g1⟩
  have B1 : Below w.heap.size w w1 := bn (by repeat (first | exact br _ | assumption | refine ba ?_ | refine bd ?_ | refine below_drewN ?_ _ | refine bs ?_ (by (try simp) <;> omega))) g1
  clear g1
  go_wp2_with fail
  refine (H2.out _).mono ?_
  rintro e w2 ⟨rfl, g2⟩
  have B2 : Below w.heap.size w w2 := bn (by repeat (first | exact br _ | assumption | refine ba ?_ | refine bd ?_ | refine below_drewN ?_ _ | refine bs ?_ (by (try simp) <;> omega))) g2
  clear g2
  go_wp2
  go_ret2
  exact ⟨rfl, (by repeat (first | exact br _ | assumption | refine ba ?_ | refine bd ?_ | refine below_drewN ?_ _ | refine bs ?_ (by (try simp) <;> omega)))⟩
set_option maxHeartbeats 1000000 in
theorem iAbs_walk (x : Int) (hx : dg x.natAbs ≤ 50000000) (w : World) :
    Calls Tryz.prog 171 #[.string (itx x)] w fun e w' => e = .returned (.tuple #[.string (dec x.natAbs), .int .i64 0]) ∧ Below w.heap.size w w' := by
  have H1 := Lib.hid (fun w => ione_walk x (by have := itx_size x; omega) w)
  rw [IV_eq] at H1
  clear hx
  generalize itx x = s at *
  generalize decide (x < 0) = b1 at *
  generalize dec x.natAbs = d1 at *
  go_enter Tryz.func171, Tryz.ntmps171
  go_wp2_with fail
  refine (H1.out _).mono ?_
  rintro e w1 ⟨rfl, g1⟩
  have B1 : Below w.heap.size w w1 := bn (by repeat (first | exact br _ | assumption | refine ba ?_ | refine bd ?_ | refine below_drewN ?_ _ | refine bs ?_ (by (try simp) <;> omega))) g1
  clear g1
  go_wp2
  go_ret2
  exact ⟨rfl, (by repeat (first | exact br _ | assumption | refine ba ?_ | refine bd ?_ | refine below_drewN ?_ _ | refine bs ?_ (by (try simp) <;> omega)))⟩
set_option maxHeartbeats 1000000 in
theorem iNeg_walk (x : Int) (hx : dg x.natAbs ≤ 50000000) (w : World) :
    Calls Tryz.prog 202 #[.string (itx x)] w fun e w' => e = .returned (.tuple #[.string (itx (-x)), .int .i64 0]) ∧ Below w.heap.size w w' := by
  have H1 := Lib.hid (fun w => ione_walk x (by have := itx_size x; omega) w)
  have H2 := Lib.hid (fun w => opposite_walk x w)
  have H3 := Lib.hid (fun w => itext_walk (-x) (by have := dg_def (-x).natAbs; rw [Int.natAbs_neg] at *; omega) w)
  clear hx
  generalize itx x = s at *
  generalize itx (-x) = t at *
  obtain ⟨b1, d1, e1⟩ := IV_shape x
  obtain ⟨b2, d2, e2⟩ := IV_shape (-x)
  rw [e1] at H1 H2
  rw [e2] at H2 H3
  clear e1 e2
  go_enter Tryz.func202, Tryz.ntmps202
  go_wp2_with fail
  refine (H1.out _).mono ?_
  rintro e w1 ⟨rfl, g1⟩
  have B1 : Below w.heap.size w w1 := bn (by repeat (first | exact br _ | assumption | refine ba ?_ | refine bd ?_ | refine below_drewN ?_ _ | refine bs ?_ (by (try simp) <;> omega))) g1
  clear g1
  go_wp2_with fail
  refine (H2.out _).mono ?_
  rintro e w2 ⟨rfl, g2⟩
  have B2 : Below w.heap.size w w2 := bn (by repeat (first | exact br _ | assumption | refine ba ?_ | refine bd ?_ | refine below_drewN ?_ _ | refine bs ?_ (by (try simp) <;> omega))) g2
  clear g2
  go_wp2_with fail
  refine (H3.out _).mono ?_
  rintro e w3 ⟨rfl, g3⟩
  have B3 : Below w.heap.size w w3 := bn (by repeat (first | exact br _ | assumption | refine ba ?_ | refine bd ?_ | refine below_drewN ?_ _ | refine bs ?_ (by (try simp) <;> omega))) g3
  clear g3
  go_wp2
  go_ret2
  exact ⟨rfl, (by repeat (first | exact br _ | assumption | refine ba ?_ | refine bd ?_ | refine below_drewN ?_ _ | refine bs ?_ (by (try simp) <;> omega)))⟩
set_option maxHeartbeats 1000000 in
theorem iAdd_walk (x y : Int) (hx : dg x.natAbs ≤ 50000000) (hy : dg y.natAbs ≤ 50000000) (w : World) (hB : Bw w) :
    Calls Tryz.prog 200 #[.string (itx x), .string (itx y)] w fun e w' => e = .returned (.tuple #[.string (itx (x + y)), .int .i64 0]) ∧ Below w.heap.size w w' := by
  have hs : dg (x + y).natAbs ≤ 50000001 := by
    have := dg_add x.natAbs y.natAbs
    have := dg_mono (Int.natAbs_add_le x y)
    omega
  have H1 := Lib.hid (fun w => iboth_walk x y (by have := itx_size x; omega) (by have := itx_size y; omega) w)
  have H2 := Lib.hid (fun w hB => iplus_walk x y hx hy w hB)
  have H3 := Lib.hid (fun w => itext_walk (x + y) (by have := dg_def (x + y).natAbs; omega) w)
  clear hx hy hs
  generalize itx x = s at *
  generalize itx y = t at *
  generalize itx (x + y) = u at *
  obtain ⟨b1, d1, e1⟩ := IV_shape x
  obtain ⟨b2, d2, e2⟩ := IV_shape y
  obtain ⟨b3, d3, e3⟩ := IV_shape (x + y)
  rw [e1, e2] at H1 H2
  rw [e3] at H2 H3
  clear e1 e2 e3
  go_enter Tryz.func200, Tryz.ntmps200
  go_wp2_with fail
  refine (H1.out _).mono ?_
  rintro e w1 ⟨rfl, g1⟩
  have B1 : Below w.heap.size w w1 := bn (by repeat (first | exact br _ | assumption | refine ba ?_ | refine bd ?_ | refine below_drewN ?_ _ | refine bs ?_ (by (try simp) <;> omega))) g1
  clear g1
  go_wp2_with fail
  refine (H2.out _ (hB.below (by repeat (first | exact br _ | assumption | refine ba ?_ | refine bd ?_ | refine below_drewN ?_ _ | refine bs ?_ (by (try simp) <;> omega))))).mono ?_
  rintro e w2 ⟨rfl, g2⟩
  have B2 : Below w.heap.size w w2 := bn (by repeat (first | exact br _ | assumption | refine ba ?_ | refine bd ?_ | refine below_drewN ?_ _ | refine bs ?_ (by (try simp) <;> omega))) g2
  clear g2
  go_wp2_with fail
  refine (H3.out _).mono ?_
  rintro e w3 ⟨rfl, g3⟩
  have B3 : Below w.heap.size w w3 := bn (by repeat (first | exact br _ | assumption | refine ba ?_ | refine bd ?_ | refine below_drewN ?_ _ | refine bs ?_ (by (try simp) <;> omega))) g3
  clear g3
  go_wp2
  go_ret2
  exact ⟨rfl, (by repeat (first | exact br _ | assumption | refine ba ?_ | refine bd ?_ | refine below_drewN ?_ _ | refine bs ?_ (by (try simp) <;> omega)))⟩
set_option maxHeartbeats 1000000 in
theorem iMul_walk (x y : Int) (hx : dg x.natAbs ≤ 50000000) (hy : dg y.natAbs ≤ 50000000) (w : World) (hB : Bw w) :
    Calls Tryz.prog 94 #[.string (itx x), .string (itx y)] w fun e w' => e = .returned (.tuple #[.string (itx (x * y)), .int .i64 0]) ∧ Below w.heap.size w w' := by
  have hs : dg (x * y).natAbs ≤ 100000000 := by
    have := dg_mul x.natAbs y.natAbs
    rw [Int.natAbs_mul]
    omega
  have H1 := Lib.hid (fun w => iboth_walk x y (by have := itx_size x; omega) (by have := itx_size y; omega) w)
  have H2 := Lib.hid (fun w hB => itimes_walk x y hx hy w hB)
  have H3 := Lib.hid (fun w => itext_walk (x * y) (by have := dg_def (x * y).natAbs; omega) w)
  clear hx hy hs
  generalize itx x = s at *
  generalize itx y = t at *
  generalize itx (x * y) = u at *
  obtain ⟨b1, d1, e1⟩ := IV_shape x
  obtain ⟨b2, d2, e2⟩ := IV_shape y
  obtain ⟨b3, d3, e3⟩ := IV_shape (x * y)
  rw [e1, e2] at H1 H2
  rw [e3] at H2 H3
  clear e1 e2 e3
  go_enter Tryz.func94, Tryz.ntmps94
  go_wp2_with fail
  refine (H1.out _).mono ?_
  rintro e w1 ⟨rfl, g1⟩
  have B1 : Below w.heap.size w w1 := bn (by repeat (first | exact br _ | assumption | refine ba ?_ | refine bd ?_ | refine below_drewN ?_ _ | refine bs ?_ (by (try simp) <;> omega))) g1
  clear g1
  go_wp2_with fail
  refine (H2.out _ (hB.below (by repeat (first | exact br _ | assumption | refine ba ?_ | refine bd ?_ | refine below_drewN ?_ _ | refine bs ?_ (by (try simp) <;> omega))))).mono ?_
  rintro e w2 ⟨rfl, g2⟩
  have B2 : Below w.heap.size w w2 := bn (by repeat (first | exact br _ | assumption | refine ba ?_ | refine bd ?_ | refine below_drewN ?_ _ | refine bs ?_ (by (try simp) <;> omega))) g2
  clear g2
  go_wp2_with fail
  refine (H3.out _).mono ?_
  rintro e w3 ⟨rfl, g3⟩
  have B3 : Below w.heap.size w w3 := bn (by repeat (first | exact br _ | assumption | refine ba ?_ | refine bd ?_ | refine below_drewN ?_ _ | refine bs ?_ (by (try simp) <;> omega))) g3
  clear g3
  go_wp2
  go_ret2
  exact ⟨rfl, (by repeat (first | exact br _ | assumption | refine ba ?_ | refine bd ?_ | refine below_drewN ?_ _ | refine bs ?_ (by (try simp) <;> omega)))⟩

/-- Three-way comparison. -/
def icmp (x y : Int) : Int := sgn (x - y)
set_option maxHeartbeats 1000000 in
theorem iCompare_walk (x y : Int) (hx : dg x.natAbs ≤ 50000000) (hy : dg y.natAbs ≤ 50000000) (w : World) (hB : Bw w) :
    Calls Tryz.prog 95 #[.string (itx x), .string (itx y)] w fun e w' => e = .returned (.tuple #[.int .i64 (icmp x y), .int .i64 0]) ∧ Below w.heap.size w w' := by
  have H1 := Lib.hid (fun w => iboth_walk x y (by have := itx_size x; omega) (by have := itx_size y; omega) w)
  have H2 := Lib.hid (fun w => opposite_walk y w)
  have H3 := Lib.hid (fun w hB => iplus_walk x (-y) hx (by rw [Int.natAbs_neg]; exact hy) w hB)
  have H4 := Lib.hid (fun w => sign_walk (x + -y) w)
  unfold icmp
  rw [Int.sub_eq_add_neg]
  clear hx hy
  generalize itx x = s at *
  generalize itx y = t at *
  generalize sgn (x + -y) = u at *
  obtain ⟨b1, d1, e1⟩ := IV_shape x
  obtain ⟨b2, d2, e2⟩ := IV_shape y
  obtain ⟨b3, d3, e3⟩ := IV_shape (-y)
  obtain ⟨b4, d4, e4⟩ := IV_shape (x + -y)
  rw [e1, e2] at H1
  rw [e2, e3] at H2
  rw [e1, e3, e4] at H3
  rw [e4] at H4
  clear e1 e2 e3 e4
  go_enter Tryz.func95, Tryz.ntmps95
  go_wp2_with fail
  refine (H1.out _).mono ?_
  rintro e w1 ⟨rfl, g1⟩
  have B1 : Below w.heap.size w w1 := bn (by repeat (first | exact br _ | assumption | refine ba ?_ | refine bd ?_ | refine below_drewN ?_ _ | refine bs ?_ (by (try simp) <;> omega))) g1
  clear g1
  go_wp2
  go_region_held3 (fun w' => w'.cell? ⟨w1.heap.size, 0, none⟩ = some (.bool b1) ∧ w'.cell? ⟨w1.heap.size, 1, none⟩ = some (.string d1) ∧ w'.cell? ⟨w1.heap.size + 1, 0, none⟩ = some (.bool b2) ∧ w'.cell? ⟨w1.heap.size + 1, 1, none⟩ = some (.string d2) ∧ Below w.heap.size w w')
    ((go_split_ands; refine ⟨?_, ?_, ?_, ?_, ?_⟩ <;> first | (go_simp; done) | (exact bc g (by first | with_reducible assumption | go_simp)) | (exact bn (by repeat (first | exact br _ | assumption | refine ba ?_ | refine bd ?_ | refine below_drewN ?_ _ | refine bs ?_ (by (try simp) <;> omega))) g) | exact (by repeat (first | exact br _ | assumption | refine ba ?_ | refine bd ?_ | refine below_drewN ?_ _ | refine bs ?_ (by (try simp) <;> omega)))))
    (first | (go_at_call 130; refine (H2.out _).mono ?_; rintro e wo ⟨rfl, g⟩) | (go_at_call 129; refine (H3.out _ (hB.below (by go_split_ands; assumption))).mono ?_; rintro e wp ⟨rfl, g⟩) | (go_at_call 131; refine (H4.out _).mono ?_; rintro e wq ⟨rfl, g⟩))
  go_split_ands
  go_wp2
  go_ret2
  exact ⟨rfl, (by repeat (first | exact br _ | assumption | refine ba ?_ | refine bd ?_ | refine below_drewN ?_ _ | refine bs ?_ (by (try simp) <;> omega)))⟩
end Go.Proofs.YtbnbaokamccmjaaGreatDoor
