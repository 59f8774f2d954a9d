/- vector: the rational operations, coordinates, of. -/
import Derived.LoopN
import Derived.Test.YtbnbaokamccmjaaGreatDoorQa7
set_option linter.unusedVariables false
set_option linter.unusedSimpArgs false
namespace Go.Proofs.YtbnbaokamccmjaaGreatDoor
open Go Go.RowKit

theorem rtx_zero : rtx 0 = ⟨#[48]⟩ := by
  rw [rtx_def]
  exact (itx_eq_zero 0).2 rfl
theorem rz_zero : rz 0 = 1 := by decide +kernel
/-- The sign of a number. -/
def rsg (x : Rat) : Int := rcmp x 0

set_option maxHeartbeats 400000 in
theorem vadd_walk (x y : Rat) (hx : rz x ≤ 10000000) (hy : rz y ≤ 10000000) (w : World) (hB : Bw w) :
    Calls Tryz.prog 124 #[.string (rtx x), .string (rtx y)] w fun e w' => e = .returned (.string (rtx (x + y))) ∧ Below w.heap.size w w' := by
  have H := Lib.hid (fun w hB => rAdd_walk x y hx hy w hB)
  clear hx hy
  generalize rtx x = xs at *
  generalize rtx y = ys at *
  generalize rtx (x + y) = rs at *
  go_enter Tryz.func124, Tryz.ntmps124
  go_wp2_with fail
  refine (H.out _ (hB.below (by repeat (first | exact br _ | assumption | refine ba ?_ | refine bd ?_ | refine below_drewN ?_ _ | refine bs ?_ (by (try simp) <;> omega))))).mono ?_
  rintro e w1 ⟨rfl, g1⟩
  have B1 : Below w.heap.size w w1 := bn (by repeat (first | exact br _ | assumption | refine ba ?_ | refine bd ?_ | refine below_drewN ?_ _ | refine bs ?_ (by (try simp) <;> omega))) g1
  clear g1
  go_wp2
  go_ret
  exact ⟨rfl, (by repeat (first | exact br _ | assumption | refine ba ?_ | refine bd ?_ | refine below_drewN ?_ _ | refine bs ?_ (by (try simp) <;> omega)))⟩

set_option maxHeartbeats 400000 in
theorem vsub_walk (x y : Rat) (hx : rz x ≤ 10000000) (hy : rz y ≤ 10000000) (w : World) (hB : Bw w) :
    Calls Tryz.prog 108 #[.string (rtx x), .string (rtx y)] w fun e w' => e = .returned (.string (rtx (x - y))) ∧ Below w.heap.size w w' := by
  have H := Lib.hid (fun w hB => rSub_walk x y hx hy w hB)
  clear hx hy
  generalize rtx x = xs at *
  generalize rtx y = ys at *
  generalize rtx (x - y) = rs at *
  go_enter Tryz.func108, Tryz.ntmps108
  go_wp2_with fail
  refine (H.out _ (hB.below (by repeat (first | exact br _ | assumption | refine ba ?_ | refine bd ?_ | refine below_drewN ?_ _ | refine bs ?_ (by (try simp) <;> omega))))).mono ?_
  rintro e w1 ⟨rfl, g1⟩
  have B1 : Below w.heap.size w w1 := bn (by repeat (first | exact br _ | assumption | refine ba ?_ | refine bd ?_ | refine below_drewN ?_ _ | refine bs ?_ (by (try simp) <;> omega))) g1
  clear g1
  go_wp2
  go_ret
  exact ⟨rfl, (by repeat (first | exact br _ | assumption | refine ba ?_ | refine bd ?_ | refine below_drewN ?_ _ | refine bs ?_ (by (try simp) <;> omega)))⟩

set_option maxHeartbeats 400000 in
theorem vmul_walk (x y : Rat) (hx : rz x ≤ 10000000) (hy : rz y ≤ 10000000) (w : World) (hB : Bw w) :
    Calls Tryz.prog 114 #[.string (rtx x), .string (rtx y)] w fun e w' => e = .returned (.string (rtx (x * y))) ∧ Below w.heap.size w w' := by
  have H := Lib.hid (fun w hB => rMul_walk x y hx hy w hB)
  clear hx hy
  generalize rtx x = xs at *
  generalize rtx y = ys at *
  generalize rtx (x * y) = rs at *
  go_enter Tryz.func114, Tryz.ntmps114
  go_wp2_with fail
  refine (H.out _ (hB.below (by repeat (first | exact br _ | assumption | refine ba ?_ | refine bd ?_ | refine below_drewN ?_ _ | refine bs ?_ (by (try simp) <;> omega))))).mono ?_
  rintro e w1 ⟨rfl, g1⟩
  have B1 : Below w.heap.size w w1 := bn (by repeat (first | exact br _ | assumption | refine ba ?_ | refine bd ?_ | refine below_drewN ?_ _ | refine bs ?_ (by (try simp) <;> omega))) g1
  clear g1
  go_wp2
  go_ret
  exact ⟨rfl, (by repeat (first | exact br _ | assumption | refine ba ?_ | refine bd ?_ | refine below_drewN ?_ _ | refine bs ?_ (by (try simp) <;> omega)))⟩

set_option maxHeartbeats 400000 in
theorem vsign_walk (x : Rat) (hx : rz x ≤ 10000000) (w : World) (hB : Bw w) :
    Calls Tryz.prog 111 #[.string (rtx x)] w fun e w' => e = .returned (.int .i64 (rsg x)) ∧ Below w.heap.size w w' := by
  have H := Lib.hid (fun w hB => rCompare_walk x 0 hx (by rw [rz_zero]; omega) w hB)
  rw [rtx_zero] at H
  unfold rsg
  clear hx
  generalize rtx x = xs at *
  generalize rcmp x 0 = rs at *
  go_enter Tryz.func111, Tryz.ntmps111
  go_wp2_with fail
  refine (H.out _ (hB.below (by repeat (first | exact br _ | assumption | refine ba ?_ | refine bd ?_ | refine below_drewN ?_ _ | refine bs ?_ (by (try simp) <;> omega))))).mono ?_
  rintro e w1 ⟨rfl, g1⟩
  have B1 : Below w.heap.size w w1 := bn (by repeat (first | exact br _ | assumption | refine ba ?_ | refine bd ?_ | refine below_drewN ?_ _ | refine bs ?_ (by (try simp) <;> omega))) g1
  clear g1
  go_wp2
  go_ret
  exact ⟨rfl, (by repeat (first | exact br _ | assumption | refine ba ?_ | refine bd ?_ | refine below_drewN ?_ _ | refine bs ?_ (by (try simp) <;> omega)))⟩

set_option maxHeartbeats 400000 in
theorem coord_walk (a b c : ByteArray) (w : World) :
    Calls Tryz.prog 77 #[.agg #[.string a, .string b, .string c]] w fun e w' => e = .returned (.agg #[.string a, .string b, .string c]) ∧ Below w.heap.size w w' := by
  go_enter Tryz.func77, Tryz.ntmps77
  go_wp2
  refine bodyPost_ret (v := .agg #[.string a, .string b, .string c]) (by simp [results, Tryz.results77, go_sem, *]) rfl ⟨(by first | rfl | rw [hI]), (by repeat (first | exact br _ | assumption | refine ba ?_ | refine bd ?_ | refine below_drewN ?_ _ | refine bs ?_ (by (try simp) <;> omega)))⟩
set_option maxHeartbeats 400000 in
theorem vof_walk (a b c : ByteArray) (w : World) :
    Calls Tryz.prog 115 #[.agg #[.string a, .string b, .string c]] w fun e w' => e = .returned (.agg #[.string a, .string b, .string c]) ∧ Below w.heap.size w w' := by
  go_enter Tryz.func115, Tryz.ntmps115
  go_wp2
  refine bodyPost_ret (v := .agg #[.string a, .string b, .string c]) (by simp [results, Tryz.results115, go_sem, *]) rfl ⟨(by first | rfl | rw [hI]), (by repeat (first | exact br _ | assumption | refine ba ?_ | refine bd ?_ | refine below_drewN ?_ _ | refine bs ?_ (by (try simp) <;> omega)))⟩

/-- A vector as texts. -/
structure SV where
  x : ByteArray
  y : ByteArray
  z : ByteArray
deriving DecidableEq
def SV.val (s : SV) : Value := .agg #[.string s.x, .string s.y, .string s.z]
def isVec (s : SV) : Bool := isRat s.x && isRat s.y && isRat s.z
/-- A bound on a vector's texts. -/
def SV.le (s : SV) (k : Nat) : Prop := s.x.size ≤ k ∧ s.y.size ≤ k ∧ s.z.size ≤ k


set_option maxHeartbeats 1000000 in
theorem vValid_0 (a b c : ByteArray) (w : World) (hB : Bw w)
    (h1 : ∀ w, Bw w → Calls Tryz.prog 78 #[.string a] w fun e w' => e = .returned (.bool false) ∧ Below w.heap.size w w') :
    Calls Tryz.prog 33 #[.agg #[.string a, .string b, .string c]] w fun e w' => e = .returned (.bool false) ∧ Below w.heap.size w w' := by
  have H1 := Lib.hid h1
  clear h1
  have i0 : ∀ w, (Instr.index 113 (.agg #[.string a, .string b, .string c]) (.int .i64 0)).run Tryz.prog w = .ok (.string a) w := fun _ => by kernel_rfl
  have i1 : ∀ w, (Instr.index 113 (.agg #[.string a, .string b, .string c]) (.int .i64 1)).run Tryz.prog w = .ok (.string b) w := fun _ => by kernel_rfl
  have i2 : ∀ w, (Instr.index 113 (.agg #[.string a, .string b, .string c]) (.int .i64 2)).run Tryz.prog w = .ok (.string c) w := fun _ => by kernel_rfl
  go_enter Tryz.func33, Tryz.ntmps33
  go_wp2_with fail
  refine (coord_walk a b c _).mono ?_
  rintro e w0 ⟨rfl, g0⟩
  have B0 : Below w.heap.size w w0 := bn (by repeat (first | exact br _ | assumption | refine ba ?_ | refine bd ?_ | refine below_drewN ?_ _ | refine bs ?_ (by (try simp) <;> omega))) g0
  clear g0
  go_wp2
  refine wp_loop_rounds 4 ?_
  rw [rounds_succ]
  go_wp2_with fail
  refine (H1.out _ (hB.below (by repeat (first | exact br _ | assumption | refine ba ?_ | refine bd ?_ | refine below_drewN ?_ _ | refine bs ?_ (by (try simp) <;> omega))))).mono ?_
  rintro e w1 ⟨rfl, g1⟩
  have B1 : Below w.heap.size w w1 := bn (by repeat (first | exact br _ | assumption | refine ba ?_ | refine bd ?_ | refine below_drewN ?_ _ | refine bs ?_ (by (try simp) <;> omega))) g1
  clear g1
  go_wp2
  go_ret
  exact ⟨rfl, (by repeat (first | exact br _ | assumption | refine ba ?_ | refine bd ?_ | refine below_drewN ?_ _ | refine bs ?_ (by (try simp) <;> omega)))⟩

set_option maxHeartbeats 1000000 in
theorem vValid_1 (a b c : ByteArray) (w : World) (hB : Bw w)
    (h1 : ∀ w, Bw w → Calls Tryz.prog 78 #[.string a] w fun e w' => e = .returned (.bool true) ∧ Below w.heap.size w w')
    (h2 : ∀ w, Bw w → Calls Tryz.prog 78 #[.string b] w fun e w' => e = .returned (.bool false) ∧ Below w.heap.size w w') :
    Calls Tryz.prog 33 #[.agg #[.string a, .string b, .string c]] w fun e w' => e = .returned (.bool false) ∧ Below w.heap.size w w' := by
  have H1 := Lib.hid h1
  clear h1
  have H2 := Lib.hid h2
  clear h2
  have i0 : ∀ w, (Instr.index 113 (.agg #[.string a, .string b, .string c]) (.int .i64 0)).run Tryz.prog w = .ok (.string a) w := fun _ => by kernel_rfl
  have i1 : ∀ w, (Instr.index 113 (.agg #[.string a, .string b, .string c]) (.int .i64 1)).run Tryz.prog w = .ok (.string b) w := fun _ => by kernel_rfl
  have i2 : ∀ w, (Instr.index 113 (.agg #[.string a, .string b, .string c]) (.int .i64 2)).run Tryz.prog w = .ok (.string c) w := fun _ => by kernel_rfl
  go_enter Tryz.func33, Tryz.ntmps33
  go_wp2_with fail
  refine (coord_walk a b c _).mono ?_
  rintro e w0 ⟨rfl, g0⟩
  have B0 : Below w.heap.size w w0 := bn (by repeat (first | exact br _ | assumption | refine ba ?_ | refine bd ?_ | refine below_drewN ?_ _ | refine bs ?_ (by (try simp) <;> omega))) g0
  clear g0
  go_wp2
  refine wp_loop_rounds 4 ?_
  rw [rounds_succ]
  go_wp2_with fail
  refine (H1.out _ (hB.below (by repeat (first | exact br _ | assumption | refine ba ?_ | refine bd ?_ | refine below_drewN ?_ _ | refine bs ?_ (by (try simp) <;> omega))))).mono ?_
  rintro e w1 ⟨rfl, g1⟩
  have B1 : Below w.heap.size w w1 := bn (by repeat (first | exact br _ | assumption | refine ba ?_ | refine bd ?_ | refine below_drewN ?_ _ | refine bs ?_ (by (try simp) <;> omega))) g1
  clear g1
  go_wp2
  rw [rounds_succ]
  go_wp2_with fail
  refine (H2.out _ (hB.below (by repeat (first | exact br _ | assumption | refine ba ?_ | refine bd ?_ | refine below_drewN ?_ _ | refine bs ?_ (by (try simp) <;> omega))))).mono ?_
  rintro e w2 ⟨rfl, g2⟩
  have B2 : Below w.heap.size w w2 := bn (by repeat (first | exact br _ | assumption | refine ba ?_ | refine bd ?_ | refine below_drewN ?_ _ | refine bs ?_ (by (try simp) <;> omega))) g2
  clear g2
  go_wp2
  go_ret
  exact ⟨rfl, (by repeat (first | exact br _ | assumption | refine ba ?_ | refine bd ?_ | refine below_drewN ?_ _ | refine bs ?_ (by (try simp) <;> omega)))⟩

set_option maxHeartbeats 1000000 in
theorem vValid_2 (a b c : ByteArray) (w : World) (hB : Bw w)
    (h1 : ∀ w, Bw w → Calls Tryz.prog 78 #[.string a] w fun e w' => e = .returned (.bool true) ∧ Below w.heap.size w w')
    (h2 : ∀ w, Bw w → Calls Tryz.prog 78 #[.string b] w fun e w' => e = .returned (.bool true) ∧ Below w.heap.size w w')
    (h3 : ∀ w, Bw w → Calls Tryz.prog 78 #[.string c] w fun e w' => e = .returned (.bool false) ∧ Below w.heap.size w w') :
    Calls Tryz.prog 33 #[.agg #[.string a, .string b, .string c]] w fun e w' => e = .returned (.bool false) ∧ Below w.heap.size w w' := by
  have H1 := Lib.hid h1
  clear h1
  have H2 := Lib.hid h2
  clear h2
  have H3 := Lib.hid h3
  clear h3
  have i0 : ∀ w, (Instr.index 113 (.agg #[.string a, .string b, .string c]) (.int .i64 0)).run Tryz.prog w = .ok (.string a) w := fun _ => by kernel_rfl
  have i1 : ∀ w, (Instr.index 113 (.agg #[.string a, .string b, .string c]) (.int .i64 1)).run Tryz.prog w = .ok (.string b) w := fun _ => by kernel_rfl
  have i2 : ∀ w, (Instr.index 113 (.agg #[.string a, .string b, .string c]) (.int .i64 2)).run Tryz.prog w = .ok (.string c) w := fun _ => by kernel_rfl
  go_enter Tryz.func33, Tryz.ntmps33
  go_wp2_with fail
  refine (coord_walk a b c _).mono ?_
  rintro e w0 ⟨rfl, g0⟩
  have B0 : Below w.heap.size w w0 := bn (by repeat (first | exact br _ | assumption | refine ba ?_ | refine bd ?_ | refine below_drewN ?_ _ | refine bs ?_ (by (try simp) <;> omega))) g0
  clear g0
  go_wp2
  refine wp_loop_rounds 4 ?_
  rw [rounds_succ]
  go_wp2_with fail
  refine (H1.out _ (hB.below (by repeat (first | exact br _ | assumption | refine ba ?_ | refine bd ?_ | refine below_drewN ?_ _ | refine bs ?_ (by (try simp) <;> omega))))).mono ?_
  rintro e w1 ⟨rfl, g1⟩
  have B1 : Below w.heap.size w w1 := bn (by repeat (first | exact br _ | assumption | refine ba ?_ | refine bd ?_ | refine below_drewN ?_ _ | refine bs ?_ (by (try simp) <;> omega))) g1
  clear g1
  go_wp2
  rw [rounds_succ]
  go_wp2_with fail
  refine (H2.out _ (hB.below (by repeat (first | exact br _ | assumption | refine ba ?_ | refine bd ?_ | refine below_drewN ?_ _ | refine bs ?_ (by (try simp) <;> omega))))).mono ?_
  rintro e w2 ⟨rfl, g2⟩
  have B2 : Below w.heap.size w w2 := bn (by repeat (first | exact br _ | assumption | refine ba ?_ | refine bd ?_ | refine below_drewN ?_ _ | refine bs ?_ (by (try simp) <;> omega))) g2
  clear g2
  go_wp2
  rw [rounds_succ]
  go_wp2_with fail
  refine (H3.out _ (hB.below (by repeat (first | exact br _ | assumption | refine ba ?_ | refine bd ?_ | refine below_drewN ?_ _ | refine bs ?_ (by (try simp) <;> omega))))).mono ?_
  rintro e w3 ⟨rfl, g3⟩
  have B3 : Below w.heap.size w w3 := bn (by repeat (first | exact br _ | assumption | refine ba ?_ | refine bd ?_ | refine below_drewN ?_ _ | refine bs ?_ (by (try simp) <;> omega))) g3
  clear g3
  go_wp2
  go_ret
  exact ⟨rfl, (by repeat (first | exact br _ | assumption | refine ba ?_ | refine bd ?_ | refine below_drewN ?_ _ | refine bs ?_ (by (try simp) <;> omega)))⟩

set_option maxHeartbeats 1000000 in
theorem vValid_3 (a b c : ByteArray) (w : World) (hB : Bw w)
    (h1 : ∀ w, Bw w → Calls Tryz.prog 78 #[.string a] w fun e w' => e = .returned (.bool true) ∧ Below w.heap.size w w')
    (h2 : ∀ w, Bw w → Calls Tryz.prog 78 #[.string b] w fun e w' => e = .returned (.bool true) ∧ Below w.heap.size w w')
    (h3 : ∀ w, Bw w → Calls Tryz.prog 78 #[.string c] w fun e w' => e = .returned (.bool true) ∧ Below w.heap.size w w') :
    Calls Tryz.prog 33 #[.agg #[.string a, .string b, .string c]] w fun e w' => e = .returned (.bool true) ∧ Below w.heap.size w w' := by
  have H1 := Lib.hid h1
  clear h1
  have H2 := Lib.hid h2
  clear h2
  have H3 := Lib.hid h3
  clear h3
  have i0 : ∀ w, (Instr.index 113 (.agg #[.string a, .string b, .string c]) (.int .i64 0)).run Tryz.prog w = .ok (.string a) w := fun _ => by kernel_rfl
  have i1 : ∀ w, (Instr.index 113 (.agg #[.string a, .string b, .string c]) (.int .i64 1)).run Tryz.prog w = .ok (.string b) w := fun _ => by kernel_rfl
  have i2 : ∀ w, (Instr.index 113 (.agg #[.string a, .string b, .string c]) (.int .i64 2)).run Tryz.prog w = .ok (.string c) w := fun _ => by kernel_rfl
  go_enter Tryz.func33, Tryz.ntmps33
  go_wp2_with fail
  refine (coord_walk a b c _).mono ?_
  rintro e w0 ⟨rfl, g0⟩
  have B0 : Below w.heap.size w w0 := bn (by repeat (first | exact br _ | assumption | refine ba ?_ | refine bd ?_ | refine below_drewN ?_ _ | refine bs ?_ (by (try simp) <;> omega))) g0
  clear g0
  go_wp2
  refine wp_loop_rounds 4 ?_
  rw [rounds_succ]
  go_wp2_with fail
  refine (H1.out _ (hB.below (by repeat (first | exact br _ | assumption | refine ba ?_ | refine bd ?_ | refine below_drewN ?_ _ | refine bs ?_ (by (try simp) <;> omega))))).mono ?_
  rintro e w1 ⟨rfl, g1⟩
  have B1 : Below w.heap.size w w1 := bn (by repeat (first | exact br _ | assumption | refine ba ?_ | refine bd ?_ | refine below_drewN ?_ _ | refine bs ?_ (by (try simp) <;> omega))) g1
  clear g1
  go_wp2
  rw [rounds_succ]
  go_wp2_with fail
  refine (H2.out _ (hB.below (by repeat (first | exact br _ | assumption | refine ba ?_ | refine bd ?_ | refine below_drewN ?_ _ | refine bs ?_ (by (try simp) <;> omega))))).mono ?_
  rintro e w2 ⟨rfl, g2⟩
  have B2 : Below w.heap.size w w2 := bn (by repeat (first | exact br _ | assumption | refine ba ?_ | refine bd ?_ | refine below_drewN ?_ _ | refine bs ?_ (by (try simp) <;> omega))) g2
  clear g2
  go_wp2
  rw [rounds_succ]
  go_wp2_with fail
  refine (H3.out _ (hB.below (by repeat (first | exact br _ | assumption | refine ba ?_ | refine bd ?_ | refine below_drewN ?_ _ | refine bs ?_ (by (try simp) <;> omega))))).mono ?_
  rintro e w3 ⟨rfl, g3⟩
  have B3 : Below w.heap.size w w3 := bn (by repeat (first | exact br _ | assumption | refine ba ?_ | refine bd ?_ | refine below_drewN ?_ _ | refine bs ?_ (by (try simp) <;> omega))) g3
  clear g3
  go_wp2
  rw [rounds_succ]
  go_wp2
  go_ret
  exact ⟨rfl, (by repeat (first | exact br _ | assumption | refine ba ?_ | refine bd ?_ | refine below_drewN ?_ _ | refine bs ?_ (by (try simp) <;> omega)))⟩

theorem vValid_walk (s : SV) (hs : s.le 40000000) (w : World) (hB : Bw w) :
    Calls Tryz.prog 33 #[s.val] w fun e w' => e = .returned (.bool (isVec s)) ∧ Below w.heap.size w w' := by
  obtain ⟨a, b, c⟩ := s
  have H1 := fun w hB => rValid_walk a hs.1 w hB
  have H2 := fun w hB => rValid_walk b hs.2.1 w hB
  have H3 := fun w hB => rValid_walk c hs.2.2 w hB
  unfold SV.val isVec
  dsimp only
  cases ha : isRat a
  · rw [ha] at H1; exact vValid_0 a b c w hB H1
  · cases hb : isRat b
    · rw [ha] at H1; rw [hb] at H2; exact vValid_1 a b c w hB H1 H2
    · cases hc : isRat c
      · rw [ha] at H1; rw [hb] at H2; rw [hc] at H3; exact vValid_2 a b c w hB H1 H2 H3
      · rw [ha] at H1; rw [hb] at H2; rw [hc] at H3; exact vValid_3 a b c w hB H1 H2 H3
end Go.Proofs.YtbnbaokamccmjaaGreatDoor
