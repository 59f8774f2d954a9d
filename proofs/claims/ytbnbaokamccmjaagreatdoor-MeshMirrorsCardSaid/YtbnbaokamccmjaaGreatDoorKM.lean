/- law of chapter 12: MeshMirrors: the walk. -/
import Derived.Test.YtbnbaokamccmjaaGreatDoorKG
set_option linter.unusedVariables false
set_option linter.unusedSimpArgs false
namespace Go.Proofs.YtbnbaokamccmjaaGreatDoor
open Go Go.RowKit

set_option maxHeartbeats 4000000 in
set_option maxRecDepth 100000 in
theorem mirrors_out1 (A : Option Addr) (n cap : Nat) (l : List TV) (x y z : ByteArray) (w : World) (hB : Bw w) (hv : Ts w (.slice A n cap) l)
    (h20 : ∀ w, Ts w (.slice A n cap) l → Calls Tryz.prog 20 #[.slice A n cap] w fun e w' => e = .returned (.bool false) ∧ Below w.heap.size w w') :
    Calls Tryz.prog 6 #[.slice A n cap, .agg #[.string x, .string y, .string z]] w fun e w' => e = .returned (.bool true) ∧ Below w.heap.size w w' := by
  have HV := Lib.hid hv
  clear hv
  have H0 := Lib.hid (fun w hB => awake_walk w hB)
  have H20 := Lib.hid h20
  clear h20
  go_enter Tryz.func6, Tryz.ntmps6
  go_wp2_with fail
  refine (H0.out _ (hB.below (by repeat (first | exact br _ | assumption | refine ba ?_ | refine bd ?_ | refine below_drewN ?_ _ | refine bs ?_ (by (try simp) <;> omega))))).mono ?_
  rintro e w1 ⟨rfl, g1⟩
  have S1 : Below w.heap.size w w1 := bn (by repeat (first | exact br _ | assumption | refine ba ?_ | refine bd ?_ | refine below_drewN ?_ _ | refine bs ?_ (by (try simp) <;> omega))) g1
  replace HV := Lib.hid (HV.out.below S1)
  have c1_v_0 : w1.cell? ⟨w.heap.size, 0, none⟩ = some (.string x) := bc g1 (by first | with_reducible assumption | go_simp)
  have c1_v_1 : w1.cell? ⟨w.heap.size, 1, none⟩ = some (.string y) := bc g1 (by first | with_reducible assumption | go_simp)
  have c1_v_2 : w1.cell? ⟨w.heap.size, 2, none⟩ = some (.string z) := bc g1 (by first | with_reducible assumption | go_simp)
  have z1_v : w.heap.size < w1.heap.size := World.block_lt_of_cell? _ _ c1_v_0
  have B1 : Below w.heap.size w w1 := S1
  clear g1
  go_wp2_with fail
  refine (H20.out _ (HV.out.below (by repeat (first | exact br _ | assumption | refine ba ?_ | refine bd ?_ | refine below_drewN ?_ _ | refine bs ?_ (by (try simp) <;> omega))))).mono ?_
  rintro e w2 ⟨rfl, g2⟩
  have S2 : Below w1.heap.size w1 w2 := bn (by repeat (first | exact br _ | assumption | refine ba ?_ | refine bd ?_ | refine below_drewN ?_ _ | refine bs ?_ (by (try simp) <;> omega))) g2
  replace HV := Lib.hid (HV.out.below S2)
  have c2_v_0 : w2.cell? ⟨w.heap.size, 0, none⟩ = some (.string x) := bc g2 (by first | with_reducible assumption | go_simp)
  have c2_v_1 : w2.cell? ⟨w.heap.size, 1, none⟩ = some (.string y) := bc g2 (by first | with_reducible assumption | go_simp)
  have c2_v_2 : w2.cell? ⟨w.heap.size, 2, none⟩ = some (.string z) := bc g2 (by first | with_reducible assumption | go_simp)
  have z2_v : w.heap.size < w2.heap.size := World.block_lt_of_cell? _ _ c2_v_0
  have B2 : Below w.heap.size w w2 := bn B1 S2
  clear g2 S2
  go_wp2_with fail
  refine (H0.out _ (hB.below (by repeat (first | exact br _ | assumption | refine ba ?_ | refine bd ?_ | refine below_drewN ?_ _ | refine bs ?_ (by (try simp) <;> omega))))).mono ?_
  rintro e w3 ⟨rfl, g3⟩
  have S3 : Below w2.heap.size w2 w3 := bn (by repeat (first | exact br _ | assumption | refine ba ?_ | refine bd ?_ | refine below_drewN ?_ _ | refine bs ?_ (by (try simp) <;> omega))) g3
  replace HV := Lib.hid (HV.out.below S3)
  have c3_v_0 : w3.cell? ⟨w.heap.size, 0, none⟩ = some (.string x) := bc g3 (by first | with_reducible assumption | go_simp)
  have c3_v_1 : w3.cell? ⟨w.heap.size, 1, none⟩ = some (.string y) := bc g3 (by first | with_reducible assumption | go_simp)
  have c3_v_2 : w3.cell? ⟨w.heap.size, 2, none⟩ = some (.string z) := bc g3 (by first | with_reducible assumption | go_simp)
  have z3_v : w.heap.size < w3.heap.size := World.block_lt_of_cell? _ _ c3_v_0
  have B3 : Below w.heap.size w w3 := bn B2 S3
  clear g3 S3
  go_wp2
  go_ret
  exact ⟨rfl, (by repeat (first | exact br _ | assumption | refine ba ?_ | refine bd ?_ | refine below_drewN ?_ _ | refine bs ?_ (by (try simp) <;> omega)))⟩

set_option maxHeartbeats 4000000 in
set_option maxRecDepth 100000 in
theorem mirrors_out2 (A : Option Addr) (n cap : Nat) (l : List TV) (x y z : ByteArray) (w : World) (hB : Bw w) (hv : Ts w (.slice A n cap) l)
    (h20 : ∀ w, Ts w (.slice A n cap) l → Calls Tryz.prog 20 #[.slice A n cap] w fun e w' => e = .returned (.bool true) ∧ Below w.heap.size w w')
    (hn : (24 : Int) < (n : Int)) :
    Calls Tryz.prog 6 #[.slice A n cap, .agg #[.string x, .string y, .string z]] w fun e w' => e = .returned (.bool true) ∧ Below w.heap.size w w' := by
  have HV := Lib.hid hv
  clear hv
  have H0 := Lib.hid (fun w hB => awake_walk w hB)
  have H20 := Lib.hid h20
  clear h20
  go_enter Tryz.func6, Tryz.ntmps6
  go_wp2_with fail
  refine (H0.out _ (hB.below (by repeat (first | exact br _ | assumption | refine ba ?_ | refine bd ?_ | refine below_drewN ?_ _ | refine bs ?_ (by (try simp) <;> omega))))).mono ?_
  rintro e w1 ⟨rfl, g1⟩
  have S1 : Below w.heap.size w w1 := bn (by repeat (first | exact br _ | assumption | refine ba ?_ | refine bd ?_ | refine below_drewN ?_ _ | refine bs ?_ (by (try simp) <;> omega))) g1
  replace HV := Lib.hid (HV.out.below S1)
  have c1_v_0 : w1.cell? ⟨w.heap.size, 0, none⟩ = some (.string x) := bc g1 (by first | with_reducible assumption | go_simp)
  have c1_v_1 : w1.cell? ⟨w.heap.size, 1, none⟩ = some (.string y) := bc g1 (by first | with_reducible assumption | go_simp)
  have c1_v_2 : w1.cell? ⟨w.heap.size, 2, none⟩ = some (.string z) := bc g1 (by first | with_reducible assumption | go_simp)
  have z1_v : w.heap.size < w1.heap.size := World.block_lt_of_cell? _ _ c1_v_0
  have B1 : Below w.heap.size w w1 := S1
  clear g1
  go_wp2_with fail
  refine (H20.out _ (HV.out.below (by repeat (first | exact br _ | assumption | refine ba ?_ | refine bd ?_ | refine below_drewN ?_ _ | refine bs ?_ (by (try simp) <;> omega))))).mono ?_
  rintro e w2 ⟨rfl, g2⟩
  have S2 : Below w1.heap.size w1 w2 := bn (by repeat (first | exact br _ | assumption | refine ba ?_ | refine bd ?_ | refine below_drewN ?_ _ | refine bs ?_ (by (try simp) <;> omega))) g2
  replace HV := Lib.hid (HV.out.below S2)
  have c2_v_0 : w2.cell? ⟨w.heap.size, 0, none⟩ = some (.string x) := bc g2 (by first | with_reducible assumption | go_simp)
  have c2_v_1 : w2.cell? ⟨w.heap.size, 1, none⟩ = some (.string y) := bc g2 (by first | with_reducible assumption | go_simp)
  have c2_v_2 : w2.cell? ⟨w.heap.size, 2, none⟩ = some (.string z) := bc g2 (by first | with_reducible assumption | go_simp)
  have z2_v : w.heap.size < w2.heap.size := World.block_lt_of_cell? _ _ c2_v_0
  have B2 : Below w.heap.size w w2 := bn B1 S2
  clear g2 S2
  go_wp2_with fail
  refine (H0.out _ (hB.below (by repeat (first | exact br _ | assumption | refine ba ?_ | refine bd ?_ | refine below_drewN ?_ _ | refine bs ?_ (by (try simp) <;> omega))))).mono ?_
  rintro e w3 ⟨rfl, g3⟩
  have S3 : Below w2.heap.size w2 w3 := bn (by repeat (first | exact br _ | assumption | refine ba ?_ | refine bd ?_ | refine below_drewN ?_ _ | refine bs ?_ (by (try simp) <;> omega))) g3
  replace HV := Lib.hid (HV.out.below S3)
  have c3_v_0 : w3.cell? ⟨w.heap.size, 0, none⟩ = some (.string x) := bc g3 (by first | with_reducible assumption | go_simp)
  have c3_v_1 : w3.cell? ⟨w.heap.size, 1, none⟩ = some (.string y) := bc g3 (by first | with_reducible assumption | go_simp)
  have c3_v_2 : w3.cell? ⟨w.heap.size, 2, none⟩ = some (.string z) := bc g3 (by first | with_reducible assumption | go_simp)
  have z3_v : w.heap.size < w3.heap.size := World.block_lt_of_cell? _ _ c3_v_0
  have B3 : Below w.heap.size w w3 := bn B2 S3
  clear g3 S3
  go_wp2
  go_ret
  exact ⟨rfl, (by repeat (first | exact br _ | assumption | refine ba ?_ | refine bd ?_ | refine below_drewN ?_ _ | refine bs ?_ (by (try simp) <;> omega)))⟩

set_option maxHeartbeats 4000000 in
set_option maxRecDepth 100000 in
theorem mirrors_out3 (A : Option Addr) (n cap : Nat) (l : List TV) (x y z : ByteArray) (w : World) (hB : Bw w) (hv : Ts w (.slice A n cap) l)
    (h20 : ∀ w, Ts w (.slice A n cap) l → Calls Tryz.prog 20 #[.slice A n cap] w fun e w' => e = .returned (.bool true) ∧ Below w.heap.size w w')
    (hn : (n : Int) ≤ 24)
    (h11 : ∀ p w, Bk w p [.string x, .string y, .string z] → Calls Tryz.prog 11 #[.slice (some ⟨p, 0, none⟩) 1 1] w fun e w' => e = .returned (.bool false) ∧ Below w.heap.size w w') :
    Calls Tryz.prog 6 #[.slice A n cap, .agg #[.string x, .string y, .string z]] w fun e w' => e = .returned (.bool true) ∧ Below w.heap.size w w' := by
  have HV := Lib.hid hv
  clear hv
  have H0 := Lib.hid (fun w hB => awake_walk w hB)
  have H20 := Lib.hid h20
  clear h20
  have H11 := Lib.hid h11
  clear h11
  go_enter Tryz.func6, Tryz.ntmps6
  go_wp2_with fail
  refine (H0.out _ (hB.below (by repeat (first | exact br _ | assumption | refine ba ?_ | refine bd ?_ | refine below_drewN ?_ _ | refine bs ?_ (by (try simp) <;> omega))))).mono ?_
  rintro e w1 ⟨rfl, g1⟩
  have S1 : Below w.heap.size w w1 := bn (by repeat (first | exact br _ | assumption | refine ba ?_ | refine bd ?_ | refine below_drewN ?_ _ | refine bs ?_ (by (try simp) <;> omega))) g1
  replace HV := Lib.hid (HV.out.below S1)
  have c1_v_0 : w1.cell? ⟨w.heap.size, 0, none⟩ = some (.string x) := bc g1 (by first | with_reducible assumption | go_simp)
  have c1_v_1 : w1.cell? ⟨w.heap.size, 1, none⟩ = some (.string y) := bc g1 (by first | with_reducible assumption | go_simp)
  have c1_v_2 : w1.cell? ⟨w.heap.size, 2, none⟩ = some (.string z) := bc g1 (by first | with_reducible assumption | go_simp)
  have z1_v : w.heap.size < w1.heap.size := World.block_lt_of_cell? _ _ c1_v_0
  have B1 : Below w.heap.size w w1 := S1
  clear g1
  go_wp2_with fail
  refine (H20.out _ (HV.out.below (by repeat (first | exact br _ | assumption | refine ba ?_ | refine bd ?_ | refine below_drewN ?_ _ | refine bs ?_ (by (try simp) <;> omega))))).mono ?_
  rintro e w2 ⟨rfl, g2⟩
  have S2 : Below w1.heap.size w1 w2 := bn (by repeat (first | exact br _ | assumption | refine ba ?_ | refine bd ?_ | refine below_drewN ?_ _ | refine bs ?_ (by (try simp) <;> omega))) g2
  replace HV := Lib.hid (HV.out.below S2)
  have c2_v_0 : w2.cell? ⟨w.heap.size, 0, none⟩ = some (.string x) := bc g2 (by first | with_reducible assumption | go_simp)
  have c2_v_1 : w2.cell? ⟨w.heap.size, 1, none⟩ = some (.string y) := bc g2 (by first | with_reducible assumption | go_simp)
  have c2_v_2 : w2.cell? ⟨w.heap.size, 2, none⟩ = some (.string z) := bc g2 (by first | with_reducible assumption | go_simp)
  have z2_v : w.heap.size < w2.heap.size := World.block_lt_of_cell? _ _ c2_v_0
  have B2 : Below w.heap.size w w2 := bn B1 S2
  clear g2 S2
  go_wp2_with fail
  refine (H11.out _ _ (bk_at rfl)).mono ?_
  rintro e w3 ⟨rfl, g3⟩
  have S3 : Below w2.heap.size w2 w3 := bn (by repeat (first | exact br _ | assumption | refine ba ?_ | refine bd ?_ | refine below_drewN ?_ _ | refine bs ?_ (by (try simp) <;> omega))) g3
  replace HV := Lib.hid (HV.out.below S3)
  have c3_v_0 : w3.cell? ⟨w.heap.size, 0, none⟩ = some (.string x) := bc g3 (by first | with_reducible assumption | go_simp)
  have c3_v_1 : w3.cell? ⟨w.heap.size, 1, none⟩ = some (.string y) := bc g3 (by first | with_reducible assumption | go_simp)
  have c3_v_2 : w3.cell? ⟨w.heap.size, 2, none⟩ = some (.string z) := bc g3 (by first | with_reducible assumption | go_simp)
  have z3_v : w.heap.size < w3.heap.size := World.block_lt_of_cell? _ _ c3_v_0
  have B3 : Below w.heap.size w w3 := bn B2 S3
  clear g3 S3
  go_wp2_with fail
  refine (H0.out _ (hB.below (by repeat (first | exact br _ | assumption | refine ba ?_ | refine bd ?_ | refine below_drewN ?_ _ | refine bs ?_ (by (try simp) <;> omega))))).mono ?_
  rintro e w4 ⟨rfl, g4⟩
  have S4 : Below w3.heap.size w3 w4 := bn (by repeat (first | exact br _ | assumption | refine ba ?_ | refine bd ?_ | refine below_drewN ?_ _ | refine bs ?_ (by (try simp) <;> omega))) g4
  replace HV := Lib.hid (HV.out.below S4)
  have c4_v_0 : w4.cell? ⟨w.heap.size, 0, none⟩ = some (.string x) := bc g4 (by first | with_reducible assumption | go_simp)
  have c4_v_1 : w4.cell? ⟨w.heap.size, 1, none⟩ = some (.string y) := bc g4 (by first | with_reducible assumption | go_simp)
  have c4_v_2 : w4.cell? ⟨w.heap.size, 2, none⟩ = some (.string z) := bc g4 (by first | with_reducible assumption | go_simp)
  have z4_v : w.heap.size < w4.heap.size := World.block_lt_of_cell? _ _ c4_v_0
  have B4 : Below w.heap.size w w4 := bn B3 S4
  clear g4 S4
  go_wp2
  go_ret
  exact ⟨rfl, (by repeat (first | exact br _ | assumption | refine ba ?_ | refine bd ?_ | refine below_drewN ?_ _ | refine bs ?_ (by (try simp) <;> omega)))⟩

set_option maxHeartbeats 4000000 in
set_option maxRecDepth 100000 in
theorem mirrors_out4 (A : Option Addr) (n cap : Nat) (l : List TV) (x y z : ByteArray) (w : World) (hB : Bw w) (hv : Ts w (.slice A n cap) l)
    (h20 : ∀ w, Ts w (.slice A n cap) l → Calls Tryz.prog 20 #[.slice A n cap] w fun e w' => e = .returned (.bool true) ∧ Below w.heap.size w w')
    (hn : (n : Int) ≤ 24)
    (h11 : ∀ p w, Bk w p [.string x, .string y, .string z] → Calls Tryz.prog 11 #[.slice (some ⟨p, 0, none⟩) 1 1] w fun e w' => e = .returned (.bool true) ∧ Below w.heap.size w w')
    (h33 : ∀ w, Bw w → Calls Tryz.prog 33 #[.agg #[.string x, .string y, .string z]] w fun e w' => e = .returned (.bool false) ∧ Below w.heap.size w w') :
    Calls Tryz.prog 6 #[.slice A n cap, .agg #[.string x, .string y, .string z]] w fun e w' => e = .returned (.bool true) ∧ Below w.heap.size w w' := by
  have HV := Lib.hid hv
  clear hv
  have H0 := Lib.hid (fun w hB => awake_walk w hB)
  have H20 := Lib.hid h20
  clear h20
  have H11 := Lib.hid h11
  clear h11
  have H33 := Lib.hid h33
  clear h33
  go_enter Tryz.func6, Tryz.ntmps6
  go_wp2_with fail
  refine (H0.out _ (hB.below (by repeat (first | exact br _ | assumption | refine ba ?_ | refine bd ?_ | refine below_drewN ?_ _ | refine bs ?_ (by (try simp) <;> omega))))).mono ?_
  rintro e w1 ⟨rfl, g1⟩
  have S1 : Below w.heap.size w w1 := bn (by repeat (first | exact br _ | assumption | refine ba ?_ | refine bd ?_ | refine below_drewN ?_ _ | refine bs ?_ (by (try simp) <;> omega))) g1
  replace HV := Lib.hid (HV.out.below S1)
  have c1_v_0 : w1.cell? ⟨w.heap.size, 0, none⟩ = some (.string x) := bc g1 (by first | with_reducible assumption | go_simp)
  have c1_v_1 : w1.cell? ⟨w.heap.size, 1, none⟩ = some (.string y) := bc g1 (by first | with_reducible assumption | go_simp)
  have c1_v_2 : w1.cell? ⟨w.heap.size, 2, none⟩ = some (.string z) := bc g1 (by first | with_reducible assumption | go_simp)
  have z1_v : w.heap.size < w1.heap.size := World.block_lt_of_cell? _ _ c1_v_0
  have B1 : Below w.heap.size w w1 := S1
  clear g1
  go_wp2_with fail
  refine (H20.out _ (HV.out.below (by repeat (first | exact br _ | assumption | refine ba ?_ | refine bd ?_ | refine below_drewN ?_ _ | refine bs ?_ (by (try simp) <;> omega))))).mono ?_
  rintro e w2 ⟨rfl, g2⟩
  have S2 : Below w1.heap.size w1 w2 := bn (by repeat (first | exact br _ | assumption | refine ba ?_ | refine bd ?_ | refine below_drewN ?_ _ | refine bs ?_ (by (try simp) <;> omega))) g2
  replace HV := Lib.hid (HV.out.below S2)
  have c2_v_0 : w2.cell? ⟨w.heap.size, 0, none⟩ = some (.string x) := bc g2 (by first | with_reducible assumption | go_simp)
  have c2_v_1 : w2.cell? ⟨w.heap.size, 1, none⟩ = some (.string y) := bc g2 (by first | with_reducible assumption | go_simp)
  have c2_v_2 : w2.cell? ⟨w.heap.size, 2, none⟩ = some (.string z) := bc g2 (by first | with_reducible assumption | go_simp)
  have z2_v : w.heap.size < w2.heap.size := World.block_lt_of_cell? _ _ c2_v_0
  have B2 : Below w.heap.size w w2 := bn B1 S2
  clear g2 S2
  go_wp2_with fail
  refine (H11.out _ _ (bk_at rfl)).mono ?_
  rintro e w3 ⟨rfl, g3⟩
  have S3 : Below w2.heap.size w2 w3 := bn (by repeat (first | exact br _ | assumption | refine ba ?_ | refine bd ?_ | refine below_drewN ?_ _ | refine bs ?_ (by (try simp) <;> omega))) g3
  replace HV := Lib.hid (HV.out.below S3)
  have c3_v_0 : w3.cell? ⟨w.heap.size, 0, none⟩ = some (.string x) := bc g3 (by first | with_reducible assumption | go_simp)
  have c3_v_1 : w3.cell? ⟨w.heap.size, 1, none⟩ = some (.string y) := bc g3 (by first | with_reducible assumption | go_simp)
  have c3_v_2 : w3.cell? ⟨w.heap.size, 2, none⟩ = some (.string z) := bc g3 (by first | with_reducible assumption | go_simp)
  have z3_v : w.heap.size < w3.heap.size := World.block_lt_of_cell? _ _ c3_v_0
  have B3 : Below w.heap.size w w3 := bn B2 S3
  clear g3 S3
  go_wp2_with fail
  refine (H33.out _ (hB.below (by repeat (first | exact br _ | assumption | refine ba ?_ | refine bd ?_ | refine below_drewN ?_ _ | refine bs ?_ (by (try simp) <;> omega))))).mono ?_
  rintro e w4 ⟨rfl, g4⟩
  have S4 : Below w3.heap.size w3 w4 := bn (by repeat (first | exact br _ | assumption | refine ba ?_ | refine bd ?_ | refine below_drewN ?_ _ | refine bs ?_ (by (try simp) <;> omega))) g4
  replace HV := Lib.hid (HV.out.below S4)
  have c4_v_0 : w4.cell? ⟨w.heap.size, 0, none⟩ = some (.string x) := bc g4 (by first | with_reducible assumption | go_simp)
  have c4_v_1 : w4.cell? ⟨w.heap.size, 1, none⟩ = some (.string y) := bc g4 (by first | with_reducible assumption | go_simp)
  have c4_v_2 : w4.cell? ⟨w.heap.size, 2, none⟩ = some (.string z) := bc g4 (by first | with_reducible assumption | go_simp)
  have z4_v : w.heap.size < w4.heap.size := World.block_lt_of_cell? _ _ c4_v_0
  have B4 : Below w.heap.size w w4 := bn B3 S4
  clear g4 S4
  go_wp2_with fail
  refine (H0.out _ (hB.below (by repeat (first | exact br _ | assumption | refine ba ?_ | refine bd ?_ | refine below_drewN ?_ _ | refine bs ?_ (by (try simp) <;> omega))))).mono ?_
  rintro e w5 ⟨rfl, g5⟩
  have S5 : Below w4.heap.size w4 w5 := bn (by repeat (first | exact br _ | assumption | refine ba ?_ | refine bd ?_ | refine below_drewN ?_ _ | refine bs ?_ (by (try simp) <;> omega))) g5
  replace HV := Lib.hid (HV.out.below S5)
  have c5_v_0 : w5.cell? ⟨w.heap.size, 0, none⟩ = some (.string x) := bc g5 (by first | with_reducible assumption | go_simp)
  have c5_v_1 : w5.cell? ⟨w.heap.size, 1, none⟩ = some (.string y) := bc g5 (by first | with_reducible assumption | go_simp)
  have c5_v_2 : w5.cell? ⟨w.heap.size, 2, none⟩ = some (.string z) := bc g5 (by first | with_reducible assumption | go_simp)
  have z5_v : w.heap.size < w5.heap.size := World.block_lt_of_cell? _ _ c5_v_0
  have B5 : Below w.heap.size w w5 := bn B4 S5
  clear g5 S5
  go_wp2
  go_ret
  exact ⟨rfl, (by repeat (first | exact br _ | assumption | refine ba ?_ | refine bd ?_ | refine below_drewN ?_ _ | refine bs ?_ (by (try simp) <;> omega)))⟩

set_option maxHeartbeats 4000000 in
set_option maxRecDepth 100000 in
theorem mirrors_out5 (z5 : Int) (A : Option Addr) (n cap : Nat) (l : List TV) (x y z : ByteArray) (w : World) (hB : Bw w) (hv : Ts w (.slice A n cap) l)
    (h20 : ∀ w, Ts w (.slice A n cap) l → Calls Tryz.prog 20 #[.slice A n cap] w fun e w' => e = .returned (.bool true) ∧ Below w.heap.size w w')
    (hn : (n : Int) ≤ 24)
    (h11 : ∀ p w, Bk w p [.string x, .string y, .string z] → Calls Tryz.prog 11 #[.slice (some ⟨p, 0, none⟩) 1 1] w fun e w' => e = .returned (.bool true) ∧ Below w.heap.size w w')
    (h33 : ∀ w, Bw w → Calls Tryz.prog 33 #[.agg #[.string x, .string y, .string z]] w fun e w' => e = .returned (.bool true) ∧ Below w.heap.size w w')
    (h32 : ∀ w, Bw w → Ts w (.slice A n cap) l → Calls Tryz.prog 32 #[.slice A n cap] w fun e w' => e = .returned (.int .i64 z5) ∧ Below w.heap.size w w')
    (h5 : (z5 != 0) = true) :
    Calls Tryz.prog 6 #[.slice A n cap, .agg #[.string x, .string y, .string z]] w fun e w' => e = .returned (.bool true) ∧ Below w.heap.size w w' := by
  have HV := Lib.hid hv
  clear hv
  have H0 := Lib.hid (fun w hB => awake_walk w hB)
  have H20 := Lib.hid h20
  clear h20
  have H11 := Lib.hid h11
  clear h11
  have H33 := Lib.hid h33
  clear h33
  have H32 := Lib.hid h32
  clear h32
  go_enter Tryz.func6, Tryz.ntmps6
  go_wp2_with fail
  refine (H0.out _ (hB.below (by repeat (first | exact br _ | assumption | refine ba ?_ | refine bd ?_ | refine below_drewN ?_ _ | refine bs ?_ (by (try simp) <;> omega))))).mono ?_
  rintro e w1 ⟨rfl, g1⟩
  have S1 : Below w.heap.size w w1 := bn (by repeat (first | exact br _ | assumption | refine ba ?_ | refine bd ?_ | refine below_drewN ?_ _ | refine bs ?_ (by (try simp) <;> omega))) g1
  replace HV := Lib.hid (HV.out.below S1)
  have c1_v_0 : w1.cell? ⟨w.heap.size, 0, none⟩ = some (.string x) := bc g1 (by first | with_reducible assumption | go_simp)
  have c1_v_1 : w1.cell? ⟨w.heap.size, 1, none⟩ = some (.string y) := bc g1 (by first | with_reducible assumption | go_simp)
  have c1_v_2 : w1.cell? ⟨w.heap.size, 2, none⟩ = some (.string z) := bc g1 (by first | with_reducible assumption | go_simp)
  have z1_v : w.heap.size < w1.heap.size := World.block_lt_of_cell? _ _ c1_v_0
  have B1 : Below w.heap.size w w1 := S1
  clear g1
  go_wp2_with fail
  refine (H20.out _ (HV.out.below (by repeat (first | exact br _ | assumption | refine ba ?_ | refine bd ?_ | refine below_drewN ?_ _ | refine bs ?_ (by (try simp) <;> omega))))).mono ?_
  rintro e w2 ⟨rfl, g2⟩
  have S2 : Below w1.heap.size w1 w2 := bn (by repeat (first | exact br _ | assumption | refine ba ?_ | refine bd ?_ | refine below_drewN ?_ _ | refine bs ?_ (by (try simp) <;> omega))) g2
  replace HV := Lib.hid (HV.out.below S2)
  have c2_v_0 : w2.cell? ⟨w.heap.size, 0, none⟩ = some (.string x) := bc g2 (by first | with_reducible assumption | go_simp)
  have c2_v_1 : w2.cell? ⟨w.heap.size, 1, none⟩ = some (.string y) := bc g2 (by first | with_reducible assumption | go_simp)
  have c2_v_2 : w2.cell? ⟨w.heap.size, 2, none⟩ = some (.string z) := bc g2 (by first | with_reducible assumption | go_simp)
  have z2_v : w.heap.size < w2.heap.size := World.block_lt_of_cell? _ _ c2_v_0
  have B2 : Below w.heap.size w w2 := bn B1 S2
  clear g2 S2
  go_wp2_with fail
  refine (H11.out _ _ (bk_at rfl)).mono ?_
  rintro e w3 ⟨rfl, g3⟩
  have S3 : Below w2.heap.size w2 w3 := bn (by repeat (first | exact br _ | assumption | refine ba ?_ | refine bd ?_ | refine below_drewN ?_ _ | refine bs ?_ (by (try simp) <;> omega))) g3
  replace HV := Lib.hid (HV.out.below S3)
  have c3_v_0 : w3.cell? ⟨w.heap.size, 0, none⟩ = some (.string x) := bc g3 (by first | with_reducible assumption | go_simp)
  have c3_v_1 : w3.cell? ⟨w.heap.size, 1, none⟩ = some (.string y) := bc g3 (by first | with_reducible assumption | go_simp)
  have c3_v_2 : w3.cell? ⟨w.heap.size, 2, none⟩ = some (.string z) := bc g3 (by first | with_reducible assumption | go_simp)
  have z3_v : w.heap.size < w3.heap.size := World.block_lt_of_cell? _ _ c3_v_0
  have B3 : Below w.heap.size w w3 := bn B2 S3
  clear g3 S3
  go_wp2_with fail
  refine (H33.out _ (hB.below (by repeat (first | exact br _ | assumption | refine ba ?_ | refine bd ?_ | refine below_drewN ?_ _ | refine bs ?_ (by (try simp) <;> omega))))).mono ?_
  rintro e w4 ⟨rfl, g4⟩
  have S4 : Below w3.heap.size w3 w4 := bn (by repeat (first | exact br _ | assumption | refine ba ?_ | refine bd ?_ | refine below_drewN ?_ _ | refine bs ?_ (by (try simp) <;> omega))) g4
  replace HV := Lib.hid (HV.out.below S4)
  have c4_v_0 : w4.cell? ⟨w.heap.size, 0, none⟩ = some (.string x) := bc g4 (by first | with_reducible assumption | go_simp)
  have c4_v_1 : w4.cell? ⟨w.heap.size, 1, none⟩ = some (.string y) := bc g4 (by first | with_reducible assumption | go_simp)
  have c4_v_2 : w4.cell? ⟨w.heap.size, 2, none⟩ = some (.string z) := bc g4 (by first | with_reducible assumption | go_simp)
  have z4_v : w.heap.size < w4.heap.size := World.block_lt_of_cell? _ _ c4_v_0
  have B4 : Below w.heap.size w w4 := bn B3 S4
  clear g4 S4
  go_wp2_with fail
  refine (H32.out _ (hB.below (by repeat (first | exact br _ | assumption | refine ba ?_ | refine bd ?_ | refine below_drewN ?_ _ | refine bs ?_ (by (try simp) <;> omega)))) (HV.out.below (by repeat (first | exact br _ | assumption | refine ba ?_ | refine bd ?_ | refine below_drewN ?_ _ | refine bs ?_ (by (try simp) <;> omega))))).mono ?_
  rintro e w5 ⟨rfl, g5⟩
  have S5 : Below w4.heap.size w4 w5 := bn (by repeat (first | exact br _ | assumption | refine ba ?_ | refine bd ?_ | refine below_drewN ?_ _ | refine bs ?_ (by (try simp) <;> omega))) g5
  replace HV := Lib.hid (HV.out.below S5)
  have c5_v_0 : w5.cell? ⟨w.heap.size, 0, none⟩ = some (.string x) := bc g5 (by first | with_reducible assumption | go_simp)
  have c5_v_1 : w5.cell? ⟨w.heap.size, 1, none⟩ = some (.string y) := bc g5 (by first | with_reducible assumption | go_simp)
  have c5_v_2 : w5.cell? ⟨w.heap.size, 2, none⟩ = some (.string z) := bc g5 (by first | with_reducible assumption | go_simp)
  have z5_v : w.heap.size < w5.heap.size := World.block_lt_of_cell? _ _ c5_v_0
  have B5 : Below w.heap.size w w5 := bn B4 S5
  clear g5 S5
  go_wp2_with fail
  refine (H0.out _ (hB.below (by repeat (first | exact br _ | assumption | refine ba ?_ | refine bd ?_ | refine below_drewN ?_ _ | refine bs ?_ (by (try simp) <;> omega))))).mono ?_
  rintro e w6 ⟨rfl, g6⟩
  have S6 : Below w5.heap.size w5 w6 := bn (by repeat (first | exact br _ | assumption | refine ba ?_ | refine bd ?_ | refine below_drewN ?_ _ | refine bs ?_ (by (try simp) <;> omega))) g6
  replace HV := Lib.hid (HV.out.below S6)
  have c6_v_0 : w6.cell? ⟨w.heap.size, 0, none⟩ = some (.string x) := bc g6 (by first | with_reducible assumption | go_simp)
  have c6_v_1 : w6.cell? ⟨w.heap.size, 1, none⟩ = some (.string y) := bc g6 (by first | with_reducible assumption | go_simp)
  have c6_v_2 : w6.cell? ⟨w.heap.size, 2, none⟩ = some (.string z) := bc g6 (by first | with_reducible assumption | go_simp)
  have z6_v : w.heap.size < w6.heap.size := World.block_lt_of_cell? _ _ c6_v_0
  have B6 : Below w.heap.size w w6 := bn B5 S6
  clear g6 S6
  go_wp2
  go_ret
  exact ⟨rfl, (by repeat (first | exact br _ | assumption | refine ba ?_ | refine bd ?_ | refine below_drewN ?_ _ | refine bs ?_ (by (try simp) <;> omega)))⟩

set_option maxHeartbeats 4000000 in
set_option maxRecDepth 100000 in
theorem mirrors_main (A : Option Addr) (n cap : Nat) (l : List TV) (x y z : ByteArray) (w : World) (hB : Bw w) (hv : Ts w (.slice A n cap) l)
    (lm lr ld : List TV) (x' y' z' : ByteArray) (c : Bool) (m : Nat) (u : Int)
    (hn : (n : Int) ≤ 24)
    (h20 : ∀ w, Ts w (.slice A n cap) l → Calls Tryz.prog 20 #[.slice A n cap] w fun e w' => e = .returned (.bool true) ∧ Below w.heap.size w w')
    (h11 : ∀ p w, Bk w p [.string x, .string y, .string z] → Calls Tryz.prog 11 #[.slice (some ⟨p, 0, none⟩) 1 1] w fun e w' => e = .returned (.bool true) ∧ Below w.heap.size w w')
    (h33 : ∀ w, Bw w → Calls Tryz.prog 33 #[.agg #[.string x, .string y, .string z]] w fun e w' => e = .returned (.bool true) ∧ Below w.heap.size w w')
    (h32 : ∀ w, Bw w → Ts w (.slice A n cap) l → Calls Tryz.prog 32 #[.slice A n cap] w fun e w' => e = .returned (.int .i64 0) ∧ Below w.heap.size w w')
    (hcl : ∀ A cap w, Ts w (.slice A n cap) l → Calls Tryz.prog 22 #[.slice A n cap] w (Ret fun r w' => (∃ A c, r = .slice A n c ∧ Ts w' (.slice A n c) l) ∧ Below w.heap.size w w'))
    (hcm : ∀ A cap w, Ts w (.slice A n cap) lm → Calls Tryz.prog 22 #[.slice A n cap] w (Ret fun r w' => (∃ A c, r = .slice A n c ∧ Ts w' (.slice A n c) lm) ∧ Below w.heap.size w w'))
    (hcd : ∀ A cap w, Ts w (.slice A n cap) ld → Calls Tryz.prog 22 #[.slice A n cap] w (Ret fun r w' => (∃ A c, r = .slice A n c ∧ Ts w' (.slice A n c) ld) ∧ Below w.heap.size w w'))
    (hm : ∀ A cap w, Bw w → Ts w (.slice A n cap) l → Calls Tryz.prog 26 #[.slice A n cap] w (Ret fun r w' => (∃ A c, r = .tuple #[.slice A n c, .int .i64 0] ∧ Ts w' (.slice A n c) lm) ∧ Below w.heap.size w w'))
    (hr : ∀ A cap w, Bw w → Ts w (.slice A n cap) l → Calls Tryz.prog 24 #[.slice A n cap] w (Ret fun r w' => (∃ A c, r = .tuple #[.slice A n c, .int .i64 0] ∧ Ts w' (.slice A n c) lr) ∧ Below w.heap.size w w'))
    (hd : ∀ A cap w, Bw w → Ts w (.slice A n cap) l → Calls Tryz.prog 21 #[.slice A n cap, .agg #[.string x, .string y, .string z]] w (Ret fun r w' => (∃ A c, r = .tuple #[.slice A n c, .int .i64 0] ∧ Ts w' (.slice A n c) ld) ∧ Below w.heap.size w w'))
    (hs : ∀ w, Bw w → Calls Tryz.prog 34 #[.agg #[.string x, .string y, .string z], .string ⟨#[45, 49]⟩] w fun e w' => e = .returned (.tuple #[.agg #[.string x', .string y', .string z'], .int .i64 0]) ∧ Below w.heap.size w w')
    (hmm : ∀ A cap w, Bw w → Ts w (.slice A n cap) lm → Calls Tryz.prog 26 #[.slice A n cap] w (Ret fun r w' => (∃ A c, r = .tuple #[.slice A n c, .int .i64 0] ∧ Ts w' (.slice A n c) l) ∧ Below w.heap.size w w'))
    (hrr : ∀ A cap w, Bw w → Ts w (.slice A n cap) lr → Calls Tryz.prog 24 #[.slice A n cap] w (Ret fun r w' => (∃ A c, r = .tuple #[.slice A n c, .int .i64 0] ∧ Ts w' (.slice A n c) l) ∧ Below w.heap.size w w'))
    (hdd : ∀ A cap w, Bw w → Ts w (.slice A n cap) ld → Calls Tryz.prog 21 #[.slice A n cap, .agg #[.string x', .string y', .string z']] w (Ret fun r w' => (∃ A c, r = .tuple #[.slice A n c, .int .i64 0] ∧ Ts w' (.slice A n c) l) ∧ Below w.heap.size w w'))
    (hx : ∀ A cap w, Bw w → Ts w (.slice A n cap) l → Calls Tryz.prog 30 #[.slice A n cap] w fun e w' => e = .returned (.tuple #[.bool c, .int .i64 0]) ∧ Below w.heap.size w w')
    (hxm : ∀ A cap w, Bw w → Ts w (.slice A n cap) lm → Calls Tryz.prog 30 #[.slice A n cap] w fun e w' => e = .returned (.tuple #[.bool c, .int .i64 0]) ∧ Below w.heap.size w w')
    (hxd : ∀ A cap w, Bw w → Ts w (.slice A n cap) ld → Calls Tryz.prog 30 #[.slice A n cap] w fun e w' => e = .returned (.tuple #[.bool c, .int .i64 0]) ∧ Below w.heap.size w w')
    (hp : ∀ A cap w, Bw w → Ts w (.slice A n cap) l → Calls Tryz.prog 35 #[.slice A n cap] w (Ret fun r w' => (∃ A c, r = .tuple #[.slice A m c, .int .i64 0]) ∧ Below w.heap.size w w'))
    (hpm : ∀ A cap w, Bw w → Ts w (.slice A n cap) lm → Calls Tryz.prog 35 #[.slice A n cap] w (Ret fun r w' => (∃ A c, r = .tuple #[.slice A m c, .int .i64 0]) ∧ Below w.heap.size w w'))
    (hn1 : ∀ A cap w, Bw w → Ts w (.slice A n cap) l → Calls Tryz.prog 31 #[.slice A n cap] w fun e w' => e = .returned (.tuple #[.int .i64 u, .int .i64 0]) ∧ Below w.heap.size w w')
    (hn2 : ∀ A cap w, Bw w → Ts w (.slice A n cap) ld → Calls Tryz.prog 31 #[.slice A n cap] w fun e w' => e = .returned (.tuple #[.int .i64 u, .int .i64 0]) ∧ Below w.heap.size w w') :
    Calls Tryz.prog 6 #[.slice A n cap, .agg #[.string x, .string y, .string z]] w fun e w' => e = .returned (.bool true) ∧ Below w.heap.size w w' := by
  have HV := Lib.hid hv
  clear hv
  have H0 := Lib.hid (fun w hB => awake_walk w hB)
  have H20 := Lib.hid h20
  clear h20
  have H11 := Lib.hid h11
  clear h11
  have H33 := Lib.hid h33
  clear h33
  have H32 := Lib.hid h32
  clear h32
  have HCL := Lib.hid hcl
  clear hcl
  have HCM := Lib.hid hcm
  clear hcm
  have HCD := Lib.hid hcd
  clear hcd
  have HM := Lib.hid hm
  clear hm
  have HR := Lib.hid hr
  clear hr
  have HD := Lib.hid hd
  clear hd
  have HS := Lib.hid hs
  clear hs
  have HMM := Lib.hid hmm
  clear hmm
  have HRR := Lib.hid hrr
  clear hrr
  have HDD := Lib.hid hdd
  clear hdd
  have HX := Lib.hid hx
  clear hx
  have HXM := Lib.hid hxm
  clear hxm
  have HXD := Lib.hid hxd
  clear hxd
  have HP := Lib.hid hp
  clear hp
  have HPM := Lib.hid hpm
  clear hpm
  have HN1 := Lib.hid hn1
  clear hn1
  have HN2 := Lib.hid hn2
  clear hn2
  go_enter Tryz.func6, Tryz.ntmps6
  go_wp2_with fail
  refine (H0.out _ (hB.below (by repeat (first | exact br _ | assumption | refine ba ?_ | refine bd ?_ | refine below_drewN ?_ _ | refine bs ?_ (by (try simp) <;> omega))))).mono ?_
  rintro e w1 ⟨rfl, g1⟩
  have S1 : Below w.heap.size w w1 := bn (by repeat (first | exact br _ | assumption | refine ba ?_ | refine bd ?_ | refine below_drewN ?_ _ | refine bs ?_ (by (try simp) <;> omega))) g1
  replace HV := Lib.hid (HV.out.below S1)
  have c1_v_0 : w1.cell? ⟨w.heap.size, 0, none⟩ = some (.string x) := bc g1 (by first | with_reducible assumption | go_simp)
  have c1_v_1 : w1.cell? ⟨w.heap.size, 1, none⟩ = some (.string y) := bc g1 (by first | with_reducible assumption | go_simp)
  have c1_v_2 : w1.cell? ⟨w.heap.size, 2, none⟩ = some (.string z) := bc g1 (by first | with_reducible assumption | go_simp)
  have z1_v : w.heap.size < w1.heap.size := World.block_lt_of_cell? _ _ c1_v_0
  have B1 : Below w.heap.size w w1 := S1
  clear g1
  go_wp2_with fail
  refine (H20.out _ (HV.out.below (by repeat (first | exact br _ | assumption | refine ba ?_ | refine bd ?_ | refine below_drewN ?_ _ | refine bs ?_ (by (try simp) <;> omega))))).mono ?_
  rintro e w2 ⟨rfl, g2⟩
  have S2 : Below w1.heap.size w1 w2 := bn (by repeat (first | exact br _ | assumption | refine ba ?_ | refine bd ?_ | refine below_drewN ?_ _ | refine bs ?_ (by (try simp) <;> omega))) g2
  replace HV := Lib.hid (HV.out.below S2)
  have c2_v_0 : w2.cell? ⟨w.heap.size, 0, none⟩ = some (.string x) := bc g2 (by first | with_reducible assumption | go_simp)
  have c2_v_1 : w2.cell? ⟨w.heap.size, 1, none⟩ = some (.string y) := bc g2 (by first | with_reducible assumption | go_simp)
  have c2_v_2 : w2.cell? ⟨w.heap.size, 2, none⟩ = some (.string z) := bc g2 (by first | with_reducible assumption | go_simp)
  have z2_v : w.heap.size < w2.heap.size := World.block_lt_of_cell? _ _ c2_v_0
  have B2 : Below w.heap.size w w2 := bn B1 S2
  clear g2 S2
  go_wp2_with fail
  refine (H11.out _ _ (bk_at rfl)).mono ?_
  rintro e w3 ⟨rfl, g3⟩
  have S3 : Below w2.heap.size w2 w3 := bn (by repeat (first | exact br _ | assumption | refine ba ?_ | refine bd ?_ | refine below_drewN ?_ _ | refine bs ?_ (by (try simp) <;> omega))) g3
  replace HV := Lib.hid (HV.out.below S3)
  have c3_v_0 : w3.cell? ⟨w.heap.size, 0, none⟩ = some (.string x) := bc g3 (by first | with_reducible assumption | go_simp)
  have c3_v_1 : w3.cell? ⟨w.heap.size, 1, none⟩ = some (.string y) := bc g3 (by first | with_reducible assumption | go_simp)
  have c3_v_2 : w3.cell? ⟨w.heap.size, 2, none⟩ = some (.string z) := bc g3 (by first | with_reducible assumption | go_simp)
  have z3_v : w.heap.size < w3.heap.size := World.block_lt_of_cell? _ _ c3_v_0
  have B3 : Below w.heap.size w w3 := bn B2 S3
  clear g3 S3
  go_wp2_with fail
  refine (H33.out _ (hB.below (by repeat (first | exact br _ | assumption | refine ba ?_ | refine bd ?_ | refine below_drewN ?_ _ | refine bs ?_ (by (try simp) <;> omega))))).mono ?_
  rintro e w4 ⟨rfl, g4⟩
  have S4 : Below w3.heap.size w3 w4 := bn (by repeat (first | exact br _ | assumption | refine ba ?_ | refine bd ?_ | refine below_drewN ?_ _ | refine bs ?_ (by (try simp) <;> omega))) g4
  replace HV := Lib.hid (HV.out.below S4)
  have c4_v_0 : w4.cell? ⟨w.heap.size, 0, none⟩ = some (.string x) := bc g4 (by first | with_reducible assumption | go_simp)
  have c4_v_1 : w4.cell? ⟨w.heap.size, 1, none⟩ = some (.string y) := bc g4 (by first | with_reducible assumption | go_simp)
  have c4_v_2 : w4.cell? ⟨w.heap.size, 2, none⟩ = some (.string z) := bc g4 (by first | with_reducible assumption | go_simp)
  have z4_v : w.heap.size < w4.heap.size := World.block_lt_of_cell? _ _ c4_v_0
  have B4 : Below w.heap.size w w4 := bn B3 S4
  clear g4 S4
  go_wp2_with fail
  refine (H32.out _ (hB.below (by repeat (first | exact br _ | assumption | refine ba ?_ | refine bd ?_ | refine below_drewN ?_ _ | refine bs ?_ (by (try simp) <;> omega)))) (HV.out.below (by repeat (first | exact br _ | assumption | refine ba ?_ | refine bd ?_ | refine below_drewN ?_ _ | refine bs ?_ (by (try simp) <;> omega))))).mono ?_
  rintro e w5 ⟨rfl, g5⟩
  have S5 : Below w4.heap.size w4 w5 := bn (by repeat (first | exact br _ | assumption | refine ba ?_ | refine bd ?_ | refine below_drewN ?_ _ | refine bs ?_ (by (try simp) <;> omega))) g5
  replace HV := Lib.hid (HV.out.below S5)
  have c5_v_0 : w5.cell? ⟨w.heap.size, 0, none⟩ = some (.string x) := bc g5 (by first | with_reducible assumption | go_simp)
  have c5_v_1 : w5.cell? ⟨w.heap.size, 1, none⟩ = some (.string y) := bc g5 (by first | with_reducible assumption | go_simp)
  have c5_v_2 : w5.cell? ⟨w.heap.size, 2, none⟩ = some (.string z) := bc g5 (by first | with_reducible assumption | go_simp)
  have z5_v : w.heap.size < w5.heap.size := World.block_lt_of_cell? _ _ c5_v_0
  have B5 : Below w.heap.size w w5 := bn B4 S5
  clear g5 S5
  go_wp2_with fail
  refine (HCL.out _ _ _ (HV.out.below (by repeat (first | exact br _ | assumption | refine ba ?_ | refine bd ?_ | refine below_drewN ?_ _ | refine bs ?_ (by (try simp) <;> omega))))).mono ?_
  rintro e w6 ⟨_, rfl, ⟨AV1, cV1, rfl, V1'⟩, g6⟩
  have S6 : Below w5.heap.size w5 w6 := bn (by repeat (first | exact br _ | assumption | refine ba ?_ | refine bd ?_ | refine below_drewN ?_ _ | refine bs ?_ (by (try simp) <;> omega))) g6
  replace HV := Lib.hid (HV.out.below S6)
  have c6_v_0 : w6.cell? ⟨w.heap.size, 0, none⟩ = some (.string x) := bc g6 (by first | with_reducible assumption | go_simp)
  have c6_v_1 : w6.cell? ⟨w.heap.size, 1, none⟩ = some (.string y) := bc g6 (by first | with_reducible assumption | go_simp)
  have c6_v_2 : w6.cell? ⟨w.heap.size, 2, none⟩ = some (.string z) := bc g6 (by first | with_reducible assumption | go_simp)
  have z6_v : w.heap.size < w6.heap.size := World.block_lt_of_cell? _ _ c6_v_0
  have B6 : Below w.heap.size w w6 := bn B5 S6
  clear g6 S6
  have V1 := Lib.hid V1'
  clear V1'
  go_wp2_with fail
  refine (HM.out _ _ _ (hB.below (by repeat (first | exact br _ | assumption | refine ba ?_ | refine bd ?_ | refine below_drewN ?_ _ | refine bs ?_ (by (try simp) <;> omega)))) (V1.out.below (by repeat (first | exact br _ | assumption | refine ba ?_ | refine bd ?_ | refine below_drewN ?_ _ | refine bs ?_ (by (try simp) <;> omega))))).mono ?_
  rintro e w7 ⟨_, rfl, ⟨AVM, cVM, rfl, VM'⟩, g7⟩
  have S7 : Below w6.heap.size w6 w7 := bn (by repeat (first | exact br _ | assumption | refine ba ?_ | refine bd ?_ | refine below_drewN ?_ _ | refine bs ?_ (by (try simp) <;> omega))) g7
  replace HV := Lib.hid (HV.out.below S7)
  replace V1 := Lib.hid (V1.out.below S7)
  have c7_v_0 : w7.cell? ⟨w.heap.size, 0, none⟩ = some (.string x) := bc g7 (by first | with_reducible assumption | go_simp)
  have c7_v_1 : w7.cell? ⟨w.heap.size, 1, none⟩ = some (.string y) := bc g7 (by first | with_reducible assumption | go_simp)
  have c7_v_2 : w7.cell? ⟨w.heap.size, 2, none⟩ = some (.string z) := bc g7 (by first | with_reducible assumption | go_simp)
  have z7_v : w.heap.size < w7.heap.size := World.block_lt_of_cell? _ _ c7_v_0
  have B7 : Below w.heap.size w w7 := bn B6 S7
  clear g7 S7
  have VM := Lib.hid VM'
  clear VM'
  clear V1
  go_wp2_with fail
  refine (HCL.out _ _ _ (HV.out.below (by repeat (first | exact br _ | assumption | refine ba ?_ | refine bd ?_ | refine below_drewN ?_ _ | refine bs ?_ (by (try simp) <;> omega))))).mono ?_
  rintro e w8 ⟨_, rfl, ⟨AV2, cV2, rfl, V2'⟩, g8⟩
  have S8 : Below w7.heap.size w7 w8 := bn (by repeat (first | exact br _ | assumption | refine ba ?_ | refine bd ?_ | refine below_drewN ?_ _ | refine bs ?_ (by (try simp) <;> omega))) g8
  replace HV := Lib.hid (HV.out.below S8)
  replace VM := Lib.hid (VM.out.below S8)
  have c8_v_0 : w8.cell? ⟨w.heap.size, 0, none⟩ = some (.string x) := bc g8 (by first | with_reducible assumption | go_simp)
  have c8_v_1 : w8.cell? ⟨w.heap.size, 1, none⟩ = some (.string y) := bc g8 (by first | with_reducible assumption | go_simp)
  have c8_v_2 : w8.cell? ⟨w.heap.size, 2, none⟩ = some (.string z) := bc g8 (by first | with_reducible assumption | go_simp)
  have z8_v : w.heap.size < w8.heap.size := World.block_lt_of_cell? _ _ c8_v_0
  have B8 : Below w.heap.size w w8 := bn B7 S8
  clear g8 S8
  have V2 := Lib.hid V2'
  clear V2'
  go_wp2_with fail
  refine (HR.out _ _ _ (hB.below (by repeat (first | exact br _ | assumption | refine ba ?_ | refine bd ?_ | refine below_drewN ?_ _ | refine bs ?_ (by (try simp) <;> omega)))) (V2.out.below (by repeat (first | exact br _ | assumption | refine ba ?_ | refine bd ?_ | refine below_drewN ?_ _ | refine bs ?_ (by (try simp) <;> omega))))).mono ?_
  rintro e w9 ⟨_, rfl, ⟨AVR, cVR, rfl, VR'⟩, g9⟩
  have S9 : Below w8.heap.size w8 w9 := bn (by repeat (first | exact br _ | assumption | refine ba ?_ | refine bd ?_ | refine below_drewN ?_ _ | refine bs ?_ (by (try simp) <;> omega))) g9
  replace HV := Lib.hid (HV.out.below S9)
  replace VM := Lib.hid (VM.out.below S9)
  replace V2 := Lib.hid (V2.out.below S9)
  have c9_v_0 : w9.cell? ⟨w.heap.size, 0, none⟩ = some (.string x) := bc g9 (by first | with_reducible assumption | go_simp)
  have c9_v_1 : w9.cell? ⟨w.heap.size, 1, none⟩ = some (.string y) := bc g9 (by first | with_reducible assumption | go_simp)
  have c9_v_2 : w9.cell? ⟨w.heap.size, 2, none⟩ = some (.string z) := bc g9 (by first | with_reducible assumption | go_simp)
  have z9_v : w.heap.size < w9.heap.size := World.block_lt_of_cell? _ _ c9_v_0
  have B9 : Below w.heap.size w w9 := bn B8 S9
  clear g9 S9
  have VR := Lib.hid VR'
  clear VR'
  clear V2
  go_wp2
  go_region_held3 (fun w' => w'.cell? ⟨w.heap.size, 0, none⟩ = some (.string x) ∧ w'.cell? ⟨w.heap.size, 1, none⟩ = some (.string y) ∧ w'.cell? ⟨w.heap.size, 2, none⟩ = some (.string z) ∧ Below w9.heap.size w9 w')
    ((refine (fun hb => ⟨bc hb c9_v_0, bc hb c9_v_1, bc hb c9_v_2, hb⟩) ?_; go_split_ands; repeat (first | with_reducible assumption | (with_reducible exact bd (br _)) | (with_reducible exact br _) | (with_reducible refine bn ?_ g) | (with_reducible refine ba ?_) | (with_reducible refine bd ?_))))
    (first
      | (go_at_call 22; refine (HCL.out _ _ _ (HV.out.below (by go_split_ands; assumption))).mono ?_; rintro e wx1 ⟨_, rfl, ⟨A3, c3, rfl, q3⟩, g⟩; have X1 : Below w9.heap.size w9 wx1 := bn (by go_split_ands; assumption) g; have V3 := Lib.hid q3; clear q3)
      | (go_at_call 21; refine (HD.out _ _ _ (hB.below (bn B9 (by go_split_ands; assumption))) (V3.out.below (by repeat (first | with_reducible exact br _ | with_reducible assumption | with_reducible refine ba ?_ | with_reducible refine bd ?_ | (refine below_drewN ?_ _))))).mono ?_; rintro e w10 ⟨_, rfl, ⟨AVD, cVD, rfl, VD'⟩, g⟩; have S10 : Below w9.heap.size w9 w10 := bn (by go_split_ands; assumption) g; have VD := Lib.hid VD'; clear VD'))
  clear V3
  have g10 := S10
  replace HV := Lib.hid (HV.out.below S10)
  replace VM := Lib.hid (VM.out.below S10)
  replace VR := Lib.hid (VR.out.below S10)
  have c10_v_0 : w10.cell? ⟨w.heap.size, 0, none⟩ = some (.string x) := bc g10 (by first | with_reducible assumption | go_simp)
  have c10_v_1 : w10.cell? ⟨w.heap.size, 1, none⟩ = some (.string y) := bc g10 (by first | with_reducible assumption | go_simp)
  have c10_v_2 : w10.cell? ⟨w.heap.size, 2, none⟩ = some (.string z) := bc g10 (by first | with_reducible assumption | go_simp)
  have z10_v : w.heap.size < w10.heap.size := World.block_lt_of_cell? _ _ c10_v_0
  have B10 : Below w.heap.size w w10 := bn B9 S10
  clear g10 S10
  go_wp2_with fail
  refine (HS.out _ (hB.below (by repeat (first | exact br _ | assumption | refine ba ?_ | refine bd ?_ | refine below_drewN ?_ _ | refine bs ?_ (by (try simp) <;> omega))))).mono ?_
  rintro e w11 ⟨rfl, g11⟩
  have S11 : Below w10.heap.size w10 w11 := bn (by repeat (first | exact br _ | assumption | refine ba ?_ | refine bd ?_ | refine below_drewN ?_ _ | refine bs ?_ (by (try simp) <;> omega))) g11
  replace HV := Lib.hid (HV.out.below S11)
  replace VM := Lib.hid (VM.out.below S11)
  replace VR := Lib.hid (VR.out.below S11)
  replace VD := Lib.hid (VD.out.below S11)
  have c11_v_0 : w11.cell? ⟨w.heap.size, 0, none⟩ = some (.string x) := bc g11 (by first | with_reducible assumption | go_simp)
  have c11_v_1 : w11.cell? ⟨w.heap.size, 1, none⟩ = some (.string y) := bc g11 (by first | with_reducible assumption | go_simp)
  have c11_v_2 : w11.cell? ⟨w.heap.size, 2, none⟩ = some (.string z) := bc g11 (by first | with_reducible assumption | go_simp)
  have z11_v : w.heap.size < w11.heap.size := World.block_lt_of_cell? _ _ c11_v_0
  have B11 : Below w.heap.size w w11 := bn B10 S11
  clear g11 S11
  go_wp2_with fail
  refine (HMM.out _ _ _ (hB.below (by repeat (first | exact br _ | assumption | refine ba ?_ | refine bd ?_ | refine below_drewN ?_ _ | refine bs ?_ (by (try simp) <;> omega)))) (VM.out.below (by repeat (first | exact br _ | assumption | refine ba ?_ | refine bd ?_ | refine below_drewN ?_ _ | refine bs ?_ (by (try simp) <;> omega))))).mono ?_
  rintro e w12 ⟨_, rfl, ⟨AVX, cVX, rfl, VX'⟩, g12⟩
  have S12 : Below w11.heap.size w11 w12 := bn (by repeat (first | exact br _ | assumption | refine ba ?_ | refine bd ?_ | refine below_drewN ?_ _ | refine bs ?_ (by (try simp) <;> omega))) g12
  replace HV := Lib.hid (HV.out.below S12)
  replace VM := Lib.hid (VM.out.below S12)
  replace VR := Lib.hid (VR.out.below S12)
  replace VD := Lib.hid (VD.out.below S12)
  have c12_b_0 : w12.cell? ⟨w11.heap.size, 0, none⟩ = some (.string x') := bc g12 (by first | with_reducible assumption | go_simp)
  have c12_b_1 : w12.cell? ⟨w11.heap.size, 1, none⟩ = some (.string y') := bc g12 (by first | with_reducible assumption | go_simp)
  have c12_b_2 : w12.cell? ⟨w11.heap.size, 2, none⟩ = some (.string z') := bc g12 (by first | with_reducible assumption | go_simp)
  have z12_b : w11.heap.size < w12.heap.size := World.block_lt_of_cell? _ _ c12_b_0
  have B12 : Below w.heap.size w w12 := bn B11 S12
  clear g12 S12
  have VX := Lib.hid VX'
  clear VX'
  go_wp2_with fail
  refine (HRR.out _ _ _ (hB.below (by repeat (first | exact br _ | assumption | refine ba ?_ | refine bd ?_ | refine below_drewN ?_ _ | refine bs ?_ (by (try simp) <;> omega)))) (VR.out.below (by repeat (first | exact br _ | assumption | refine ba ?_ | refine bd ?_ | refine below_drewN ?_ _ | refine bs ?_ (by (try simp) <;> omega))))).mono ?_
  rintro e w13 ⟨_, rfl, ⟨AVY, cVY, rfl, VY'⟩, g13⟩
  have S13 : Below w12.heap.size w12 w13 := bn (by repeat (first | exact br _ | assumption | refine ba ?_ | refine bd ?_ | refine below_drewN ?_ _ | refine bs ?_ (by (try simp) <;> omega))) g13
  replace HV := Lib.hid (HV.out.below S13)
  replace VM := Lib.hid (VM.out.below S13)
  replace VR := Lib.hid (VR.out.below S13)
  replace VD := Lib.hid (VD.out.below S13)
  replace VX := Lib.hid (VX.out.below S13)
  have c13_b_0 : w13.cell? ⟨w11.heap.size, 0, none⟩ = some (.string x') := bc g13 (by first | with_reducible assumption | go_simp)
  have c13_b_1 : w13.cell? ⟨w11.heap.size, 1, none⟩ = some (.string y') := bc g13 (by first | with_reducible assumption | go_simp)
  have c13_b_2 : w13.cell? ⟨w11.heap.size, 2, none⟩ = some (.string z') := bc g13 (by first | with_reducible assumption | go_simp)
  have z13_b : w11.heap.size < w13.heap.size := World.block_lt_of_cell? _ _ c13_b_0
  have B13 : Below w.heap.size w w13 := bn B12 S13
  clear g13 S13
  have VY := Lib.hid VY'
  clear VY'
  clear VR
  go_wp2_with fail
  refine (HDD.out _ _ _ (hB.below (by repeat (first | exact br _ | assumption | refine ba ?_ | refine bd ?_ | refine below_drewN ?_ _ | refine bs ?_ (by (try simp) <;> omega)))) (VD.out.below (by repeat (first | exact br _ | assumption | refine ba ?_ | refine bd ?_ | refine below_drewN ?_ _ | refine bs ?_ (by (try simp) <;> omega))))).mono ?_
  rintro e w14 ⟨_, rfl, ⟨AVZ, cVZ, rfl, VZ'⟩, g14⟩
  have S14 : Below w13.heap.size w13 w14 := bn (by repeat (first | exact br _ | assumption | refine ba ?_ | refine bd ?_ | refine below_drewN ?_ _ | refine bs ?_ (by (try simp) <;> omega))) g14
  replace HV := Lib.hid (HV.out.below S14)
  replace VM := Lib.hid (VM.out.below S14)
  replace VD := Lib.hid (VD.out.below S14)
  replace VX := Lib.hid (VX.out.below S14)
  replace VY := Lib.hid (VY.out.below S14)
  have c14_b_0 : w14.cell? ⟨w11.heap.size, 0, none⟩ = some (.string x') := bc g14 (by first | with_reducible assumption | go_simp)
  have c14_b_1 : w14.cell? ⟨w11.heap.size, 1, none⟩ = some (.string y') := bc g14 (by first | with_reducible assumption | go_simp)
  have c14_b_2 : w14.cell? ⟨w11.heap.size, 2, none⟩ = some (.string z') := bc g14 (by first | with_reducible assumption | go_simp)
  have z14_b : w11.heap.size < w14.heap.size := World.block_lt_of_cell? _ _ c14_b_0
  have B14 : Below w.heap.size w w14 := bn B13 S14
  clear g14 S14
  have VZ := Lib.hid VZ'
  clear VZ'
  go_wp2_with fail
  refine (HCL.out _ _ _ (HV.out.below (by repeat (first | exact br _ | assumption | refine ba ?_ | refine bd ?_ | refine below_drewN ?_ _ | refine bs ?_ (by (try simp) <;> omega))))).mono ?_
  rintro e w15 ⟨_, rfl, ⟨AVC, cVC, rfl, VC'⟩, g15⟩
  have S15 : Below w14.heap.size w14 w15 := bn (by repeat (first | exact br _ | assumption | refine ba ?_ | refine bd ?_ | refine below_drewN ?_ _ | refine bs ?_ (by (try simp) <;> omega))) g15
  replace HV := Lib.hid (HV.out.below S15)
  replace VM := Lib.hid (VM.out.below S15)
  replace VD := Lib.hid (VD.out.below S15)
  replace VX := Lib.hid (VX.out.below S15)
  replace VY := Lib.hid (VY.out.below S15)
  replace VZ := Lib.hid (VZ.out.below S15)
  have B15 : Below w.heap.size w w15 := bn B14 S15
  clear g15 S15
  have VC := Lib.hid VC'
  clear VC'
  go_wp2_with fail
  refine (HX.out _ _ _ (hB.below (by repeat (first | exact br _ | assumption | refine ba ?_ | refine bd ?_ | refine below_drewN ?_ _ | refine bs ?_ (by (try simp) <;> omega)))) (VC.out.below (by repeat (first | exact br _ | assumption | refine ba ?_ | refine bd ?_ | refine below_drewN ?_ _ | refine bs ?_ (by (try simp) <;> omega))))).mono ?_
  rintro e w16 ⟨rfl, g16⟩
  have S16 : Below w15.heap.size w15 w16 := bn (by repeat (first | exact br _ | assumption | refine ba ?_ | refine bd ?_ | refine below_drewN ?_ _ | refine bs ?_ (by (try simp) <;> omega))) g16
  replace HV := Lib.hid (HV.out.below S16)
  replace VM := Lib.hid (VM.out.below S16)
  replace VD := Lib.hid (VD.out.below S16)
  replace VX := Lib.hid (VX.out.below S16)
  replace VY := Lib.hid (VY.out.below S16)
  replace VZ := Lib.hid (VZ.out.below S16)
  replace VC := Lib.hid (VC.out.below S16)
  have B16 : Below w.heap.size w w16 := bn B15 S16
  clear g16 S16
  clear VC
  go_wp2_with fail
  refine (HCM.out _ _ _ (VM.out.below (by repeat (first | exact br _ | assumption | refine ba ?_ | refine bd ?_ | refine below_drewN ?_ _ | refine bs ?_ (by (try simp) <;> omega))))).mono ?_
  rintro e w17 ⟨_, rfl, ⟨AVC, cVC, rfl, VC'⟩, g17⟩
  have S17 : Below w16.heap.size w16 w17 := bn (by repeat (first | exact br _ | assumption | refine ba ?_ | refine bd ?_ | refine below_drewN ?_ _ | refine bs ?_ (by (try simp) <;> omega))) g17
  replace HV := Lib.hid (HV.out.below S17)
  replace VM := Lib.hid (VM.out.below S17)
  replace VD := Lib.hid (VD.out.below S17)
  replace VX := Lib.hid (VX.out.below S17)
  replace VY := Lib.hid (VY.out.below S17)
  replace VZ := Lib.hid (VZ.out.below S17)
  have B17 : Below w.heap.size w w17 := bn B16 S17
  clear g17 S17
  have VC := Lib.hid VC'
  clear VC'
  go_wp2_with fail
  refine (HXM.out _ _ _ (hB.below (by repeat (first | exact br _ | assumption | refine ba ?_ | refine bd ?_ | refine below_drewN ?_ _ | refine bs ?_ (by (try simp) <;> omega)))) (VC.out.below (by repeat (first | exact br _ | assumption | refine ba ?_ | refine bd ?_ | refine below_drewN ?_ _ | refine bs ?_ (by (try simp) <;> omega))))).mono ?_
  rintro e w18 ⟨rfl, g18⟩
  have S18 : Below w17.heap.size w17 w18 := bn (by repeat (first | exact br _ | assumption | refine ba ?_ | refine bd ?_ | refine below_drewN ?_ _ | refine bs ?_ (by (try simp) <;> omega))) g18
  replace HV := Lib.hid (HV.out.below S18)
  replace VM := Lib.hid (VM.out.below S18)
  replace VD := Lib.hid (VD.out.below S18)
  replace VX := Lib.hid (VX.out.below S18)
  replace VY := Lib.hid (VY.out.below S18)
  replace VZ := Lib.hid (VZ.out.below S18)
  replace VC := Lib.hid (VC.out.below S18)
  have B18 : Below w.heap.size w w18 := bn B17 S18
  clear g18 S18
  clear VC
  go_wp2_with fail
  refine (HCD.out _ _ _ (VD.out.below (by repeat (first | exact br _ | assumption | refine ba ?_ | refine bd ?_ | refine below_drewN ?_ _ | refine bs ?_ (by (try simp) <;> omega))))).mono ?_
  rintro e w19 ⟨_, rfl, ⟨AVC, cVC, rfl, VC'⟩, g19⟩
  have S19 : Below w18.heap.size w18 w19 := bn (by repeat (first | exact br _ | assumption | refine ba ?_ | refine bd ?_ | refine below_drewN ?_ _ | refine bs ?_ (by (try simp) <;> omega))) g19
  replace HV := Lib.hid (HV.out.below S19)
  replace VM := Lib.hid (VM.out.below S19)
  replace VD := Lib.hid (VD.out.below S19)
  replace VX := Lib.hid (VX.out.below S19)
  replace VY := Lib.hid (VY.out.below S19)
  replace VZ := Lib.hid (VZ.out.below S19)
  have B19 : Below w.heap.size w w19 := bn B18 S19
  clear g19 S19
  have VC := Lib.hid VC'
  clear VC'
  go_wp2_with fail
  refine (HXD.out _ _ _ (hB.below (by repeat (first | exact br _ | assumption | refine ba ?_ | refine bd ?_ | refine below_drewN ?_ _ | refine bs ?_ (by (try simp) <;> omega)))) (VC.out.below (by repeat (first | exact br _ | assumption | refine ba ?_ | refine bd ?_ | refine below_drewN ?_ _ | refine bs ?_ (by (try simp) <;> omega))))).mono ?_
  rintro e w20 ⟨rfl, g20⟩
  have S20 : Below w19.heap.size w19 w20 := bn (by repeat (first | exact br _ | assumption | refine ba ?_ | refine bd ?_ | refine below_drewN ?_ _ | refine bs ?_ (by (try simp) <;> omega))) g20
  replace HV := Lib.hid (HV.out.below S20)
  replace VM := Lib.hid (VM.out.below S20)
  replace VD := Lib.hid (VD.out.below S20)
  replace VX := Lib.hid (VX.out.below S20)
  replace VY := Lib.hid (VY.out.below S20)
  replace VZ := Lib.hid (VZ.out.below S20)
  replace VC := Lib.hid (VC.out.below S20)
  have B20 : Below w.heap.size w w20 := bn B19 S20
  clear g20 S20
  clear VC
  go_wp2_with fail
  refine (HCL.out _ _ _ (HV.out.below (by repeat (first | exact br _ | assumption | refine ba ?_ | refine bd ?_ | refine below_drewN ?_ _ | refine bs ?_ (by (try simp) <;> omega))))).mono ?_
  rintro e w21 ⟨_, rfl, ⟨AVC, cVC, rfl, VC'⟩, g21⟩
  have S21 : Below w20.heap.size w20 w21 := bn (by repeat (first | exact br _ | assumption | refine ba ?_ | refine bd ?_ | refine below_drewN ?_ _ | refine bs ?_ (by (try simp) <;> omega))) g21
  replace HV := Lib.hid (HV.out.below S21)
  replace VM := Lib.hid (VM.out.below S21)
  replace VD := Lib.hid (VD.out.below S21)
  replace VX := Lib.hid (VX.out.below S21)
  replace VY := Lib.hid (VY.out.below S21)
  replace VZ := Lib.hid (VZ.out.below S21)
  have B21 : Below w.heap.size w w21 := bn B20 S21
  clear g21 S21
  have VC := Lib.hid VC'
  clear VC'
  go_wp2_with fail
  refine (HP.out _ _ _ (hB.below (by repeat (first | exact br _ | assumption | refine ba ?_ | refine bd ?_ | refine below_drewN ?_ _ | refine bs ?_ (by (try simp) <;> omega)))) (VC.out.below (by repeat (first | exact br _ | assumption | refine ba ?_ | refine bd ?_ | refine below_drewN ?_ _ | refine bs ?_ (by (try simp) <;> omega))))).mono ?_
  rintro e w22 ⟨_, rfl, ⟨AP, cP, rfl⟩, g22⟩
  have S22 : Below w21.heap.size w21 w22 := bn (by repeat (first | exact br _ | assumption | refine ba ?_ | refine bd ?_ | refine below_drewN ?_ _ | refine bs ?_ (by (try simp) <;> omega))) g22
  replace HV := Lib.hid (HV.out.below S22)
  replace VM := Lib.hid (VM.out.below S22)
  replace VD := Lib.hid (VD.out.below S22)
  replace VX := Lib.hid (VX.out.below S22)
  replace VY := Lib.hid (VY.out.below S22)
  replace VZ := Lib.hid (VZ.out.below S22)
  replace VC := Lib.hid (VC.out.below S22)
  have B22 : Below w.heap.size w w22 := bn B21 S22
  clear g22 S22
  clear VC
  go_wp2_with fail
  refine (HCM.out _ _ _ (VM.out.below (by repeat (first | exact br _ | assumption | refine ba ?_ | refine bd ?_ | refine below_drewN ?_ _ | refine bs ?_ (by (try simp) <;> omega))))).mono ?_
  rintro e w23 ⟨_, rfl, ⟨AVC, cVC, rfl, VC'⟩, g23⟩
  have S23 : Below w22.heap.size w22 w23 := bn (by repeat (first | exact br _ | assumption | refine ba ?_ | refine bd ?_ | refine below_drewN ?_ _ | refine bs ?_ (by (try simp) <;> omega))) g23
  replace HV := Lib.hid (HV.out.below S23)
  replace VM := Lib.hid (VM.out.below S23)
  replace VD := Lib.hid (VD.out.below S23)
  replace VX := Lib.hid (VX.out.below S23)
  replace VY := Lib.hid (VY.out.below S23)
  replace VZ := Lib.hid (VZ.out.below S23)
  have B23 : Below w.heap.size w w23 := bn B22 S23
  clear g23 S23
  have VC := Lib.hid VC'
  clear VC'
  go_wp2_with fail
  refine (HPM.out _ _ _ (hB.below (by repeat (first | exact br _ | assumption | refine ba ?_ | refine bd ?_ | refine below_drewN ?_ _ | refine bs ?_ (by (try simp) <;> omega)))) (VC.out.below (by repeat (first | exact br _ | assumption | refine ba ?_ | refine bd ?_ | refine below_drewN ?_ _ | refine bs ?_ (by (try simp) <;> omega))))).mono ?_
  rintro e w24 ⟨_, rfl, ⟨AQ, cQ, rfl⟩, g24⟩
  have S24 : Below w23.heap.size w23 w24 := bn (by repeat (first | exact br _ | assumption | refine ba ?_ | refine bd ?_ | refine below_drewN ?_ _ | refine bs ?_ (by (try simp) <;> omega))) g24
  replace HV := Lib.hid (HV.out.below S24)
  replace VM := Lib.hid (VM.out.below S24)
  replace VD := Lib.hid (VD.out.below S24)
  replace VX := Lib.hid (VX.out.below S24)
  replace VY := Lib.hid (VY.out.below S24)
  replace VZ := Lib.hid (VZ.out.below S24)
  replace VC := Lib.hid (VC.out.below S24)
  have B24 : Below w.heap.size w w24 := bn B23 S24
  clear g24 S24
  clear VC
  clear VM
  go_wp2_with fail
  refine (HCL.out _ _ _ (HV.out.below (by repeat (first | exact br _ | assumption | refine ba ?_ | refine bd ?_ | refine below_drewN ?_ _ | refine bs ?_ (by (try simp) <;> omega))))).mono ?_
  rintro e w25 ⟨_, rfl, ⟨AVC, cVC, rfl, VC'⟩, g25⟩
  have S25 : Below w24.heap.size w24 w25 := bn (by repeat (first | exact br _ | assumption | refine ba ?_ | refine bd ?_ | refine below_drewN ?_ _ | refine bs ?_ (by (try simp) <;> omega))) g25
  replace HV := Lib.hid (HV.out.below S25)
  replace VD := Lib.hid (VD.out.below S25)
  replace VX := Lib.hid (VX.out.below S25)
  replace VY := Lib.hid (VY.out.below S25)
  replace VZ := Lib.hid (VZ.out.below S25)
  have B25 : Below w.heap.size w w25 := bn B24 S25
  clear g25 S25
  have VC := Lib.hid VC'
  clear VC'
  go_wp2_with fail
  refine (HN1.out _ _ _ (hB.below (by repeat (first | exact br _ | assumption | refine ba ?_ | refine bd ?_ | refine below_drewN ?_ _ | refine bs ?_ (by (try simp) <;> omega)))) (VC.out.below (by repeat (first | exact br _ | assumption | refine ba ?_ | refine bd ?_ | refine below_drewN ?_ _ | refine bs ?_ (by (try simp) <;> omega))))).mono ?_
  rintro e w26 ⟨rfl, g26⟩
  have S26 : Below w25.heap.size w25 w26 := bn (by repeat (first | exact br _ | assumption | refine ba ?_ | refine bd ?_ | refine below_drewN ?_ _ | refine bs ?_ (by (try simp) <;> omega))) g26
  replace HV := Lib.hid (HV.out.below S26)
  replace VD := Lib.hid (VD.out.below S26)
  replace VX := Lib.hid (VX.out.below S26)
  replace VY := Lib.hid (VY.out.below S26)
  replace VZ := Lib.hid (VZ.out.below S26)
  replace VC := Lib.hid (VC.out.below S26)
  have B26 : Below w.heap.size w w26 := bn B25 S26
  clear g26 S26
  clear VC
  go_wp2_with fail
  refine (HCD.out _ _ _ (VD.out.below (by repeat (first | exact br _ | assumption | refine ba ?_ | refine bd ?_ | refine below_drewN ?_ _ | refine bs ?_ (by (try simp) <;> omega))))).mono ?_
  rintro e w27 ⟨_, rfl, ⟨AVC, cVC, rfl, VC'⟩, g27⟩
  have S27 : Below w26.heap.size w26 w27 := bn (by repeat (first | exact br _ | assumption | refine ba ?_ | refine bd ?_ | refine below_drewN ?_ _ | refine bs ?_ (by (try simp) <;> omega))) g27
  replace HV := Lib.hid (HV.out.below S27)
  replace VD := Lib.hid (VD.out.below S27)
  replace VX := Lib.hid (VX.out.below S27)
  replace VY := Lib.hid (VY.out.below S27)
  replace VZ := Lib.hid (VZ.out.below S27)
  have B27 : Below w.heap.size w w27 := bn B26 S27
  clear g27 S27
  have VC := Lib.hid VC'
  clear VC'
  go_wp2_with fail
  refine (HN2.out _ _ _ (hB.below (by repeat (first | exact br _ | assumption | refine ba ?_ | refine bd ?_ | refine below_drewN ?_ _ | refine bs ?_ (by (try simp) <;> omega)))) (VC.out.below (by repeat (first | exact br _ | assumption | refine ba ?_ | refine bd ?_ | refine below_drewN ?_ _ | refine bs ?_ (by (try simp) <;> omega))))).mono ?_
  rintro e w28 ⟨rfl, g28⟩
  have S28 : Below w27.heap.size w27 w28 := bn (by repeat (first | exact br _ | assumption | refine ba ?_ | refine bd ?_ | refine below_drewN ?_ _ | refine bs ?_ (by (try simp) <;> omega))) g28
  replace HV := Lib.hid (HV.out.below S28)
  replace VD := Lib.hid (VD.out.below S28)
  replace VX := Lib.hid (VX.out.below S28)
  replace VY := Lib.hid (VY.out.below S28)
  replace VZ := Lib.hid (VZ.out.below S28)
  replace VC := Lib.hid (VC.out.below S28)
  have B28 : Below w.heap.size w w28 := bn B27 S28
  clear g28 S28
  clear VC
  clear VD
  go_wp2_with fail
  refine (refSame_walk _ _ l _ (VX.out.below (by repeat (first | exact br _ | assumption | refine ba ?_ | refine bd ?_ | refine below_drewN ?_ _ | refine bs ?_ (by (try simp) <;> omega)))) (HV.out.below (by repeat (first | exact br _ | assumption | refine ba ?_ | refine bd ?_ | refine below_drewN ?_ _ | refine bs ?_ (by (try simp) <;> omega))))).mono ?_
  rintro e w29 ⟨rfl, g29⟩
  have S29 : Below w28.heap.size w28 w29 := bn (by repeat (first | exact br _ | assumption | refine ba ?_ | refine bd ?_ | refine below_drewN ?_ _ | refine bs ?_ (by (try simp) <;> omega))) g29
  replace HV := Lib.hid (HV.out.below S29)
  replace VX := Lib.hid (VX.out.below S29)
  replace VY := Lib.hid (VY.out.below S29)
  replace VZ := Lib.hid (VZ.out.below S29)
  have B29 : Below w.heap.size w w29 := bn B28 S29
  clear g29 S29
  clear VX
  go_wp2_with fail
  refine (refSame_walk _ _ l _ (VY.out.below (by repeat (first | exact br _ | assumption | refine ba ?_ | refine bd ?_ | refine below_drewN ?_ _ | refine bs ?_ (by (try simp) <;> omega)))) (HV.out.below (by repeat (first | exact br _ | assumption | refine ba ?_ | refine bd ?_ | refine below_drewN ?_ _ | refine bs ?_ (by (try simp) <;> omega))))).mono ?_
  rintro e w30 ⟨rfl, g30⟩
  have S30 : Below w29.heap.size w29 w30 := bn (by repeat (first | exact br _ | assumption | refine ba ?_ | refine bd ?_ | refine below_drewN ?_ _ | refine bs ?_ (by (try simp) <;> omega))) g30
  replace HV := Lib.hid (HV.out.below S30)
  replace VY := Lib.hid (VY.out.below S30)
  replace VZ := Lib.hid (VZ.out.below S30)
  have B30 : Below w.heap.size w w30 := bn B29 S30
  clear g30 S30
  clear VY
  go_wp2_with fail
  refine (refSame_walk _ _ l _ (VZ.out.below (by repeat (first | exact br _ | assumption | refine ba ?_ | refine bd ?_ | refine below_drewN ?_ _ | refine bs ?_ (by (try simp) <;> omega)))) (HV.out.below (by repeat (first | exact br _ | assumption | refine ba ?_ | refine bd ?_ | refine below_drewN ?_ _ | refine bs ?_ (by (try simp) <;> omega))))).mono ?_
  rintro e w31 ⟨rfl, g31⟩
  have S31 : Below w30.heap.size w30 w31 := bn (by repeat (first | exact br _ | assumption | refine ba ?_ | refine bd ?_ | refine below_drewN ?_ _ | refine bs ?_ (by (try simp) <;> omega))) g31
  replace HV := Lib.hid (HV.out.below S31)
  replace VZ := Lib.hid (VZ.out.below S31)
  have B31 : Below w.heap.size w w31 := bn B30 S31
  clear g31 S31
  clear VZ
  go_wp2
  go_ret
  exact ⟨rfl, (by repeat (first | exact br _ | assumption | refine ba ?_ | refine bd ?_ | refine below_drewN ?_ _ | refine bs ?_ (by (try simp) <;> omega)))⟩

end Go.Proofs.YtbnbaokamccmjaaGreatDoor

/- law of chapter 12: MeshMirrors: whatever the input is, it returns true. -/
set_option linter.unusedVariables false
set_option linter.unusedSimpArgs false
namespace Go.Proofs.YtbnbaokamccmjaaGreatDoor
open Go Go.ChangeShapes Go.WideShapes Go.ChangeAt Go.RowKit Go.Joins
open Go.ChangeMaps (open_string shut_string)

theorem rtx_minus : rtx (-1) = ⟨#[45, 49]⟩ := by decide +kernel
theorem rz_minus : rz (-1) ≤ 2 := by decide +kernel
theorem back_le {d : V3} {k : Nat} (h : d.le k) : (d.smul (-1)).le (k + 2) := V3.le_smul h rz_minus (Nat.le_refl _)
/-- THE LAW's WALK, WHATEVER THE SOLID AND THE VECTOR ARE. -/
theorem meshMirrors_walk (v : Value) (l : List TV) (d : SV) (w : World) (hB : Bw w) (hv : Ts w v l) :
    Calls Tryz.prog 6 #[v, d.val] w fun e w' => e = .returned (.bool true) ∧ Below w.heap.size w w' := by
  obtain ⟨A, cap, rfl, -, -, -⟩ := hv.open
  have h20 := fun w (h : Ts w (.slice A l.length cap) l) => refFew_walk _ l w h
  have h11 : ∀ p w, Bk w p [.string d.x, .string d.y, .string d.z] → Calls Tryz.prog 11 #[.slice (some ⟨p, 0, none⟩) 1 1] w fun e w' => e = .returned (.bool (isFew d)) ∧ Below w.heap.size w w' := fun p w h => by
    have := few_walk _ [d] w (vs_of_bk h rfl (by simp)) (by simp)
    simpa using this
  cases r1 : fewT l with
  | false =>
    rw [r1] at h20
    exact mirrors_out1 A _ cap l d.x d.y d.z w hB hv h20
  | true =>
  rw [r1] at h20
  by_cases hn : 24 < l.length
  · exact mirrors_out2 A _ cap l d.x d.y d.z w hB hv h20 (by omega)
  have hn2 : (l.length : Int) ≤ 24 := by omega
  cases r3 : isFew d with
  | false =>
    rw [r3] at h11
    exact mirrors_out3 A _ cap l d.x d.y d.z w hB hv h20 hn2 h11
  | true =>
  rw [r3] at h11
  have h33 := fun w hB => vValid_walk d (few_sv r3) w hB
  cases r4 : isVec d with
  | false =>
    rw [r4] at h33
    exact mirrors_out4 A _ cap l d.x d.y d.z w hB hv h20 hn2 h11 h33
  | true =>
  rw [r4] at h33
  have h32 := fun w hB (h : Ts w (.slice A l.length cap) l) => check_walk _ l w hB h (few_tle r1)
  by_cases hz : chkC l = 0
  case neg => exact mirrors_out5 (chkC l) A _ cap l d.x d.y d.z w hB hv h20 hn2 h11 h33 h32 (by simp [hz])
  rw [hz] at h32
  obtain ⟨D, rfl⟩ := isVec_iff.1 r4
  obtain ⟨hlen, hval, hop⟩ := chkC_zero hz
  obtain ⟨L, rfl⟩ := solid_of hval
  have hL : (L.map txt).length = L.length := List.length_map _
  rw [hL] at hv hn2 hn h20 h32 hlen ⊢
  rw [open_txt] at hop
  have l20 := few_leT r1
  have d20 := few_le r3
  have dback := back_le d20
  have lm := mir_le l20
  have lr := turn_le l20
  have ld := mov_le l20 d20 (Nat.le_refl (20 + 20 + 1))
  have cm := chk_ok (L := L.map mirT) (by rw [List.length_map]; omega) (mir_closed hop)
  have cr := chk_ok (L := L.map Tr.turn) (by rw [List.length_map]; omega) (closed_turn hop)
  have cd := chk_ok (L := L.map (movT D)) (by rw [List.length_map]; omega) (mov_closed D hop)
  have nm : ((L.map mirT).map txt).length = L.length := by simp
  have nr : ((L.map Tr.turn).map txt).length = L.length := by simp
  have nd : ((L.map (movT D)).map txt).length = L.length := by simp
  have em := map_back mirT_mirT L
  have er := map_back (f := Tr.turn) (g := Tr.turn) Tr.turn_turn (L.map txt)
  have ed := map_back (movT_back D) L
  refine mirrors_main A L.length cap (L.map txt) (rtx D.x) (rtx D.y) (rtx D.z) w hB hv ((L.map mirT).map txt) ((L.map Tr.turn).map txt) ((L.map (movT D)).map txt)
    (rtx (D.smul (-1)).x) (rtx (D.smul (-1)).y) (rtx (D.smul (-1)).z) (convexL L) (pointsL L).length (shellsL L : Nat) hn2 h20 h11 h33 h32 ?_ ?_ ?_ ?_ ?_ ?_ ?_ ?_ ?_ ?_ ?_ ?_ ?_ ?_ ?_ ?_ ?_
  · exact fun A cap w h => clone_sl _ _ _ hL (by omega) w h
  · exact fun A cap w h => clone_sl _ _ _ nm (by omega) w h
  · exact fun A cap w h => clone_sl _ _ _ nd (by omega) w h
  · exact fun A cap w hB h => to_sl nm (mMirror_ok _ L w hB h (le_up l20 (by omega)) hz)
  · refine fun A cap w hB h => to_sl nr ?_
    have := mReverse_ok _ (L.map txt) w hB h (few_tle r1) hz
    rwa [turn_txt] at this
  · exact fun A cap w hB h => to_sl nd (mMove_ok _ L D w hB h (le_up l20 (by omega)) (d20.mono (by omega)) hz)
  · refine fun w hB => ?_
    have := vecScale_walk D (-1) (d20.mono (by omega)) (Nat.le_trans rz_minus (by omega)) w hB
    rw [rtx_minus] at this
    exact this
  · refine fun A cap w hB h => to_sl hL ?_
    have := mMirror_ok _ (L.map mirT) w hB h (le_up lm (by omega)) cm
    rw [show (L.map mirT).map (fun t => (t.map V3.flip).turn) = L from em] at this
    exact this
  · refine fun A cap w hB h => to_sl hL ?_
    have := mReverse_ok _ ((L.map Tr.turn).map txt) w hB h (tle_txt lr (by omega)) cr
    rw [← turn_txt, er] at this
    exact this
  · refine fun A cap w hB h => to_sl hL ?_
    have := mMove_ok _ (L.map (movT D)) (D.smul (-1)) w hB h (le_up ld (by omega)) (dback.mono (by omega)) cd
    rw [show (L.map (movT D)).map (Tr.map (V3.add · (D.smul (-1)))) = L from ed] at this
    exact this
  · exact fun A cap w hB h => convex_walk _ L w hB h (le_up l20 (by omega)) hz
  · refine fun A cap w hB h => ?_
    have := convex_walk _ (L.map mirT) w hB h (le_up lm (by omega)) cm
    rwa [mir_convex] at this
  · refine fun A cap w hB h => ?_
    have := convex_walk _ (L.map (movT D)) w hB h (le_up ld (by omega)) cd
    rwa [mov_convex] at this
  · refine fun A cap w hB h => to_vs (l := pointsL (L.map txt)) ?_ (mPoints_ok _ (L.map txt) w hB h (few_tle r1) hz)
    rw [points_txt, tvs_length]
  · refine fun A cap w hB h => to_vs (l := pointsL ((L.map mirT).map txt)) ?_ (mPoints_ok _ _ w hB h (tle_txt lm (by omega)) cm)
    rw [points_txt, tvs_length, mir_points]
  · refine fun A cap w hB h => ?_
    have := mShells_ok _ (L.map txt) w hB h (few_tle r1) hz
    rwa [shells_txt] at this
  · refine fun A cap w hB h => ?_
    have := mShells_ok _ ((L.map (movT D)).map txt) w hB h (tle_txt ld (by omega)) cd
    rwa [shells_txt, mov_shells] at this

end Go.Proofs.YtbnbaokamccmjaaGreatDoor

/- law of chapter 12: MeshMirrors: the row and the card. -/
set_option linter.unusedVariables false
set_option linter.unusedSimpArgs false
namespace Go.Proofs.YtbnbaokamccmjaaGreatDoor
open Go Go.ChangeShapes Go.WideShapes Go.ChangeAt Go.RowKit Go.Joins
open Go.ChangeMaps (open_string shut_string)

/-! ### The row -/
set_option maxRecDepth 100000 in
theorem mirrors_contract (H : Type) (enc : TypeId × Value → H) (W : World) (base : Nat) (args : Array Value) (ds gs : List (DataW H)) (before : List MemPlace)
    (hval : ∀ (j : Nat) t v, Tryz.f6.params[j]? = some t → args[j]? = some v → Value.okWide Tryz.prog W .any base t v)
    (hW : DataW.Whole enc Tryz.prog Tryz.f6.params.toList Rows.meshMirrorsSpec.vars false W args.toList ds gs before) (hL : laidMetH Tryz.prog Rows.meshMirrorsRow.laid W) (hS : W.ShapedOpen Tryz.prog) :
    Calls Tryz.prog 6 args W fun e W' => ∃ v, e = .returned v ∧ Rows.meshMirrorsSpec.post enc Tryz.prog Tryz.f6 false true false false W args v W' := by
  have hW' := hW
  obtain ⟨p, q, hA0, hV, rfl, hfz, hnd⟩ := hW
  have hA : DataW.TrodAll enc Tryz.prog W 0 (fun _ => true) true Tryz.f6.params.toList args.toList ds p := hA0
  rw [Tryz.params6] at hA hval
  obtain ⟨v0, v1, d0, d1, p0, p1, rfl, rfl, rfl, h0, h1⟩ := trodAll_two hA
  obtain ⟨rfl, rfl⟩ := trodVars_none hV
  obtain ⟨l, hl⟩ := open_solid (hval 0 33 v0 rfl rfl) h0
  have h1k := h1
  obtain ⟨b0, b1, b2, z0, z1, z2, k, rfl, rfl, rfl, hz0, hz1, hz2⟩ := open_agg3 Tryz.underlying25 (by kernel_rfl) (by kernel_rfl) (hval 1 25 v1 rfl rfl) h1
  obtain ⟨r0, f0, rfl, x0⟩ := DataW.trod_string Tryz.underlying23 hz0
  obtain ⟨r1, f1, rfl, x1⟩ := DataW.trod_string Tryz.underlying23 hz1
  obtain ⟨r2, f2, rfl, x2⟩ := DataW.trod_string Tryz.underlying23 hz2
  simp at f0 f1 f2
  subst f0 f1 f2
  clear hA0
  have hlt : ∀ x ∈ p0, x.block < W.heap.size := fun x hx => hW'.lt x (by simp [hx])
  refine (meshMirrors_walk v0 l ⟨r0, r1, r2⟩ W (bw_of hL hS) hl).mono fun e W' ⟨he, hg⟩ => ?_
  subst he
  refine ⟨_, rfl, _, _, _, [], p0 ++ [], [], hW', ?_, ?_, rfl, hg.frame _, fun h => by cases h⟩
  · exact trodAll_cons_mk (shut_bool Tryz.underlying4 _) trodAll_mk0
  · exact trodAll_mk2 (Below.trod laidOut (by kernel_rfl) (of_decide_eq_true (by kernel_rfl)) h0 hg hlt) (vec_reads W' _ _ _ r0 r1 r2 x0 x1 x2)

theorem laid_met (os : Os) : laidMet Tryz.prog Rows.meshMirrorsRow.laid ((laidWorld os).forCall (fun _ _ => 0) ⟨#[], #[noSol, noVec], []⟩).memory :=
  laidMet_of_run' 8 (by kernel_rfl) (by kernel_rfl)
theorem reads0 (os : Os) {H : Type} (enc : TypeId × Value → H) : ∃ places, DataW.whole enc Tryz.prog ((laidWorld os).forCall (fun _ _ => 0) ⟨#[], #[noSol, noVec], []⟩).memory Tryz.f6.params.toList Rows.meshMirrorsSpec.vars false #[noSol, noVec].toList 8 = some ([.nil, .agg [.lit (.string []), .lit (.string []), .lit (.string [])]], [], places) :=
  ⟨[], by kernel_rfl⟩

set_option maxRecDepth 100000 in
theorem lifted (os : Os) (started : os.Started) (H : Type) (enc : TypeId × Value → H) (F : Stop.Interp) :
    ReturnsInHanded {} Tryz.checked os 6 .any ((OpenSpec.ofChange Rows.meshMirrorsSpec).preRow enc Tryz.prog Tryz.f6 Rows.meshMirrorsRow.domain false Rows.meshMirrorsRow.laid) (((OpenSpec.ofChange Rows.meshMirrorsSpec).at F).post enc Tryz.prog Tryz.f6 false true false false) := by
  obtain ⟨places, hx⟩ := reads0 os enc
  refine returnsInHanded_of_row (C := Tryz.checked) (s := OpenSpec.ofChange Rows.meshMirrorsSpec) own started (by kernel_rfl) Tryz.func6
    (witness_row_at (enc := enc) (C := Tryz.checked) false (laidWorld os) #[noSol, noVec] rfl (by kernel_rfl) (by kernel_rfl) (by kernel_rfl)
      (OpenSpec.preRow_of_cond 8 hx (by kernel_rfl) (fun k hk => by cases hk) (by kernel_rfl) (laid_met os))) ?_
  intro W base args ds gs before hval hW _ _ _ hL hS _
  exact mirrors_contract H enc W base args ds gs before hval hW hL hS

theorem said : Rows.MeshMirrorsSaid :=
  OpenClaim.holds_of_cond 6 Tryz.f6 rfl rfl rfl rfl rfl rfl rfl ⟨rfl, rfl, rfl, rfl, rfl⟩ rfl rfl rfl rfl rfl (by kernel_rfl) Tryz.func6 (by kernel_rfl)
    (of_decide_eq_true (by kernel_rfl)) (by unfold Func.isWrapper; first | (rw [if_pos (by decide +kernel)]; kernel_rfl) | (rw [if_neg (by decide +kernel)]; exact ⟨rfl, rfl⟩))
    (fun os started H enc _ F => by rw [OpenClaim.pre_eq_preRow]; exact lifted os started H enc F)

theorem plain (f : FuncId) (fn : Func) (hf : Tryz.pinned.checked.prog.funcNamed "garboard/garboardlaw12.MeshMirrors" = some f) (hfn : Tryz.pinned.checked.prog.funcs[f]? = some fn) :
    true = Tryz.pinned.checked.prog.looks [] ∧ ∀ (j : Nat) t, fn.params[j]? = some t → Tryz.pinned.checked.prog.wantsStandIn t = false := by
  obtain rfl : f = 6 := Option.some.inj ((show Tryz.prog.funcNamed "garboard/garboardlaw12.MeshMirrors" = some 6 by kernel_rfl).symm.trans hf) |>.symm
  obtain rfl : fn = Tryz.f6 := (Option.some.inj (Tryz.func6.symm.trans hfn)).symm
  refine ⟨by kernel_rfl, fun j t ht => ?_⟩
  rw [Tryz.params6] at ht
  have : t = 33 ∨ t = 25 := by simpa using Array.mem_of_getElem? ht
  rcases this with rfl | rfl
  · exact (show Tryz.prog.wantsStandIn 33 = false by kernel_rfl)
  · exact (show Tryz.prog.wantsStandIn 25 = false by kernel_rfl)

/-- THE CARD. -/
theorem meshMirrors_holds : Rows.MeshMirrorsCardSaid :=
  Claim7.holds_tied_plain_at .later [] _ _ _ _ said (fun _ h => by cases h) (by kernel_rfl) (fun _ h => by cases h) meshMirrors_row_tie rfl ⟨rfl, rfl⟩ (by kernel_rfl) rfl plain (by kernel_rfl)
#print axioms meshMirrors_holds
end Go.Proofs.YtbnbaokamccmjaaGreatDoor
