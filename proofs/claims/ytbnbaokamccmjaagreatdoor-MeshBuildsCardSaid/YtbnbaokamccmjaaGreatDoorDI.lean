/- law of chapter 12: MeshBuilds: the walk. -/
import Derived.Test.YtbnbaokamccmjaaGreatDoorDD
import Derived.Test.YtbnbaokamccmjaaGreatDoorDH
set_option linter.unusedVariables false
set_option linter.unusedSimpArgs false
namespace Go.Proofs.YtbnbaokamccmjaaGreatDoor
open Go Go.RowKit
set_option maxHeartbeats 4000000 in
set_option maxRecDepth 100000 in
theorem builds_out1 (A : Option Addr) (r cap : Nat) (lv : List SV) (x1 y1 z1 x2 y2 z2 x3 y3 z3 : ByteArray) (w : World) (hB : Bw w) (hv3 : Vs w (.slice A r cap) lv)
   (h10 : ∀ w, Vs w (.slice A r cap) lv → Calls Tryz.prog 11 #[.slice A r cap] w fun e w' => e = .returned (.bool false) ∧ Below w.heap.size w w') :
   Calls Tryz.prog 3 #[.slice A r cap, .agg #[.string x1, .string y1, .string z1], .agg #[.string x2, .string y2, .string z2], .agg #[.string x3, .string y3, .string z3]] w fun e w' => e = .returned (.bool true) ∧ Below w.heap.size w w' := by
 have HL := Lib.hid hv3
 clear hv3
 have H0 := Lib.hid (fun w hB => awake_walk w hB)
 have H10 := Lib.hid h10
 clear h10
 go_enter Tryz.func3, Tryz.ntmps3
 go_wp2_with fail
 refine (H0.out _ (hB.below bel)).mono ?_
 rintro e w1 ⟨rfl, g1⟩
 have S1 := bn (w := w) bel g1
 replace HL := Lib.hid (HL.out.below S1)
 have c1_v_0 := bcv g1 w.heap.size 0 (.string x1)
 have c1_v_1 := bcv g1 w.heap.size 1 (.string y1)
 have c1_v_2 := bcv g1 w.heap.size 2 (.string z1)
 have z1_v : w.heap.size < w1.heap.size := World.block_lt_of_cell? _ _ c1_v_0
 have c1_l_0 := bcv g1 (w.heap.size + 1) 0 (.string x2)
 have c1_l_1 := bcv g1 (w.heap.size + 1) 1 (.string y2)
 have c1_l_2 := bcv g1 (w.heap.size + 1) 2 (.string z2)
 have z1_l : w.heap.size + 1 < w1.heap.size := World.block_lt_of_cell? _ _ c1_l_0
 have c1_h_0 := bcv g1 (w.heap.size + 1 + 1) 0 (.string x3)
 have c1_h_1 := bcv g1 (w.heap.size + 1 + 1) 1 (.string y3)
 have c1_h_2 := bcv g1 (w.heap.size + 1 + 1) 2 (.string z3)
 have z1_h : w.heap.size + 1 + 1 < w1.heap.size := World.block_lt_of_cell? _ _ c1_h_0
 have B1 : Below w.heap.size w w1 := S1
 clear g1
 go_wp2_with fail
 refine (H10.out _ (HL.out.below bel)).mono ?_
 rintro e w2 ⟨rfl, g2⟩
 have S2 : Below w1.heap.size w1 w2 := bn bel g2
 replace HL := Lib.hid (HL.out.below S2)
 have c2_v_0 := bcv g2 w.heap.size 0 (.string x1)
 have c2_v_1 := bcv g2 w.heap.size 1 (.string y1)
 have c2_v_2 := bcv g2 w.heap.size 2 (.string z1)
 have z2_v : w.heap.size < w2.heap.size := World.block_lt_of_cell? _ _ c2_v_0
 have c2_l_0 := bcv g2 (w.heap.size + 1) 0 (.string x2)
 have c2_l_1 := bcv g2 (w.heap.size + 1) 1 (.string y2)
 have c2_l_2 := bcv g2 (w.heap.size + 1) 2 (.string z2)
 have z2_l : w.heap.size + 1 < w2.heap.size := World.block_lt_of_cell? _ _ c2_l_0
 have c2_h_0 := bcv g2 (w.heap.size + 1 + 1) 0 (.string x3)
 have c2_h_1 := bcv g2 (w.heap.size + 1 + 1) 1 (.string y3)
 have c2_h_2 := bcv g2 (w.heap.size + 1 + 1) 2 (.string z3)
 have z2_h : w.heap.size + 1 + 1 < w2.heap.size := World.block_lt_of_cell? _ _ c2_h_0
 have B2 : Below w.heap.size w w2 := bn B1 S2
 clear g2 S2
 go_wp2_with fail
 refine (H0.out _ (hB.below bel)).mono ?_
 rintro e w3 ⟨rfl, g3⟩
 have S3 : Below w2.heap.size w2 w3 := bn bel g3
 replace HL := Lib.hid (HL.out.below S3)
 have c3_v_0 := bcv g3 w.heap.size 0 (.string x1)
 have c3_v_1 := bcv g3 w.heap.size 1 (.string y1)
 have c3_v_2 := bcv g3 w.heap.size 2 (.string z1)
 have z3_v : w.heap.size < w3.heap.size := World.block_lt_of_cell? _ _ c3_v_0
 have c3_l_0 := bcv g3 (w.heap.size + 1) 0 (.string x2)
 have c3_l_1 := bcv g3 (w.heap.size + 1) 1 (.string y2)
 have c3_l_2 := bcv g3 (w.heap.size + 1) 2 (.string z2)
 have z3_l : w.heap.size + 1 < w3.heap.size := World.block_lt_of_cell? _ _ c3_l_0
 have c3_h_0 := bcv g3 (w.heap.size + 1 + 1) 0 (.string x3)
 have c3_h_1 := bcv g3 (w.heap.size + 1 + 1) 1 (.string y3)
 have c3_h_2 := bcv g3 (w.heap.size + 1 + 1) 2 (.string z3)
 have z3_h : w.heap.size + 1 + 1 < w3.heap.size := World.block_lt_of_cell? _ _ c3_h_0
 have B3 : Below w.heap.size w w3 := bn B2 S3
 clear g3 S3
 go_wp2
 go_ret
 exact ⟨rfl, bel⟩
set_option maxHeartbeats 4000000 in
set_option maxRecDepth 100000 in
theorem builds_out2 (A : Option Addr) (r cap : Nat) (lv : List SV) (x1 y1 z1 x2 y2 z2 x3 y3 z3 : ByteArray) (w : World) (hB : Bw w) (hv3 : Vs w (.slice A r cap) lv)
   (h10 : ∀ w, Vs w (.slice A r cap) lv → Calls Tryz.prog 11 #[.slice A r cap] w fun e w' => e = .returned (.bool true) ∧ Below w.heap.size w w')
   (h11 : ∀ p w, Bk w p [.string x1, .string y1, .string z1, .string x2, .string y2, .string z2, .string x3, .string y3, .string z3] → Calls Tryz.prog 11 #[.slice (some ⟨p, 0, none⟩) 3 3] w fun e w' => e = .returned (.bool false) ∧ Below w.heap.size w w') :
   Calls Tryz.prog 3 #[.slice A r cap, .agg #[.string x1, .string y1, .string z1], .agg #[.string x2, .string y2, .string z2], .agg #[.string x3, .string y3, .string z3]] w fun e w' => e = .returned (.bool true) ∧ Below w.heap.size w w' := by
 have HL := Lib.hid hv3
 clear hv3
 have H0 := Lib.hid (fun w hB => awake_walk w hB)
 have H10 := Lib.hid h10
 clear h10
 have H11 := Lib.hid h11
 clear h11
 go_enter Tryz.func3, Tryz.ntmps3
 go_wp2_with fail
 refine (H0.out _ (hB.below bel)).mono ?_
 rintro e w1 ⟨rfl, g1⟩
 have S1 := bn (w := w) bel g1
 replace HL := Lib.hid (HL.out.below S1)
 have c1_v_0 := bcv g1 w.heap.size 0 (.string x1)
 have c1_v_1 := bcv g1 w.heap.size 1 (.string y1)
 have c1_v_2 := bcv g1 w.heap.size 2 (.string z1)
 have z1_v : w.heap.size < w1.heap.size := World.block_lt_of_cell? _ _ c1_v_0
 have c1_l_0 := bcv g1 (w.heap.size + 1) 0 (.string x2)
 have c1_l_1 := bcv g1 (w.heap.size + 1) 1 (.string y2)
 have c1_l_2 := bcv g1 (w.heap.size + 1) 2 (.string z2)
 have z1_l : w.heap.size + 1 < w1.heap.size := World.block_lt_of_cell? _ _ c1_l_0
 have c1_h_0 := bcv g1 (w.heap.size + 1 + 1) 0 (.string x3)
 have c1_h_1 := bcv g1 (w.heap.size + 1 + 1) 1 (.string y3)
 have c1_h_2 := bcv g1 (w.heap.size + 1 + 1) 2 (.string z3)
 have z1_h : w.heap.size + 1 + 1 < w1.heap.size := World.block_lt_of_cell? _ _ c1_h_0
 have B1 : Below w.heap.size w w1 := S1
 clear g1
 go_wp2_with fail
 refine (H10.out _ (HL.out.below bel)).mono ?_
 rintro e w2 ⟨rfl, g2⟩
 have S2 : Below w1.heap.size w1 w2 := bn bel g2
 replace HL := Lib.hid (HL.out.below S2)
 have c2_v_0 := bcv g2 w.heap.size 0 (.string x1)
 have c2_v_1 := bcv g2 w.heap.size 1 (.string y1)
 have c2_v_2 := bcv g2 w.heap.size 2 (.string z1)
 have z2_v : w.heap.size < w2.heap.size := World.block_lt_of_cell? _ _ c2_v_0
 have c2_l_0 := bcv g2 (w.heap.size + 1) 0 (.string x2)
 have c2_l_1 := bcv g2 (w.heap.size + 1) 1 (.string y2)
 have c2_l_2 := bcv g2 (w.heap.size + 1) 2 (.string z2)
 have z2_l : w.heap.size + 1 < w2.heap.size := World.block_lt_of_cell? _ _ c2_l_0
 have c2_h_0 := bcv g2 (w.heap.size + 1 + 1) 0 (.string x3)
 have c2_h_1 := bcv g2 (w.heap.size + 1 + 1) 1 (.string y3)
 have c2_h_2 := bcv g2 (w.heap.size + 1 + 1) 2 (.string z3)
 have z2_h : w.heap.size + 1 + 1 < w2.heap.size := World.block_lt_of_cell? _ _ c2_h_0
 have B2 : Below w.heap.size w w2 := bn B1 S2
 clear g2 S2
 go_wp2_with fail
 refine (H11.out _ _ (bk_at rfl)).mono ?_
 rintro e w3 ⟨rfl, g3⟩
 have S3 : Below w2.heap.size w2 w3 := bn bel g3
 replace HL := Lib.hid (HL.out.below S3)
 have c3_v_0 := bcv g3 w.heap.size 0 (.string x1)
 have c3_v_1 := bcv g3 w.heap.size 1 (.string y1)
 have c3_v_2 := bcv g3 w.heap.size 2 (.string z1)
 have z3_v : w.heap.size < w3.heap.size := World.block_lt_of_cell? _ _ c3_v_0
 have c3_l_0 := bcv g3 (w.heap.size + 1) 0 (.string x2)
 have c3_l_1 := bcv g3 (w.heap.size + 1) 1 (.string y2)
 have c3_l_2 := bcv g3 (w.heap.size + 1) 2 (.string z2)
 have z3_l : w.heap.size + 1 < w3.heap.size := World.block_lt_of_cell? _ _ c3_l_0
 have c3_h_0 := bcv g3 (w.heap.size + 1 + 1) 0 (.string x3)
 have c3_h_1 := bcv g3 (w.heap.size + 1 + 1) 1 (.string y3)
 have c3_h_2 := bcv g3 (w.heap.size + 1 + 1) 2 (.string z3)
 have z3_h : w.heap.size + 1 + 1 < w3.heap.size := World.block_lt_of_cell? _ _ c3_h_0
 have B3 : Below w.heap.size w w3 := bn B2 S3
 clear g3 S3
 go_wp2_with fail
 refine (H0.out _ (hB.below bel)).mono ?_
 rintro e w4 ⟨rfl, g4⟩
 have S4 : Below w3.heap.size w3 w4 := bn bel g4
 replace HL := Lib.hid (HL.out.below S4)
 have c4_v_0 := bcv g4 w.heap.size 0 (.string x1)
 have c4_v_1 := bcv g4 w.heap.size 1 (.string y1)
 have c4_v_2 := bcv g4 w.heap.size 2 (.string z1)
 have z4_v : w.heap.size < w4.heap.size := World.block_lt_of_cell? _ _ c4_v_0
 have c4_l_0 := bcv g4 (w.heap.size + 1) 0 (.string x2)
 have c4_l_1 := bcv g4 (w.heap.size + 1) 1 (.string y2)
 have c4_l_2 := bcv g4 (w.heap.size + 1) 2 (.string z2)
 have z4_l : w.heap.size + 1 < w4.heap.size := World.block_lt_of_cell? _ _ c4_l_0
 have c4_h_0 := bcv g4 (w.heap.size + 1 + 1) 0 (.string x3)
 have c4_h_1 := bcv g4 (w.heap.size + 1 + 1) 1 (.string y3)
 have c4_h_2 := bcv g4 (w.heap.size + 1 + 1) 2 (.string z3)
 have z4_h : w.heap.size + 1 + 1 < w4.heap.size := World.block_lt_of_cell? _ _ c4_h_0
 have B4 : Below w.heap.size w w4 := bn B3 S4
 clear g4 S4
 go_wp2
 go_ret
 exact ⟨rfl, bel⟩
set_option maxHeartbeats 4000000 in
set_option maxRecDepth 100000 in
theorem builds_out3 (A : Option Addr) (r cap : Nat) (lv : List SV) (x1 y1 z1 x2 y2 z2 x3 y3 z3 : ByteArray) (w : World) (hB : Bw w) (hv3 : Vs w (.slice A r cap) lv)
   (h10 : ∀ w, Vs w (.slice A r cap) lv → Calls Tryz.prog 11 #[.slice A r cap] w fun e w' => e = .returned (.bool true) ∧ Below w.heap.size w w')
   (h11 : ∀ p w, Bk w p [.string x1, .string y1, .string z1, .string x2, .string y2, .string z2, .string x3, .string y3, .string z3] → Calls Tryz.prog 11 #[.slice (some ⟨p, 0, none⟩) 3 3] w fun e w' => e = .returned (.bool true) ∧ Below w.heap.size w w')
   (n8 : (8 : Int) < (r : Int)) (n129 : ((r : Int) != 129) = true) (n130 : ((r : Int) != 130) = true) (n257 : ((r : Int) != 257) = true) :
   Calls Tryz.prog 3 #[.slice A r cap, .agg #[.string x1, .string y1, .string z1], .agg #[.string x2, .string y2, .string z2], .agg #[.string x3, .string y3, .string z3]] w fun e w' => e = .returned (.bool true) ∧ Below w.heap.size w w' := by
 have HL := Lib.hid hv3
 clear hv3
 have H0 := Lib.hid (fun w hB => awake_walk w hB)
 have H10 := Lib.hid h10
 clear h10
 have H11 := Lib.hid h11
 clear h11
 go_enter Tryz.func3, Tryz.ntmps3
 go_wp2_with fail
 refine (H0.out _ (hB.below bel)).mono ?_
 rintro e w1 ⟨rfl, g1⟩
 have S1 := bn (w := w) bel g1
 replace HL := Lib.hid (HL.out.below S1)
 have c1_v_0 := bcv g1 w.heap.size 0 (.string x1)
 have c1_v_1 := bcv g1 w.heap.size 1 (.string y1)
 have c1_v_2 := bcv g1 w.heap.size 2 (.string z1)
 have z1_v : w.heap.size < w1.heap.size := World.block_lt_of_cell? _ _ c1_v_0
 have c1_l_0 := bcv g1 (w.heap.size + 1) 0 (.string x2)
 have c1_l_1 := bcv g1 (w.heap.size + 1) 1 (.string y2)
 have c1_l_2 := bcv g1 (w.heap.size + 1) 2 (.string z2)
 have z1_l : w.heap.size + 1 < w1.heap.size := World.block_lt_of_cell? _ _ c1_l_0
 have c1_h_0 := bcv g1 (w.heap.size + 1 + 1) 0 (.string x3)
 have c1_h_1 := bcv g1 (w.heap.size + 1 + 1) 1 (.string y3)
 have c1_h_2 := bcv g1 (w.heap.size + 1 + 1) 2 (.string z3)
 have z1_h : w.heap.size + 1 + 1 < w1.heap.size := World.block_lt_of_cell? _ _ c1_h_0
 have B1 : Below w.heap.size w w1 := S1
 clear g1
 go_wp2_with fail
 refine (H10.out _ (HL.out.below bel)).mono ?_
 rintro e w2 ⟨rfl, g2⟩
 have S2 : Below w1.heap.size w1 w2 := bn bel g2
 replace HL := Lib.hid (HL.out.below S2)
 have c2_v_0 := bcv g2 w.heap.size 0 (.string x1)
 have c2_v_1 := bcv g2 w.heap.size 1 (.string y1)
 have c2_v_2 := bcv g2 w.heap.size 2 (.string z1)
 have z2_v : w.heap.size < w2.heap.size := World.block_lt_of_cell? _ _ c2_v_0
 have c2_l_0 := bcv g2 (w.heap.size + 1) 0 (.string x2)
 have c2_l_1 := bcv g2 (w.heap.size + 1) 1 (.string y2)
 have c2_l_2 := bcv g2 (w.heap.size + 1) 2 (.string z2)
 have z2_l : w.heap.size + 1 < w2.heap.size := World.block_lt_of_cell? _ _ c2_l_0
 have c2_h_0 := bcv g2 (w.heap.size + 1 + 1) 0 (.string x3)
 have c2_h_1 := bcv g2 (w.heap.size + 1 + 1) 1 (.string y3)
 have c2_h_2 := bcv g2 (w.heap.size + 1 + 1) 2 (.string z3)
 have z2_h : w.heap.size + 1 + 1 < w2.heap.size := World.block_lt_of_cell? _ _ c2_h_0
 have B2 : Below w.heap.size w w2 := bn B1 S2
 clear g2 S2
 go_wp2_with fail
 refine (H11.out _ _ (bk_at rfl)).mono ?_
 rintro e w3 ⟨rfl, g3⟩
 have S3 : Below w2.heap.size w2 w3 := bn bel g3
 replace HL := Lib.hid (HL.out.below S3)
 have c3_v_0 := bcv g3 w.heap.size 0 (.string x1)
 have c3_v_1 := bcv g3 w.heap.size 1 (.string y1)
 have c3_v_2 := bcv g3 w.heap.size 2 (.string z1)
 have z3_v : w.heap.size < w3.heap.size := World.block_lt_of_cell? _ _ c3_v_0
 have c3_l_0 := bcv g3 (w.heap.size + 1) 0 (.string x2)
 have c3_l_1 := bcv g3 (w.heap.size + 1) 1 (.string y2)
 have c3_l_2 := bcv g3 (w.heap.size + 1) 2 (.string z2)
 have z3_l : w.heap.size + 1 < w3.heap.size := World.block_lt_of_cell? _ _ c3_l_0
 have c3_h_0 := bcv g3 (w.heap.size + 1 + 1) 0 (.string x3)
 have c3_h_1 := bcv g3 (w.heap.size + 1 + 1) 1 (.string y3)
 have c3_h_2 := bcv g3 (w.heap.size + 1 + 1) 2 (.string z3)
 have z3_h : w.heap.size + 1 + 1 < w3.heap.size := World.block_lt_of_cell? _ _ c3_h_0
 have B3 : Below w.heap.size w w3 := bn B2 S3
 clear g3 S3
 go_wp2_with fail
 refine (H0.out _ (hB.below bel)).mono ?_
 rintro e w4 ⟨rfl, g4⟩
 have S4 : Below w3.heap.size w3 w4 := bn bel g4
 replace HL := Lib.hid (HL.out.below S4)
 have c4_v_0 := bcv g4 w.heap.size 0 (.string x1)
 have c4_v_1 := bcv g4 w.heap.size 1 (.string y1)
 have c4_v_2 := bcv g4 w.heap.size 2 (.string z1)
 have z4_v : w.heap.size < w4.heap.size := World.block_lt_of_cell? _ _ c4_v_0
 have c4_l_0 := bcv g4 (w.heap.size + 1) 0 (.string x2)
 have c4_l_1 := bcv g4 (w.heap.size + 1) 1 (.string y2)
 have c4_l_2 := bcv g4 (w.heap.size + 1) 2 (.string z2)
 have z4_l : w.heap.size + 1 < w4.heap.size := World.block_lt_of_cell? _ _ c4_l_0
 have c4_h_0 := bcv g4 (w.heap.size + 1 + 1) 0 (.string x3)
 have c4_h_1 := bcv g4 (w.heap.size + 1 + 1) 1 (.string y3)
 have c4_h_2 := bcv g4 (w.heap.size + 1 + 1) 2 (.string z3)
 have z4_h : w.heap.size + 1 + 1 < w4.heap.size := World.block_lt_of_cell? _ _ c4_h_0
 have B4 : Below w.heap.size w w4 := bn B3 S4
 clear g4 S4
 go_wp2
 go_ret
 exact ⟨rfl, bel⟩
set_option maxHeartbeats 4000000 in
set_option maxRecDepth 100000 in
theorem builds_main (A : Option Addr) (r cap : Nat) (lv : List SV) (x1 y1 z1 x2 y2 z2 x3 y3 z3 : ByteArray) (w : World) (hB : Bw w) (hv3 : Vs w (.slice A r cap) lv)
   (lf lp lb : List TV) (nf np nb : Nat) (zf zp zb : Int) (hlen : r ≤ 8 ∨ r = 129 ∨ r = 130 ∨ r = 257)
   (h10 : ∀ w, Vs w (.slice A r cap) lv → Calls Tryz.prog 11 #[.slice A r cap] w fun e w' => e = .returned (.bool true) ∧ Below w.heap.size w w')
   (h11 : ∀ p w, Bk w p [.string x1, .string y1, .string z1, .string x2, .string y2, .string z2, .string x3, .string y3, .string z3] → Calls Tryz.prog 11 #[.slice (some ⟨p, 0, none⟩) 3 3] w fun e w' => e = .returned (.bool true) ∧ Below w.heap.size w w')
   (hcv : ∀ w, Vs w (.slice A r cap) lv → Calls Tryz.prog 13 #[.slice A r cap] w (Ret fun q w' => (∃ A c, q = .slice A r c ∧ Vs w' (.slice A r c) lv) ∧ Below w.heap.size w w'))
   (hf : ∀ A c w, Bw w → Vs w (.slice A r c) lv → Calls Tryz.prog 12 #[.slice A r c] w (Ret fun q w' => (∃ A c, q = .tuple #[.slice A nf c, .int .i64 zf] ∧ Ts w' (.slice A nf c) lf) ∧ Below w.heap.size w w'))
   (hrf : ∀ A c w, Vs w (.slice A r c) lv → Calls Tryz.prog 14 #[.slice A r c] w (Ret fun q w' => (∃ A c, q = .tuple #[.slice A nf c, .int .i64 zf] ∧ Ts w' (.slice A nf c) lf) ∧ Below w.heap.size w w'))
   (hp : ∀ A c w, Bw w → Vs w (.slice A r c) lv → Calls Tryz.prog 15 #[.slice A r c, .agg #[.string x1, .string y1, .string z1]] w (Ret fun q w' => (∃ A c, q = .tuple #[.slice A np c, .int .i64 zp] ∧ Ts w' (.slice A np c) lp) ∧ Below w.heap.size w w'))
   (hrp : ∀ A c w, Vs w (.slice A r c) lv → Calls Tryz.prog 16 #[.slice A r c, .agg #[.string x1, .string y1, .string z1]] w (Ret fun q w' => (∃ A c, q = .tuple #[.slice A np c, .int .i64 zp] ∧ Ts w' (.slice A np c) lp) ∧ Below w.heap.size w w'))
   (hb : ∀ w, Bw w → Calls Tryz.prog 17 #[.agg #[.string x2, .string y2, .string z2], .agg #[.string x3, .string y3, .string z3]] w (Ret fun q w' => (∃ A c, q = .tuple #[.slice A nb c, .int .i64 zb] ∧ Ts w' (.slice A nb c) lb) ∧ Below w.heap.size w w'))
   (hrb : ∀ w, Calls Tryz.prog 18 #[.agg #[.string x2, .string y2, .string z2], .agg #[.string x3, .string y3, .string z3]] w (Ret fun q w' => (∃ A c, q = .tuple #[.slice A nb c, .int .i64 zb] ∧ Ts w' (.slice A nb c) lb) ∧ Below w.heap.size w w')) :
   Calls Tryz.prog 3 #[.slice A r cap, .agg #[.string x1, .string y1, .string z1], .agg #[.string x2, .string y2, .string z2], .agg #[.string x3, .string y3, .string z3]] w fun e w' => e = .returned (.bool true) ∧ Below w.heap.size w w' := by
 have HL := Lib.hid hv3
 clear hv3
 have H0 := Lib.hid (fun w hB => awake_walk w hB)
 have H10 := Lib.hid h10
 clear h10
 have H11 := Lib.hid h11
 clear h11
 have HCV := Lib.hid hcv
 clear hcv
 have HF := Lib.hid hf
 clear hf
 have HRF := Lib.hid hrf
 clear hrf
 have HP := Lib.hid hp
 clear hp
 have HRP := Lib.hid hrp
 clear hrp
 have HBX := Lib.hid hb
 clear hb
 have HRB := Lib.hid hrb
 clear hrb
 go_enter Tryz.func3, Tryz.ntmps3
 go_upto_region 1 with fail
 go_cut [55] (fun sx wx => sx = .bool false ∧ Below (((w.alloc (.cells #[.string x1, .string y1, .string z1] 25)).alloc (.cells #[.string x2, .string y2, .string z2] 25)).alloc (.cells #[.string x3, .string y3, .string z3] 25)).heap.size (((w.alloc (.cells #[.string x1, .string y1, .string z1] 25)).alloc (.cells #[.string x2, .string y2, .string z2] 25)).alloc (.cells #[.string x3, .string y3, .string z3] 25)) wx)
 case first =>
   have HLEN := Lib.hid hlen
   have HW : Below (((w.alloc (.cells #[.string x1, .string y1, .string z1] 25)).alloc (.cells #[.string x2, .string y2, .string z2] 25)).alloc (.cells #[.string x3, .string y3, .string z3] 25)).heap.size (((w.alloc (.cells #[.string x1, .string y1, .string z1] 25)).alloc (.cells #[.string x2, .string y2, .string z2] 25)).alloc (.cells #[.string x3, .string y3, .string z3] 25)) (((w.alloc (.cells #[.string x1, .string y1, .string z1] 25)).alloc (.cells #[.string x2, .string y2, .string z2] 25)).alloc (.cells #[.string x3, .string y3, .string z3] 25)) := Below.refl _ _
   have HWB : Below w.heap.size w (((w.alloc (.cells #[.string x1, .string y1, .string z1] 25)).alloc (.cells #[.string x2, .string y2, .string z2] 25)).alloc (.cells #[.string x3, .string y3, .string z3] 25)) := ba (ba (ba (br w)))
   rcases hlen with hr | hr | hr | hr
   · have i8 : ¬ (8 : Int) < (r : Int) := by omega
     go_wp2_with fail
     refine (H0.out _ (hB.below bel)).mono ?_
     rintro e w1 ⟨rfl, g1⟩
     have S1 := bn (w := w) bel g1
     replace HL := Lib.hid (HL.out.below S1)
     have c1_v_0 := bcv g1 w.heap.size 0 (.string x1)
     have c1_v_1 := bcv g1 w.heap.size 1 (.string y1)
     have c1_v_2 := bcv g1 w.heap.size 2 (.string z1)
     have z1_v : w.heap.size < w1.heap.size := World.block_lt_of_cell? _ _ c1_v_0
     have c1_l_0 := bcv g1 (w.heap.size + 1) 0 (.string x2)
     have c1_l_1 := bcv g1 (w.heap.size + 1) 1 (.string y2)
     have c1_l_2 := bcv g1 (w.heap.size + 1) 2 (.string z2)
     have z1_l : w.heap.size + 1 < w1.heap.size := World.block_lt_of_cell? _ _ c1_l_0
     have c1_h_0 := bcv g1 (w.heap.size + 1 + 1) 0 (.string x3)
     have c1_h_1 := bcv g1 (w.heap.size + 1 + 1) 1 (.string y3)
     have c1_h_2 := bcv g1 (w.heap.size + 1 + 1) 2 (.string z3)
     have z1_h : w.heap.size + 1 + 1 < w1.heap.size := World.block_lt_of_cell? _ _ c1_h_0
     have B1 : Below w.heap.size w w1 := S1
     have BC1 : Below (((w.alloc (.cells #[.string x1, .string y1, .string z1] 25)).alloc (.cells #[.string x2, .string y2, .string z2] 25)).alloc (.cells #[.string x3, .string y3, .string z3] 25)).heap.size (((w.alloc (.cells #[.string x1, .string y1, .string z1] 25)).alloc (.cells #[.string x2, .string y2, .string z2] 25)).alloc (.cells #[.string x3, .string y3, .string z3] 25)) w1 := bn bel g1
     clear g1
     go_wp2_with fail
     refine (H10.out _ (HL.out.below bel)).mono ?_
     rintro e w2 ⟨rfl, g2⟩
     have S2 : Below w1.heap.size w1 w2 := bn bel g2
     replace HL := Lib.hid (HL.out.below S2)
     have c2_v_0 := bcv g2 w.heap.size 0 (.string x1)
     have c2_v_1 := bcv g2 w.heap.size 1 (.string y1)
     have c2_v_2 := bcv g2 w.heap.size 2 (.string z1)
     have z2_v : w.heap.size < w2.heap.size := World.block_lt_of_cell? _ _ c2_v_0
     have c2_l_0 := bcv g2 (w.heap.size + 1) 0 (.string x2)
     have c2_l_1 := bcv g2 (w.heap.size + 1) 1 (.string y2)
     have c2_l_2 := bcv g2 (w.heap.size + 1) 2 (.string z2)
     have z2_l : w.heap.size + 1 < w2.heap.size := World.block_lt_of_cell? _ _ c2_l_0
     have c2_h_0 := bcv g2 (w.heap.size + 1 + 1) 0 (.string x3)
     have c2_h_1 := bcv g2 (w.heap.size + 1 + 1) 1 (.string y3)
     have c2_h_2 := bcv g2 (w.heap.size + 1 + 1) 2 (.string z3)
     have z2_h : w.heap.size + 1 + 1 < w2.heap.size := World.block_lt_of_cell? _ _ c2_h_0
     have B2 : Below w.heap.size w w2 := bn B1 S2
     have BC2 : Below (((w.alloc (.cells #[.string x1, .string y1, .string z1] 25)).alloc (.cells #[.string x2, .string y2, .string z2] 25)).alloc (.cells #[.string x3, .string y3, .string z3] 25)).heap.size (((w.alloc (.cells #[.string x1, .string y1, .string z1] 25)).alloc (.cells #[.string x2, .string y2, .string z2] 25)).alloc (.cells #[.string x3, .string y3, .string z3] 25)) w2 := bn BC1 S2
     clear g2 S2
     go_wp2_with fail
     refine (H11.out _ _ (bk_at rfl)).mono ?_
     rintro e w3 ⟨rfl, g3⟩
     have S3 : Below w2.heap.size w2 w3 := bn bel g3
     replace HL := Lib.hid (HL.out.below S3)
     have c3_v_0 := bcv g3 w.heap.size 0 (.string x1)
     have c3_v_1 := bcv g3 w.heap.size 1 (.string y1)
     have c3_v_2 := bcv g3 w.heap.size 2 (.string z1)
     have z3_v : w.heap.size < w3.heap.size := World.block_lt_of_cell? _ _ c3_v_0
     have c3_l_0 := bcv g3 (w.heap.size + 1) 0 (.string x2)
     have c3_l_1 := bcv g3 (w.heap.size + 1) 1 (.string y2)
     have c3_l_2 := bcv g3 (w.heap.size + 1) 2 (.string z2)
     have z3_l : w.heap.size + 1 < w3.heap.size := World.block_lt_of_cell? _ _ c3_l_0
     have c3_h_0 := bcv g3 (w.heap.size + 1 + 1) 0 (.string x3)
     have c3_h_1 := bcv g3 (w.heap.size + 1 + 1) 1 (.string y3)
     have c3_h_2 := bcv g3 (w.heap.size + 1 + 1) 2 (.string z3)
     have z3_h : w.heap.size + 1 + 1 < w3.heap.size := World.block_lt_of_cell? _ _ c3_h_0
     have B3 : Below w.heap.size w w3 := bn B2 S3
     have BC3 : Below (((w.alloc (.cells #[.string x1, .string y1, .string z1] 25)).alloc (.cells #[.string x2, .string y2, .string z2] 25)).alloc (.cells #[.string x3, .string y3, .string z3] 25)).heap.size (((w.alloc (.cells #[.string x1, .string y1, .string z1] 25)).alloc (.cells #[.string x2, .string y2, .string z2] 25)).alloc (.cells #[.string x3, .string y3, .string z3] 25)) w3 := bn BC2 S3
     clear g3 S3
     go_wp2
     go_meet
     exact ⟨rfl, BC3⟩
   · subst hr
     go_wp2_with fail
     refine (H0.out _ (hB.below bel)).mono ?_
     rintro e w1 ⟨rfl, g1⟩
     have S1 := bn (w := w) bel g1
     replace HL := Lib.hid (HL.out.below S1)
     have c1_v_0 := bcv g1 w.heap.size 0 (.string x1)
     have c1_v_1 := bcv g1 w.heap.size 1 (.string y1)
     have c1_v_2 := bcv g1 w.heap.size 2 (.string z1)
     have z1_v : w.heap.size < w1.heap.size := World.block_lt_of_cell? _ _ c1_v_0
     have c1_l_0 := bcv g1 (w.heap.size + 1) 0 (.string x2)
     have c1_l_1 := bcv g1 (w.heap.size + 1) 1 (.string y2)
     have c1_l_2 := bcv g1 (w.heap.size + 1) 2 (.string z2)
     have z1_l : w.heap.size + 1 < w1.heap.size := World.block_lt_of_cell? _ _ c1_l_0
     have c1_h_0 := bcv g1 (w.heap.size + 1 + 1) 0 (.string x3)
     have c1_h_1 := bcv g1 (w.heap.size + 1 + 1) 1 (.string y3)
     have c1_h_2 := bcv g1 (w.heap.size + 1 + 1) 2 (.string z3)
     have z1_h : w.heap.size + 1 + 1 < w1.heap.size := World.block_lt_of_cell? _ _ c1_h_0
     have B1 : Below w.heap.size w w1 := S1
     have BC1 : Below (((w.alloc (.cells #[.string x1, .string y1, .string z1] 25)).alloc (.cells #[.string x2, .string y2, .string z2] 25)).alloc (.cells #[.string x3, .string y3, .string z3] 25)).heap.size (((w.alloc (.cells #[.string x1, .string y1, .string z1] 25)).alloc (.cells #[.string x2, .string y2, .string z2] 25)).alloc (.cells #[.string x3, .string y3, .string z3] 25)) w1 := bn bel g1
     clear g1
     go_wp2_with fail
     refine (H10.out _ (HL.out.below bel)).mono ?_
     rintro e w2 ⟨rfl, g2⟩
     have S2 : Below w1.heap.size w1 w2 := bn bel g2
     replace HL := Lib.hid (HL.out.below S2)
     have c2_v_0 := bcv g2 w.heap.size 0 (.string x1)
     have c2_v_1 := bcv g2 w.heap.size 1 (.string y1)
     have c2_v_2 := bcv g2 w.heap.size 2 (.string z1)
     have z2_v : w.heap.size < w2.heap.size := World.block_lt_of_cell? _ _ c2_v_0
     have c2_l_0 := bcv g2 (w.heap.size + 1) 0 (.string x2)
     have c2_l_1 := bcv g2 (w.heap.size + 1) 1 (.string y2)
     have c2_l_2 := bcv g2 (w.heap.size + 1) 2 (.string z2)
     have z2_l : w.heap.size + 1 < w2.heap.size := World.block_lt_of_cell? _ _ c2_l_0
     have c2_h_0 := bcv g2 (w.heap.size + 1 + 1) 0 (.string x3)
     have c2_h_1 := bcv g2 (w.heap.size + 1 + 1) 1 (.string y3)
     have c2_h_2 := bcv g2 (w.heap.size + 1 + 1) 2 (.string z3)
     have z2_h : w.heap.size + 1 + 1 < w2.heap.size := World.block_lt_of_cell? _ _ c2_h_0
     have B2 : Below w.heap.size w w2 := bn B1 S2
     have BC2 : Below (((w.alloc (.cells #[.string x1, .string y1, .string z1] 25)).alloc (.cells #[.string x2, .string y2, .string z2] 25)).alloc (.cells #[.string x3, .string y3, .string z3] 25)).heap.size (((w.alloc (.cells #[.string x1, .string y1, .string z1] 25)).alloc (.cells #[.string x2, .string y2, .string z2] 25)).alloc (.cells #[.string x3, .string y3, .string z3] 25)) w2 := bn BC1 S2
     clear g2 S2
     go_wp2_with fail
     refine (H11.out _ _ (bk_at rfl)).mono ?_
     rintro e w3 ⟨rfl, g3⟩
     have S3 : Below w2.heap.size w2 w3 := bn bel g3
     replace HL := Lib.hid (HL.out.below S3)
     have c3_v_0 := bcv g3 w.heap.size 0 (.string x1)
     have c3_v_1 := bcv g3 w.heap.size 1 (.string y1)
     have c3_v_2 := bcv g3 w.heap.size 2 (.string z1)
     have z3_v : w.heap.size < w3.heap.size := World.block_lt_of_cell? _ _ c3_v_0
     have c3_l_0 := bcv g3 (w.heap.size + 1) 0 (.string x2)
     have c3_l_1 := bcv g3 (w.heap.size + 1) 1 (.string y2)
     have c3_l_2 := bcv g3 (w.heap.size + 1) 2 (.string z2)
     have z3_l : w.heap.size + 1 < w3.heap.size := World.block_lt_of_cell? _ _ c3_l_0
     have c3_h_0 := bcv g3 (w.heap.size + 1 + 1) 0 (.string x3)
     have c3_h_1 := bcv g3 (w.heap.size + 1 + 1) 1 (.string y3)
     have c3_h_2 := bcv g3 (w.heap.size + 1 + 1) 2 (.string z3)
     have z3_h : w.heap.size + 1 + 1 < w3.heap.size := World.block_lt_of_cell? _ _ c3_h_0
     have B3 : Below w.heap.size w w3 := bn B2 S3
     have BC3 : Below (((w.alloc (.cells #[.string x1, .string y1, .string z1] 25)).alloc (.cells #[.string x2, .string y2, .string z2] 25)).alloc (.cells #[.string x3, .string y3, .string z3] 25)).heap.size (((w.alloc (.cells #[.string x1, .string y1, .string z1] 25)).alloc (.cells #[.string x2, .string y2, .string z2] 25)).alloc (.cells #[.string x3, .string y3, .string z3] 25)) w3 := bn BC2 S3
     clear g3 S3
     go_wp2
     go_meet
     exact ⟨rfl, BC3⟩
   · subst hr
     go_wp2_with fail
     refine (H0.out _ (hB.below bel)).mono ?_
     rintro e w1 ⟨rfl, g1⟩
     have S1 := bn (w := w) bel g1
     replace HL := Lib.hid (HL.out.below S1)
     have c1_v_0 := bcv g1 w.heap.size 0 (.string x1)
     have c1_v_1 := bcv g1 w.heap.size 1 (.string y1)
     have c1_v_2 := bcv g1 w.heap.size 2 (.string z1)
     have z1_v : w.heap.size < w1.heap.size := World.block_lt_of_cell? _ _ c1_v_0
     have c1_l_0 := bcv g1 (w.heap.size + 1) 0 (.string x2)
     have c1_l_1 := bcv g1 (w.heap.size + 1) 1 (.string y2)
     have c1_l_2 := bcv g1 (w.heap.size + 1) 2 (.string z2)
     have z1_l : w.heap.size + 1 < w1.heap.size := World.block_lt_of_cell? _ _ c1_l_0
     have c1_h_0 := bcv g1 (w.heap.size + 1 + 1) 0 (.string x3)
     have c1_h_1 := bcv g1 (w.heap.size + 1 + 1) 1 (.string y3)
     have c1_h_2 := bcv g1 (w.heap.size + 1 + 1) 2 (.string z3)
     have z1_h : w.heap.size + 1 + 1 < w1.heap.size := World.block_lt_of_cell? _ _ c1_h_0
     have B1 : Below w.heap.size w w1 := S1
     have BC1 : Below (((w.alloc (.cells #[.string x1, .string y1, .string z1] 25)).alloc (.cells #[.string x2, .string y2, .string z2] 25)).alloc (.cells #[.string x3, .string y3, .string z3] 25)).heap.size (((w.alloc (.cells #[.string x1, .string y1, .string z1] 25)).alloc (.cells #[.string x2, .string y2, .string z2] 25)).alloc (.cells #[.string x3, .string y3, .string z3] 25)) w1 := bn bel g1
     clear g1
     go_wp2_with fail
     refine (H10.out _ (HL.out.below bel)).mono ?_
     rintro e w2 ⟨rfl, g2⟩
     have S2 : Below w1.heap.size w1 w2 := bn bel g2
     replace HL := Lib.hid (HL.out.below S2)
     have c2_v_0 := bcv g2 w.heap.size 0 (.string x1)
     have c2_v_1 := bcv g2 w.heap.size 1 (.string y1)
     have c2_v_2 := bcv g2 w.heap.size 2 (.string z1)
     have z2_v : w.heap.size < w2.heap.size := World.block_lt_of_cell? _ _ c2_v_0
     have c2_l_0 := bcv g2 (w.heap.size + 1) 0 (.string x2)
     have c2_l_1 := bcv g2 (w.heap.size + 1) 1 (.string y2)
     have c2_l_2 := bcv g2 (w.heap.size + 1) 2 (.string z2)
     have z2_l : w.heap.size + 1 < w2.heap.size := World.block_lt_of_cell? _ _ c2_l_0
     have c2_h_0 := bcv g2 (w.heap.size + 1 + 1) 0 (.string x3)
     have c2_h_1 := bcv g2 (w.heap.size + 1 + 1) 1 (.string y3)
     have c2_h_2 := bcv g2 (w.heap.size + 1 + 1) 2 (.string z3)
     have z2_h : w.heap.size + 1 + 1 < w2.heap.size := World.block_lt_of_cell? _ _ c2_h_0
     have B2 : Below w.heap.size w w2 := bn B1 S2
     have BC2 : Below (((w.alloc (.cells #[.string x1, .string y1, .string z1] 25)).alloc (.cells #[.string x2, .string y2, .string z2] 25)).alloc (.cells #[.string x3, .string y3, .string z3] 25)).heap.size (((w.alloc (.cells #[.string x1, .string y1, .string z1] 25)).alloc (.cells #[.string x2, .string y2, .string z2] 25)).alloc (.cells #[.string x3, .string y3, .string z3] 25)) w2 := bn BC1 S2
     clear g2 S2
     go_wp2_with fail
     refine (H11.out _ _ (bk_at rfl)).mono ?_
     rintro e w3 ⟨rfl, g3⟩
     have S3 : Below w2.heap.size w2 w3 := bn bel g3
     replace HL := Lib.hid (HL.out.below S3)
     have c3_v_0 := bcv g3 w.heap.size 0 (.string x1)
     have c3_v_1 := bcv g3 w.heap.size 1 (.string y1)
     have c3_v_2 := bcv g3 w.heap.size 2 (.string z1)
     have z3_v : w.heap.size < w3.heap.size := World.block_lt_of_cell? _ _ c3_v_0
     have c3_l_0 := bcv g3 (w.heap.size + 1) 0 (.string x2)
     have c3_l_1 := bcv g3 (w.heap.size + 1) 1 (.string y2)
     have c3_l_2 := bcv g3 (w.heap.size + 1) 2 (.string z2)
     have z3_l : w.heap.size + 1 < w3.heap.size := World.block_lt_of_cell? _ _ c3_l_0
     have c3_h_0 := bcv g3 (w.heap.size + 1 + 1) 0 (.string x3)
     have c3_h_1 := bcv g3 (w.heap.size + 1 + 1) 1 (.string y3)
     have c3_h_2 := bcv g3 (w.heap.size + 1 + 1) 2 (.string z3)
     have z3_h : w.heap.size + 1 + 1 < w3.heap.size := World.block_lt_of_cell? _ _ c3_h_0
     have B3 : Below w.heap.size w w3 := bn B2 S3
     have BC3 : Below (((w.alloc (.cells #[.string x1, .string y1, .string z1] 25)).alloc (.cells #[.string x2, .string y2, .string z2] 25)).alloc (.cells #[.string x3, .string y3, .string z3] 25)).heap.size (((w.alloc (.cells #[.string x1, .string y1, .string z1] 25)).alloc (.cells #[.string x2, .string y2, .string z2] 25)).alloc (.cells #[.string x3, .string y3, .string z3] 25)) w3 := bn BC2 S3
     clear g3 S3
     go_wp2
     go_meet
     exact ⟨rfl, BC3⟩
   · subst hr
     go_wp2_with fail
     refine (H0.out _ (hB.below bel)).mono ?_
     rintro e w1 ⟨rfl, g1⟩
     have S1 := bn (w := w) bel g1
     replace HL := Lib.hid (HL.out.below S1)
     have c1_v_0 := bcv g1 w.heap.size 0 (.string x1)
     have c1_v_1 := bcv g1 w.heap.size 1 (.string y1)
     have c1_v_2 := bcv g1 w.heap.size 2 (.string z1)
     have z1_v : w.heap.size < w1.heap.size := World.block_lt_of_cell? _ _ c1_v_0
     have c1_l_0 := bcv g1 (w.heap.size + 1) 0 (.string x2)
     have c1_l_1 := bcv g1 (w.heap.size + 1) 1 (.string y2)
     have c1_l_2 := bcv g1 (w.heap.size + 1) 2 (.string z2)
     have z1_l : w.heap.size + 1 < w1.heap.size := World.block_lt_of_cell? _ _ c1_l_0
     have c1_h_0 := bcv g1 (w.heap.size + 1 + 1) 0 (.string x3)
     have c1_h_1 := bcv g1 (w.heap.size + 1 + 1) 1 (.string y3)
     have c1_h_2 := bcv g1 (w.heap.size + 1 + 1) 2 (.string z3)
     have z1_h : w.heap.size + 1 + 1 < w1.heap.size := World.block_lt_of_cell? _ _ c1_h_0
     have B1 : Below w.heap.size w w1 := S1
     have BC1 : Below (((w.alloc (.cells #[.string x1, .string y1, .string z1] 25)).alloc (.cells #[.string x2, .string y2, .string z2] 25)).alloc (.cells #[.string x3, .string y3, .string z3] 25)).heap.size (((w.alloc (.cells #[.string x1, .string y1, .string z1] 25)).alloc (.cells #[.string x2, .string y2, .string z2] 25)).alloc (.cells #[.string x3, .string y3, .string z3] 25)) w1 := bn bel g1
     clear g1
     go_wp2_with fail
     refine (H10.out _ (HL.out.below bel)).mono ?_
     rintro e w2 ⟨rfl, g2⟩
     have S2 : Below w1.heap.size w1 w2 := bn bel g2
     replace HL := Lib.hid (HL.out.below S2)
     have c2_v_0 := bcv g2 w.heap.size 0 (.string x1)
     have c2_v_1 := bcv g2 w.heap.size 1 (.string y1)
     have c2_v_2 := bcv g2 w.heap.size 2 (.string z1)
     have z2_v : w.heap.size < w2.heap.size := World.block_lt_of_cell? _ _ c2_v_0
     have c2_l_0 := bcv g2 (w.heap.size + 1) 0 (.string x2)
     have c2_l_1 := bcv g2 (w.heap.size + 1) 1 (.string y2)
     have c2_l_2 := bcv g2 (w.heap.size + 1) 2 (.string z2)
     have z2_l : w.heap.size + 1 < w2.heap.size := World.block_lt_of_cell? _ _ c2_l_0
     have c2_h_0 := bcv g2 (w.heap.size + 1 + 1) 0 (.string x3)
     have c2_h_1 := bcv g2 (w.heap.size + 1 + 1) 1 (.string y3)
     have c2_h_2 := bcv g2 (w.heap.size + 1 + 1) 2 (.string z3)
     have z2_h : w.heap.size + 1 + 1 < w2.heap.size := World.block_lt_of_cell? _ _ c2_h_0
     have B2 : Below w.heap.size w w2 := bn B1 S2
     have BC2 : Below (((w.alloc (.cells #[.string x1, .string y1, .string z1] 25)).alloc (.cells #[.string x2, .string y2, .string z2] 25)).alloc (.cells #[.string x3, .string y3, .string z3] 25)).heap.size (((w.alloc (.cells #[.string x1, .string y1, .string z1] 25)).alloc (.cells #[.string x2, .string y2, .string z2] 25)).alloc (.cells #[.string x3, .string y3, .string z3] 25)) w2 := bn BC1 S2
     clear g2 S2
     go_wp2_with fail
     refine (H11.out _ _ (bk_at rfl)).mono ?_
     rintro e w3 ⟨rfl, g3⟩
     have S3 : Below w2.heap.size w2 w3 := bn bel g3
     replace HL := Lib.hid (HL.out.below S3)
     have c3_v_0 := bcv g3 w.heap.size 0 (.string x1)
     have c3_v_1 := bcv g3 w.heap.size 1 (.string y1)
     have c3_v_2 := bcv g3 w.heap.size 2 (.string z1)
     have z3_v : w.heap.size < w3.heap.size := World.block_lt_of_cell? _ _ c3_v_0
     have c3_l_0 := bcv g3 (w.heap.size + 1) 0 (.string x2)
     have c3_l_1 := bcv g3 (w.heap.size + 1) 1 (.string y2)
     have c3_l_2 := bcv g3 (w.heap.size + 1) 2 (.string z2)
     have z3_l : w.heap.size + 1 < w3.heap.size := World.block_lt_of_cell? _ _ c3_l_0
     have c3_h_0 := bcv g3 (w.heap.size + 1 + 1) 0 (.string x3)
     have c3_h_1 := bcv g3 (w.heap.size + 1 + 1) 1 (.string y3)
     have c3_h_2 := bcv g3 (w.heap.size + 1 + 1) 2 (.string z3)
     have z3_h : w.heap.size + 1 + 1 < w3.heap.size := World.block_lt_of_cell? _ _ c3_h_0
     have B3 : Below w.heap.size w w3 := bn B2 S3
     have BC3 : Below (((w.alloc (.cells #[.string x1, .string y1, .string z1] 25)).alloc (.cells #[.string x2, .string y2, .string z2] 25)).alloc (.cells #[.string x3, .string y3, .string z3] 25)).heap.size (((w.alloc (.cells #[.string x1, .string y1, .string z1] 25)).alloc (.cells #[.string x2, .string y2, .string z2] 25)).alloc (.cells #[.string x3, .string y3, .string z3] 25)) w3 := bn BC2 S3
     clear g3 S3
     go_wp2
     go_meet
     exact ⟨rfl, BC3⟩
 case rest =>
   obtain ⟨rfl, g1⟩ := hcut
   obtain ⟨w1, hWW⟩ : ∃ x, x = wc := ⟨_, rfl⟩
   subst hWW
   have S1 := bn (w := w) bel g1
   replace HL := Lib.hid (HL.out.below S1)
   have c1_v_0 := bcv g1 w.heap.size 0 (.string x1)
   have c1_v_1 := bcv g1 w.heap.size 1 (.string y1)
   have c1_v_2 := bcv g1 w.heap.size 2 (.string z1)
   have z1_v : w.heap.size < w1.heap.size := World.block_lt_of_cell? _ _ c1_v_0
   have c1_l_0 := bcv g1 (w.heap.size + 1) 0 (.string x2)
   have c1_l_1 := bcv g1 (w.heap.size + 1) 1 (.string y2)
   have c1_l_2 := bcv g1 (w.heap.size + 1) 2 (.string z2)
   have z1_l : w.heap.size + 1 < w1.heap.size := World.block_lt_of_cell? _ _ c1_l_0
   have c1_h_0 := bcv g1 (w.heap.size + 1 + 1) 0 (.string x3)
   have c1_h_1 := bcv g1 (w.heap.size + 1 + 1) 1 (.string y3)
   have c1_h_2 := bcv g1 (w.heap.size + 1 + 1) 2 (.string z3)
   have z1_h : w.heap.size + 1 + 1 < w1.heap.size := World.block_lt_of_cell? _ _ c1_h_0
   have B1 : Below w.heap.size w w1 := S1
   clear g1
   go_wp2_with fail
   refine (HCV.out _ (HL.out.below bel)).mono ?_
   rintro e w2 ⟨_, rfl, ⟨AV1, cV1, rfl, V1'⟩, g2⟩
   have S2 : Below w1.heap.size w1 w2 := bn bel g2
   replace HL := Lib.hid (HL.out.below S2)
   have c2_v_0 := bcv g2 w.heap.size 0 (.string x1)
   have c2_v_1 := bcv g2 w.heap.size 1 (.string y1)
   have c2_v_2 := bcv g2 w.heap.size 2 (.string z1)
   have z2_v : w.heap.size < w2.heap.size := World.block_lt_of_cell? _ _ c2_v_0
   have c2_l_0 := bcv g2 (w.heap.size + 1) 0 (.string x2)
   have c2_l_1 := bcv g2 (w.heap.size + 1) 1 (.string y2)
   have c2_l_2 := bcv g2 (w.heap.size + 1) 2 (.string z2)
   have z2_l : w.heap.size + 1 < w2.heap.size := World.block_lt_of_cell? _ _ c2_l_0
   have c2_h_0 := bcv g2 (w.heap.size + 1 + 1) 0 (.string x3)
   have c2_h_1 := bcv g2 (w.heap.size + 1 + 1) 1 (.string y3)
   have c2_h_2 := bcv g2 (w.heap.size + 1 + 1) 2 (.string z3)
   have z2_h : w.heap.size + 1 + 1 < w2.heap.size := World.block_lt_of_cell? _ _ c2_h_0
   have B2 : Below w.heap.size w w2 := bn B1 S2
   clear g2 S2
   have V1 := Lib.hid V1'
   clear V1'
   go_wp2_with fail
   refine (HF.out _ _ _ (hB.below bel) (V1.out.below bel)).mono ?_
   rintro e w3 ⟨_, rfl, ⟨AF1, cF1, rfl, F1'⟩, g3⟩
   have S3 : Below w2.heap.size w2 w3 := bn bel g3
   replace HL := Lib.hid (HL.out.below S3)
   replace V1 := Lib.hid (V1.out.below S3)
   have c3_v_0 := bcv g3 w.heap.size 0 (.string x1)
   have c3_v_1 := bcv g3 w.heap.size 1 (.string y1)
   have c3_v_2 := bcv g3 w.heap.size 2 (.string z1)
   have z3_v : w.heap.size < w3.heap.size := World.block_lt_of_cell? _ _ c3_v_0
   have c3_l_0 := bcv g3 (w.heap.size + 1) 0 (.string x2)
   have c3_l_1 := bcv g3 (w.heap.size + 1) 1 (.string y2)
   have c3_l_2 := bcv g3 (w.heap.size + 1) 2 (.string z2)
   have z3_l : w.heap.size + 1 < w3.heap.size := World.block_lt_of_cell? _ _ c3_l_0
   have c3_h_0 := bcv g3 (w.heap.size + 1 + 1) 0 (.string x3)
   have c3_h_1 := bcv g3 (w.heap.size + 1 + 1) 1 (.string y3)
   have c3_h_2 := bcv g3 (w.heap.size + 1 + 1) 2 (.string z3)
   have z3_h : w.heap.size + 1 + 1 < w3.heap.size := World.block_lt_of_cell? _ _ c3_h_0
   have B3 : Below w.heap.size w w3 := bn B2 S3
   clear g3 S3
   have F1 := Lib.hid F1'
   clear F1'
   clear V1
   go_wp2_with fail
   refine (HRF.out _ _ _ (HL.out.below bel)).mono ?_
   rintro e w4 ⟨_, rfl, ⟨AF2, cF2, rfl, F2'⟩, g4⟩
   have S4 : Below w3.heap.size w3 w4 := bn bel g4
   replace HL := Lib.hid (HL.out.below S4)
   replace F1 := Lib.hid (F1.out.below S4)
   have c4_v_0 := bcv g4 w.heap.size 0 (.string x1)
   have c4_v_1 := bcv g4 w.heap.size 1 (.string y1)
   have c4_v_2 := bcv g4 w.heap.size 2 (.string z1)
   have z4_v : w.heap.size < w4.heap.size := World.block_lt_of_cell? _ _ c4_v_0
   have c4_l_0 := bcv g4 (w.heap.size + 1) 0 (.string x2)
   have c4_l_1 := bcv g4 (w.heap.size + 1) 1 (.string y2)
   have c4_l_2 := bcv g4 (w.heap.size + 1) 2 (.string z2)
   have z4_l : w.heap.size + 1 < w4.heap.size := World.block_lt_of_cell? _ _ c4_l_0
   have c4_h_0 := bcv g4 (w.heap.size + 1 + 1) 0 (.string x3)
   have c4_h_1 := bcv g4 (w.heap.size + 1 + 1) 1 (.string y3)
   have c4_h_2 := bcv g4 (w.heap.size + 1 + 1) 2 (.string z3)
   have z4_h : w.heap.size + 1 + 1 < w4.heap.size := World.block_lt_of_cell? _ _ c4_h_0
   have B4 : Below w.heap.size w w4 := bn B3 S4
   clear g4 S4
   have F2 := Lib.hid F2'
   clear F2'
   go_wp2
   go_region_held3 (fun w' => w'.cell? ⟨w.heap.size, 0, none⟩ = some (.string x1) ∧ w'.cell? ⟨w.heap.size, 1, none⟩ = some (.string y1) ∧ w'.cell? ⟨w.heap.size, 2, none⟩ = some (.string z1) ∧ Below w4.heap.size w4 w')
     ((refine (fun hb => ⟨bc hb c4_v_0, bc hb c4_v_1, bc hb c4_v_2, hb⟩) ?_; go_split_ands; repeat (first | with_reducible assumption | (with_reducible exact bd (br _)) | (with_reducible exact br _) | (with_reducible refine bn ?_ g) | (with_reducible refine ba ?_) | (with_reducible refine bd ?_))))
     (first
       | (go_at_call 13; refine (HCV.out _ (HL.out.below (by go_split_ands; assumption))).mono ?_; rintro e wx1 ⟨_, rfl, ⟨A4, c4, rfl, q3⟩, g⟩; have X1 : Below w4.heap.size w4 wx1 := bn (by go_split_ands; assumption) g; have V3 := Lib.hid q3; clear q3)
       | (go_at_call 15; refine (HP.out _ _ _ (hB.below (bn B4 (by go_split_ands; assumption))) (V3.out.below (by repeat (first | with_reducible exact br _ | with_reducible assumption | with_reducible refine ba ?_ | with_reducible refine bd ?_ | (refine below_drewN ?_ _))))).mono ?_; rintro e w5 ⟨_, rfl, ⟨AP1, cP1, rfl, P1'⟩, g⟩; have S5 : Below w4.heap.size w4 w5 := bn (by go_split_ands; assumption) g; have P1 := Lib.hid P1'; clear P1'))
   clear V3
   have g5 := S5
   replace HL := Lib.hid (HL.out.below S5)
   replace F1 := Lib.hid (F1.out.below S5)
   replace F2 := Lib.hid (F2.out.below S5)
   have c5_v_0 := bcv g5 w.heap.size 0 (.string x1)
   have c5_v_1 := bcv g5 w.heap.size 1 (.string y1)
   have c5_v_2 := bcv g5 w.heap.size 2 (.string z1)
   have z5_v : w.heap.size < w5.heap.size := World.block_lt_of_cell? _ _ c5_v_0
   have c5_l_0 := bcv g5 (w.heap.size + 1) 0 (.string x2)
   have c5_l_1 := bcv g5 (w.heap.size + 1) 1 (.string y2)
   have c5_l_2 := bcv g5 (w.heap.size + 1) 2 (.string z2)
   have z5_l : w.heap.size + 1 < w5.heap.size := World.block_lt_of_cell? _ _ c5_l_0
   have c5_h_0 := bcv g5 (w.heap.size + 1 + 1) 0 (.string x3)
   have c5_h_1 := bcv g5 (w.heap.size + 1 + 1) 1 (.string y3)
   have c5_h_2 := bcv g5 (w.heap.size + 1 + 1) 2 (.string z3)
   have z5_h : w.heap.size + 1 + 1 < w5.heap.size := World.block_lt_of_cell? _ _ c5_h_0
   have B5 : Below w.heap.size w w5 := bn B4 S5
   clear g5 S5
   go_wp2_with fail
   refine (HRP.out _ _ _ (HL.out.below bel)).mono ?_
   rintro e w6 ⟨_, rfl, ⟨AP2, cP2, rfl, P2'⟩, g6⟩
   have S6 : Below w5.heap.size w5 w6 := bn bel g6
   replace HL := Lib.hid (HL.out.below S6)
   replace F1 := Lib.hid (F1.out.below S6)
   replace F2 := Lib.hid (F2.out.below S6)
   replace P1 := Lib.hid (P1.out.below S6)
   have c6_v_0 := bcv g6 w.heap.size 0 (.string x1)
   have c6_v_1 := bcv g6 w.heap.size 1 (.string y1)
   have c6_v_2 := bcv g6 w.heap.size 2 (.string z1)
   have z6_v : w.heap.size < w6.heap.size := World.block_lt_of_cell? _ _ c6_v_0
   have c6_l_0 := bcv g6 (w.heap.size + 1) 0 (.string x2)
   have c6_l_1 := bcv g6 (w.heap.size + 1) 1 (.string y2)
   have c6_l_2 := bcv g6 (w.heap.size + 1) 2 (.string z2)
   have z6_l : w.heap.size + 1 < w6.heap.size := World.block_lt_of_cell? _ _ c6_l_0
   have c6_h_0 := bcv g6 (w.heap.size + 1 + 1) 0 (.string x3)
   have c6_h_1 := bcv g6 (w.heap.size + 1 + 1) 1 (.string y3)
   have c6_h_2 := bcv g6 (w.heap.size + 1 + 1) 2 (.string z3)
   have z6_h : w.heap.size + 1 + 1 < w6.heap.size := World.block_lt_of_cell? _ _ c6_h_0
   have B6 : Below w.heap.size w w6 := bn B5 S6
   clear g6 S6
   have P2 := Lib.hid P2'
   clear P2'
   clear HL
   go_wp2_with fail
   refine (HBX.out _ (hB.below bel)).mono ?_
   rintro e w7 ⟨_, rfl, ⟨AX1, cX1, rfl, X1'⟩, g7⟩
   have S7 : Below w6.heap.size w6 w7 := bn bel g7
   replace F1 := Lib.hid (F1.out.below S7)
   replace F2 := Lib.hid (F2.out.below S7)
   replace P1 := Lib.hid (P1.out.below S7)
   replace P2 := Lib.hid (P2.out.below S7)
   have c7_l_0 := bcv g7 (w.heap.size + 1) 0 (.string x2)
   have c7_l_1 := bcv g7 (w.heap.size + 1) 1 (.string y2)
   have c7_l_2 := bcv g7 (w.heap.size + 1) 2 (.string z2)
   have z7_l : w.heap.size + 1 < w7.heap.size := World.block_lt_of_cell? _ _ c7_l_0
   have c7_h_0 := bcv g7 (w.heap.size + 1 + 1) 0 (.string x3)
   have c7_h_1 := bcv g7 (w.heap.size + 1 + 1) 1 (.string y3)
   have c7_h_2 := bcv g7 (w.heap.size + 1 + 1) 2 (.string z3)
   have z7_h : w.heap.size + 1 + 1 < w7.heap.size := World.block_lt_of_cell? _ _ c7_h_0
   have B7 : Below w.heap.size w w7 := bn B6 S7
   clear g7 S7
   have X1 := Lib.hid X1'
   clear X1'
   go_wp2_with fail
   refine (HRB.out _).mono ?_
   rintro e w8 ⟨_, rfl, ⟨AX2, cX2, rfl, X2'⟩, g8⟩
   have S8 : Below w7.heap.size w7 w8 := bn bel g8
   replace F1 := Lib.hid (F1.out.below S8)
   replace F2 := Lib.hid (F2.out.below S8)
   replace P1 := Lib.hid (P1.out.below S8)
   replace P2 := Lib.hid (P2.out.below S8)
   replace X1 := Lib.hid (X1.out.below S8)
   have c8_l_0 := bcv g8 (w.heap.size + 1) 0 (.string x2)
   have c8_l_1 := bcv g8 (w.heap.size + 1) 1 (.string y2)
   have c8_l_2 := bcv g8 (w.heap.size + 1) 2 (.string z2)
   have z8_l : w.heap.size + 1 < w8.heap.size := World.block_lt_of_cell? _ _ c8_l_0
   have c8_h_0 := bcv g8 (w.heap.size + 1 + 1) 0 (.string x3)
   have c8_h_1 := bcv g8 (w.heap.size + 1 + 1) 1 (.string y3)
   have c8_h_2 := bcv g8 (w.heap.size + 1 + 1) 2 (.string z3)
   have z8_h : w.heap.size + 1 + 1 < w8.heap.size := World.block_lt_of_cell? _ _ c8_h_0
   have B8 : Below w.heap.size w w8 := bn B7 S8
   clear g8 S8
   have X2 := Lib.hid X2'
   clear X2'
   go_wp2_with fail
   refine (refSame_walk _ _ _ _ (F1.out.below bel) (F2.out.below bel)).mono ?_
   rintro e w9 ⟨rfl, g9⟩
   have S9 : Below w8.heap.size w8 w9 := bn bel g9
   replace F1 := Lib.hid (F1.out.below S9)
   replace F2 := Lib.hid (F2.out.below S9)
   replace P1 := Lib.hid (P1.out.below S9)
   replace P2 := Lib.hid (P2.out.below S9)
   replace X1 := Lib.hid (X1.out.below S9)
   replace X2 := Lib.hid (X2.out.below S9)
   have B9 : Below w.heap.size w w9 := bn B8 S9
   clear g9 S9
   clear F1 F2
   go_wp2_with fail
   refine (refSame_walk _ _ _ _ (P1.out.below bel) (P2.out.below bel)).mono ?_
   rintro e w10 ⟨rfl, g10⟩
   have S10 : Below w9.heap.size w9 w10 := bn bel g10
   replace P1 := Lib.hid (P1.out.below S10)
   replace P2 := Lib.hid (P2.out.below S10)
   replace X1 := Lib.hid (X1.out.below S10)
   replace X2 := Lib.hid (X2.out.below S10)
   have B10 : Below w.heap.size w w10 := bn B9 S10
   clear g10 S10
   clear P1 P2
   go_wp2_with fail
   refine (refSame_walk _ _ _ _ (X1.out.below bel) (X2.out.below bel)).mono ?_
   rintro e w11 ⟨rfl, g11⟩
   have S11 : Below w10.heap.size w10 w11 := bn bel g11
   replace X1 := Lib.hid (X1.out.below S11)
   replace X2 := Lib.hid (X2.out.below S11)
   have B11 : Below w.heap.size w w11 := bn B10 S11
   clear g11 S11
   clear X1 X2
   go_wp2
   go_ret
   exact ⟨rfl, bel⟩
end Go.Proofs.YtbnbaokamccmjaaGreatDoor

/- law of chapter 12: MeshBuilds: whatever the input is, it returns true; the row and the card. -/
namespace Go.Proofs.YtbnbaokamccmjaaGreatDoor
open Go Go.ChangeShapes Go.WideShapes Go.ChangeAt Go.RowKit Go.Joins
open Go.ChangeMaps (open_string shut_string)
theorem bvecs_of : ∀ {l : List SV}, l.all isVec = true → ∃ ps : List V3, l = tvs ps
 | [], _ => ⟨[], rfl⟩
 | s :: l, h => by
   rw [List.all_cons, Bool.and_eq_true] at h
   obtain ⟨ps, rfl⟩ := bvecs_of h.2
   obtain ⟨p, rfl⟩ := isVec_iff.1 h.1
   exact ⟨p :: ps, rfl⟩
theorem res_nil {f : FuncId} {args : Array Value} {w : World} {z : Int} (h : Calls Tryz.prog f args w fun e w' => e = .returned (.tuple #[.slice none 0 0, .int .i64 z]) ∧ Below w.heap.size w w') :
   Calls Tryz.prog f args w (Ret fun q w' => (∃ A c, q = .tuple #[.slice A 0 c, .int .i64 z] ∧ Ts w' (.slice A 0 c) []) ∧ Below w.heap.size w w') := by
 refine h.mono ?_
 rintro e w' ⟨rfl, g⟩
 exact ⟨_, rfl, ⟨none, 0, rfl, Ts.nil _⟩, g⟩
theorem few_sv10 {s : SV} (h : isFew s = true) : s.le 10000000 := by
 simp only [isFew, Bool.and_eq_true, decide_eq_true_eq] at h
 exact ⟨Nat.le_trans h.1.1 (by omega), Nat.le_trans h.1.2 (by omega), Nat.le_trans h.2 (by omega)⟩
theorem fan_both (lv : List SV) (r : Nat) (hr : lv.length = r) (hf : lv.all isFew = true) : ∃ (l : List TV) (n : Nat) (z : Int),
   (∀ A c w, Bw w → Vs w (.slice A r c) lv → Calls Tryz.prog 12 #[.slice A r c] w (Ret fun q w' => (∃ A c, q = .tuple #[.slice A n c, .int .i64 z] ∧ Ts w' (.slice A n c) l) ∧ Below w.heap.size w w')) ∧
   (∀ A c w, Vs w (.slice A r c) lv → Calls Tryz.prog 14 #[.slice A r c] w (Ret fun q w' => (∃ A c, q = .tuple #[.slice A n c, .int .i64 z] ∧ Ts w' (.slice A n c) l) ∧ Below w.heap.size w w')) := by
 have h4 : ∀ s ∈ lv, s.le 40000000 := fun s hs => few_sv (List.all_eq_true.1 hf s hs)
 have h1 : ∀ s ∈ lv, s.le 10000000 := fun s hs => few_sv10 (List.all_eq_true.1 hf s hs)
 by_cases hz : polC lv 0 = 0
 · exact ⟨fanL lv, _, 0, fun A c w hB h => to_sl rfl (mfan_ok _ lv w hB h h4 hz), fun A c w h => to_sl rfl (rFan_ok _ lv w h h1 hz)⟩
 · exact ⟨[], 0, polC lv 0, fun A c w hB h => res_nil (mfan_bad _ lv _ w hB h h4 rfl hz), fun A c w h => res_nil (rFan_bad _ lv _ w h h1 rfl hz)⟩
theorem polC_code {l : List SV} {n : Int} (h : polC l n ≠ 0) : (polC l n = 9 ∨ polC l n = 8) ∨ (polC l n = 1 ∧ 3 ≤ l.length ∧ n ≤ 512 ∧ l.all isVec = false) := by
 unfold polC at h ⊢
 split
 · exact .inl (.inl rfl)
 · rename_i h3
   rw [if_neg h3] at h
   split
   · exact .inl (.inr rfl)
   · rename_i h4
     rw [if_neg h4] at h
     cases h5 : l.all isVec with
     | true => rw [h5] at h; exact absurd rfl h
     | false => exact .inr ⟨rfl, by omega, by omega, rfl⟩
theorem prism_both (lv : List SV) (d : SV) (r : Nat) (hr : lv.length = r) (hr2 : r ≤ 1000) (hf : lv.all isFew = true) (hd : isFew d = true) : ∃ (l : List TV) (n : Nat) (z : Int),
   (∀ A c w, Bw w → Vs w (.slice A r c) lv → Calls Tryz.prog 15 #[.slice A r c, d.val] w (Ret fun q w' => (∃ A c, q = .tuple #[.slice A n c, .int .i64 z] ∧ Ts w' (.slice A n c) l) ∧ Below w.heap.size w w')) ∧
   (∀ A c w, Vs w (.slice A r c) lv → Calls Tryz.prog 16 #[.slice A r c, d.val] w (Ret fun q w' => (∃ A c, q = .tuple #[.slice A n c, .int .i64 z] ∧ Ts w' (.slice A n c) l) ∧ Below w.heap.size w w')) := by
 have h4 : ∀ s ∈ lv, s.le 40000000 := fun s hs => few_sv (List.all_eq_true.1 hf s hs)
 have h1 : ∀ s ∈ lv, s.le 10000000 := fun s hs => few_sv10 (List.all_eq_true.1 hf s hs)
 by_cases hz : polC lv (4 * (lv.length : Int) - 4) = 0
 · obtain ⟨k3, _, k512, kv⟩ := polC_len hz
   cases hv : isVec d with
   | false => exact ⟨[], 0, 1, fun A c w hB h => res_nil (mPrism_arg _ lv d w hB h h4 (few_sv hd) (by omega) hz hv), fun A c w h => res_nil (rPrism_arg _ lv d w h h1 (few_sv10 hd) k3 (by omega) (by rw [hv]; simp))⟩
   | true =>
     obtain ⟨D, rfl⟩ := isVec_iff.1 hv
     obtain ⟨ps, rfl⟩ := bvecs_of kv
     rw [tvs_length] at k3 k512
     have hp : ∀ p ∈ ps, p.le 20 := fun p hp => few_le (List.all_eq_true.1 hf (txv p) (List.mem_map_of_mem hp))
     have hD := few_le hd
     exact ⟨prismL (tvs ps) (tvs (moved ps D)), _, 0, fun A c w hB h => to_sl rfl (prism_walk _ ps D w hB h (fun p q => (hp p q).mono (by omega)) (hD.mono (by omega)) k3 (by omega)),
       fun A c w h => to_sl rfl (rPrism_ok _ ps D w h (fun p q => (hp p q).mono (by omega)) (hD.mono (by omega)) k3 (by omega))⟩
 · refine ⟨[], 0, polC lv (4 * (lv.length : Int) - 4), fun A c w hB h => res_nil (mPrism_bad _ lv d.x d.y d.z w hB h h4 (by omega) _ rfl hz), fun A c w h => ?_⟩
   rcases polC_code hz with h9 | ⟨e, k3, k512, kv⟩
   · exact res_nil (rPrism_len _ lv d.x d.y d.z w h (by omega) _ rfl h9)
   · rw [e]
     exact res_nil (rPrism_arg _ lv d w h h1 (few_sv10 hd) k3 (by omega) (by rw [kv]; rfl))
theorem num_pos_iff (q : Rat) : 0 < q.num ↔ 0 < q := by
 have h1 := @Rat.num_nonneg q
 have h2 := @Rat.num_eq_zero q
 constructor
 · intro h
   rcases Decidable.em (0 ≤ q) with h3 | h3
   · have : q ≠ 0 := fun e => by
       rw [e] at h
       simp at h
     grind
   · exact absurd (h1.1 (by omega)) h3
 · intro h
   have h3 : 0 ≤ q.num := h1.2 (by grind)
   have : q.num ≠ 0 := fun e => by
     have := h2.1 e
     grind
   omega
theorem sign_pos {q : Rat} : ¬ q.num.sign ≤ 0 ↔ 0 < q := by
 rw [← num_pos_iff, ← Int.sign_eq_one_iff_pos]
 have := Int.sign_trichotomy q.num
 omega
theorem box_both (lo hi : SV) (hl : isFew lo = true) (hh : isFew hi = true) : ∃ (l : List TV) (n : Nat) (z : Int),
   (∀ w, Bw w → Calls Tryz.prog 17 #[lo.val, hi.val] w (Ret fun q w' => (∃ A c, q = .tuple #[.slice A n c, .int .i64 z] ∧ Ts w' (.slice A n c) l) ∧ Below w.heap.size w w')) ∧
   (∀ w, Calls Tryz.prog 18 #[lo.val, hi.val] w (Ret fun q w' => (∃ A c, q = .tuple #[.slice A n c, .int .i64 z] ∧ Ts w' (.slice A n c) l) ∧ Below w.heap.size w w')) := by
 have f1 := fun w => wFrom_walk lo (few_sv10 hl) w
 have f2 := fun w => wFrom_walk hi (few_sv10 hh) w
 cases hv : (isVec lo && isVec hi) with
 | false => exact ⟨[], 0, 1, fun w hB => res_nil (box_bad lo hi (few_sv hl) (few_sv hh) hv w hB), fun w => res_nil (rbox_arg lo.x lo.y lo.z hi.x hi.y hi.z _ _ _ _ ⟨0, 0, 0⟩ 0 0 0 ⟨#[]⟩ (fun _ _ => True) w hv f1 f2)⟩
 | true =>
   rw [Bool.and_eq_true] at hv
   obtain ⟨a, rfl⟩ := isVec_iff.1 hv.1
   obtain ⟨b, rfl⟩ := isVec_iff.1 hv.2
   rw [isVec_txv, vOf_txv] at f1 f2
   have ha := few_le hl
   have hb := few_le hh
   have hd : (b.sub a).le 41 := V3.le_sub hb ha (by omega)
   have hm := fun u v W (h : Vn W u b) (g : Vn W v a) => wMinus_walk u v b a W h g (hb.mono (by omega)) (ha.mono (by omega))
   have s1 := fun u W (h : Qn W u (b.sub a).x) => qSign_walk u (b.sub a).x W h
   have s2 := fun u W (h : Qn W u (b.sub a).y) => qSign_walk u (b.sub a).y W h
   have s3 := fun u W (h : Qn W u (b.sub a).z) => qSign_walk u (b.sub a).z W h
   have p1 : ¬ (b.sub a).x.num.sign ≤ 0 ↔ a.x < b.x := by rw [sign_pos]; show 0 < b.x - a.x ↔ _; constructor <;> (intro h; grind)
   have p2 : ¬ (b.sub a).y.num.sign ≤ 0 ↔ a.y < b.y := by rw [sign_pos]; show 0 < b.y - a.y ↔ _; constructor <;> (intro h; grind)
   have p3 : ¬ (b.sub a).z.num.sign ≤ 0 ↔ a.z < b.z := by rw [sign_pos]; show 0 < b.z - a.z ↔ _; constructor <;> (intro h; grind)
   by_cases hlt : a.lt3 b
   · refine ⟨(boxT a b).map (Tr.map txv), _, 0, fun w hB => to_sl rfl (mbox_ok a b (ha.mono (by omega)) (hb.mono (by omega)) hlt w hB), fun w => to_sl rfl ?_⟩
     have := rbox_ok (txv a).x (txv a).y (txv a).z (txv b).x (txv b).y (txv b).z true true a b (b.sub a) _ _ _ (rtx (b.sub a).z) (fun w v => Ts w v ((boxT a b).map (Tr.map txv))) w f1 f2 hm s1 s2 s3 (p1.2 hlt.1) (p2.2 hlt.2.1) (p3.2 hlt.2.2)
       (fun u W h => qTo_walk u _ W h (Nat.le_trans hd.2.2 (by omega))) (fun p w hk => ?_)
     · refine Calls.mono this ?_
       rintro e w' ⟨r, he, ⟨A, n, c, hr, hq⟩, g⟩
       exact ⟨r, he, ⟨_, hr, hq⟩, g⟩
     · have hv4 : Vs w (.slice (some ⟨p, 0, none⟩) 4 4) (tvs (foot a b)) := by
         refine vs_of_bk ?_ (by rw [foot_eq]; rfl) (by rw [foot_eq]; simp [tvs])
         rw [foot_eq]
         exact hk
       have hd2 : (⟨0, 0, b.z - a.z⟩ : V3).le 100000 := ⟨by show rz 0 ≤ _; rw [rz_zero]; omega, by show rz 0 ≤ _; rw [rz_zero]; omega, Nat.le_trans hd.2.2 (by omega)⟩
       have hps : ∀ q ∈ foot a b, q.le 100000 := by
         intro q hq
         have ha2 := ha.mono (show 20 ≤ 100000 by omega)
         have hb2 := hb.mono (show 20 ≤ 100000 by omega)
         rw [foot_eq] at hq
         simp only [List.mem_cons, List.not_mem_nil, or_false] at hq
         rcases hq with rfl | rfl | rfl | rfl
         · exact ⟨ha2.1, ha2.2.1, ha2.2.2⟩
         · exact ⟨hb2.1, ha2.2.1, ha2.2.2⟩
         · exact ⟨hb2.1, hb2.2.1, ha2.2.2⟩
         · exact ⟨ha2.1, hb2.2.1, ha2.2.2⟩
       have h0 := rPrism_ok (.slice (some ⟨p, 0, none⟩) 4 4) (foot a b) ⟨0, 0, b.z - a.z⟩ w hv4 hps hd2 (by rw [foot_eq]; simp) (by rw [foot_eq]; simp)
       rw [box_tris, VV_eq] at h0
       rw [show rtx (⟨0, 0, b.z - a.z⟩ : V3).x = ⟨#[48]⟩ from rtx_zero] at h0
       refine Calls.mono h0 ?_
       rintro e w' ⟨r, he, ⟨u, hr, hu⟩, g⟩
       obtain ⟨A, c, hA, _⟩ := hu.open
       subst hA
       exact ⟨r, he, ⟨A, _, c, hr, hu⟩, g⟩
   · refine ⟨[], 0, 2, fun w hB => res_nil (mbox_range a b (ha.mono (by omega)) (hb.mono (by omega)) hlt w hB), fun w => res_nil ?_⟩
     by_cases hx : a.x < b.x
     · by_cases hy : a.y < b.y
       · have hz : ¬ a.z < b.z := fun hz => hlt ⟨hx, hy, hz⟩
         exact rbox_range2 _ _ _ _ _ _ true true a b (b.sub a) _ _ _ ⟨#[]⟩ (fun _ _ => True) w f1 f2 hm s1 s2 s3 (p1.2 hx) (p2.2 hy) (Decidable.not_not.1 (fun h => hz (p3.1 h)))
       · exact rbox_range1 _ _ _ _ _ _ true true a b (b.sub a) _ _ 0 ⟨#[]⟩ (fun _ _ => True) w f1 f2 hm s1 s2 (p1.2 hx) (Decidable.not_not.1 (fun h => hy (p2.1 h)))
     · exact rbox_range0 _ _ _ _ _ _ true true a b (b.sub a) _ 0 0 ⟨#[]⟩ (fun _ _ => True) w f1 f2 hm s1 (Decidable.not_not.1 (fun h => hx (p1.1 h)))
theorem meshBuilds_walk (v0 : Value) (lv : List SV) (d lo hi : SV) (w : World) (hB : Bw w) (hv : Vs w v0 lv) :
   Calls Tryz.prog 3 #[v0, d.val, lo.val, hi.val] w fun e w' => e = .returned (.bool true) ∧ Below w.heap.size w w' := by
 obtain ⟨A, cap, rfl, -, -, -⟩ := hv.open
 have h10 := fun w (h : Vs w (.slice A lv.length cap) lv) => few2_walk _ lv w h
 have h11 : ∀ p w, Bk w p [.string d.x, .string d.y, .string d.z, .string lo.x, .string lo.y, .string lo.z, .string hi.x, .string hi.y, .string hi.z] → Calls Tryz.prog 11 #[.slice (some ⟨p, 0, none⟩) 3 3] w fun e w' => e = .returned (.bool (isFew d && (isFew lo && isFew hi))) ∧ Below w.heap.size w w' := fun p w h => by
   have := few_walk _ [d, lo, hi] w (vs_of_bk h rfl (by simp)) (by simp)
   simpa using this
 cases r1 : lv.all isFew with
 | false =>
   rw [r1] at h10
   exact builds_out1 A _ cap lv d.x d.y d.z lo.x lo.y lo.z hi.x hi.y hi.z w hB hv h10
 | true =>
 rw [r1] at h10
 cases r2 : (isFew d && (isFew lo && isFew hi)) with
 | false =>
   rw [r2] at h11
   exact builds_out2 A _ cap lv d.x d.y d.z lo.x lo.y lo.z hi.x hi.y hi.z w hB hv h10 h11
 | true =>
 rw [r2] at h11
 simp only [Bool.and_eq_true] at r2
 by_cases hlen : lv.length ≤ 8 ∨ lv.length = 129 ∨ lv.length = 130 ∨ lv.length = 257
 case neg => exact builds_out3 A _ cap lv d.x d.y d.z lo.x lo.y lo.z hi.x hi.y hi.z w hB hv h10 h11 (by omega) (by rw [bne_iff_ne]; omega) (by rw [bne_iff_ne]; omega) (by rw [bne_iff_ne]; omega)
 obtain ⟨lf, nf, zf, a1, a2⟩ := fan_both lv _ rfl r1
 obtain ⟨lp, np, zp, b1, b2⟩ := prism_both lv d _ rfl (by omega) r1 r2.1
 obtain ⟨lb, nb, zb, c1, c2⟩ := box_both lo hi r2.2.1 r2.2.2
 exact builds_main A _ cap lv d.x d.y d.z lo.x lo.y lo.z hi.x hi.y hi.z w hB hv lf lp lb nf np nb zf zp zb hlen h10 h11 (fun w h => cloneV_sl _ lv _ rfl (by omega) w h) a1 a2 b1 b2 c1 c2
/-! ### The row -/
set_option maxRecDepth 100000 in
theorem builds_contract (H : Type) (enc : TypeId × Value → H) (W : World) (base : Nat) (args : Array Value) (ds gs : List (DataW H)) (before : List MemPlace)
   (hval : ∀ (j : Nat) t v, Tryz.f3.params[j]? = some t → args[j]? = some v → Value.okWide Tryz.prog W .any base t v)
   (hW : DataW.Whole enc Tryz.prog Tryz.f3.params.toList Rows.meshBuildsSpec.vars false W args.toList ds gs before) (hL : laidMetH Tryz.prog Rows.meshBuildsRow.laid W) (hS : W.ShapedOpen Tryz.prog) :
   Calls Tryz.prog 3 args W fun e W' => ∃ v, e = .returned v ∧ Rows.meshBuildsSpec.post enc Tryz.prog Tryz.f3 false true false false W args v W' := by
 have hW' := hW
 obtain ⟨p, q, hA0, hV, rfl, hfz, hnd⟩ := hW
 have hA : DataW.TrodAll enc Tryz.prog W 0 (fun _ => true) true Tryz.f3.params.toList args.toList ds p := hA0
 rw [Tryz.params3] at hA hval
 clear hA0
 obtain ⟨v0, a0, d0, e0, p0, q0, g0, rfl, rfl, h0, hA0⟩ := trodAll_cons hA
 obtain ⟨v1, a1, d1, e1, p1, q1, rfl, rfl, rfl, h1, hA1⟩ := trodAll_cons hA0
 obtain ⟨v2, a2, d2, e2, p2, q2, rfl, rfl, rfl, h2, hA2⟩ := trodAll_cons hA1
 obtain ⟨v3, a3, d3, e3, p3, q3, rfl, rfl, rfl, h3, hA3⟩ := trodAll_cons hA2
 obtain ⟨rfl, rfl, rfl⟩ := trodAll_nil hA3
 obtain ⟨al⟩ := args
 change al = _ at g0
 subst g0
 obtain ⟨rfl, rfl⟩ := trodVars_none hV
 obtain ⟨l0, hl0⟩ := open_vecs (hval 0 22 v0 rfl rfl) h0
 have h1k := h1
 obtain ⟨b10, b11, b12, z10, z11, z12, k1, rfl, rfl, rfl, hz10, hz11, hz12⟩ := open_agg3 Tryz.underlying25 (by kernel_rfl) (by kernel_rfl) (hval 1 25 v1 rfl rfl) h1
 obtain ⟨r10, f10, rfl, x10⟩ := DataW.trod_string Tryz.underlying23 hz10
 obtain ⟨r11, f11, rfl, x11⟩ := DataW.trod_string Tryz.underlying23 hz11
 obtain ⟨r12, f12, rfl, x12⟩ := DataW.trod_string Tryz.underlying23 hz12
 simp at f10 f11 f12
 subst f10 f11 f12
 have h2k := h2
 obtain ⟨b20, b21, b22, z20, z21, z22, k2, rfl, rfl, rfl, hz20, hz21, hz22⟩ := open_agg3 Tryz.underlying25 (by kernel_rfl) (by kernel_rfl) (hval 2 25 v2 rfl rfl) h2
 obtain ⟨r20, f20, rfl, x20⟩ := DataW.trod_string Tryz.underlying23 hz20
 obtain ⟨r21, f21, rfl, x21⟩ := DataW.trod_string Tryz.underlying23 hz21
 obtain ⟨r22, f22, rfl, x22⟩ := DataW.trod_string Tryz.underlying23 hz22
 simp at f20 f21 f22
 subst f20 f21 f22
 have h3k := h3
 obtain ⟨b30, b31, b32, z30, z31, z32, k3, rfl, rfl, rfl, hz30, hz31, hz32⟩ := open_agg3 Tryz.underlying25 (by kernel_rfl) (by kernel_rfl) (hval 3 25 v3 rfl rfl) h3
 obtain ⟨r30, f30, rfl, x30⟩ := DataW.trod_string Tryz.underlying23 hz30
 obtain ⟨r31, f31, rfl, x31⟩ := DataW.trod_string Tryz.underlying23 hz31
 obtain ⟨r32, f32, rfl, x32⟩ := DataW.trod_string Tryz.underlying23 hz32
 simp at f30 f31 f32
 subst f30 f31 f32
 have hlt0 : ∀ x ∈ p0, x.block < W.heap.size := fun x hx => hW'.lt x (by simp [hx])
 refine (meshBuilds_walk v0 l0 ⟨r10, r11, r12⟩ ⟨r20, r21, r22⟩ ⟨r30, r31, r32⟩ W (bw_of hL hS) hl0).mono fun e W' ⟨he, hg⟩ => ?_
 subst he
 refine ⟨_, rfl, _, _, _, [], (p0 ++ ([] ++ ([] ++ ([] ++ [])))), [], hW', ?_, ?_, rfl, hg.frame _, fun h => by cases h⟩
 · exact trodAll_cons_mk (shut_bool Tryz.underlying4 _) trodAll_mk0
 · exact (trodAll_cons_mk (Below.trod laidOut (by kernel_rfl) (of_decide_eq_true (by kernel_rfl)) h0 hg hlt0) (trodAll_cons_mk (vec_reads W' _ _ _ r10 r11 r12 x10 x11 x12) (trodAll_cons_mk (vec_reads W' _ _ _ r20 r21 r22 x20 x21 x22) (trodAll_cons_mk (vec_reads W' _ _ _ r30 r31 r32 x30 x31 x32) trodAll_mk0))))
theorem builds_laid (os : Os) : laidMet Tryz.prog Rows.meshBuildsRow.laid ((laidWorld os).forCall (fun _ _ => 0) ⟨#[], #[noSol, noVec, noVec, noVec], []⟩).memory :=
 laidMet_of_run' 8 (by kernel_rfl) (by kernel_rfl)
theorem builds_reads (os : Os) {H : Type} (enc : TypeId × Value → H) : ∃ places, DataW.whole enc Tryz.prog ((laidWorld os).forCall (fun _ _ => 0) ⟨#[], #[noSol, noVec, noVec, noVec], []⟩).memory Tryz.f3.params.toList Rows.meshBuildsSpec.vars false (#[noSol, noVec, noVec, noVec] : Array Value).toList 8 = some ([.nil, .agg [.lit (.string []), .lit (.string []), .lit (.string [])], .agg [.lit (.string []), .lit (.string []), .lit (.string [])], .agg [.lit (.string []), .lit (.string []), .lit (.string [])]], [], places) :=
 ⟨[], by kernel_rfl⟩
set_option maxRecDepth 100000 in
theorem builds_lifted (os : Os) (started : os.Started) (H : Type) (enc : TypeId × Value → H) (F : Stop.Interp) :
   ReturnsInHanded {} Tryz.checked os 3 .any ((OpenSpec.ofChange Rows.meshBuildsSpec).preRow enc Tryz.prog Tryz.f3 Rows.meshBuildsRow.domain false Rows.meshBuildsRow.laid) (((OpenSpec.ofChange Rows.meshBuildsSpec).at F).post enc Tryz.prog Tryz.f3 false true false false) := by
 obtain ⟨places, hx⟩ := builds_reads os enc
 refine returnsInHanded_of_row (C := Tryz.checked) (s := OpenSpec.ofChange Rows.meshBuildsSpec) own started (by kernel_rfl) Tryz.func3
   (witness_row_at (enc := enc) (C := Tryz.checked) false (laidWorld os) #[noSol, noVec, noVec, noVec] rfl (by kernel_rfl) (by kernel_rfl) (by kernel_rfl)
     (OpenSpec.preRow_of_cond 8 hx (by kernel_rfl) (fun k hk => by cases hk) (by kernel_rfl) (builds_laid os))) ?_
 intro W base args ds gs before hval hW _ _ _ hL hS _
 exact builds_contract H enc W base args ds gs before hval hW hL hS
theorem builds_said : Rows.MeshBuildsSaid :=
 OpenClaim.holds_of_cond 3 Tryz.f3 rfl rfl rfl rfl rfl rfl rfl ⟨rfl, rfl, rfl, rfl, rfl⟩ rfl rfl rfl rfl rfl (by kernel_rfl) Tryz.func3 (by kernel_rfl)
   (of_decide_eq_true (by kernel_rfl)) (by unfold Func.isWrapper; first | (rw [if_pos (by decide +kernel)]; kernel_rfl) | (rw [if_neg (by decide +kernel)]; exact ⟨rfl, rfl⟩))
   (fun os started H enc _ F => by rw [OpenClaim.pre_eq_preRow]; exact builds_lifted os started H enc F)
theorem builds_plain (f : FuncId) (fn : Func) (hf : Tryz.pinned.checked.prog.funcNamed "garboard/garboardlaw12.MeshBuilds" = some f) (hfn : Tryz.pinned.checked.prog.funcs[f]? = some fn) :
   true = Tryz.pinned.checked.prog.looks [] ∧ ∀ (j : Nat) t, fn.params[j]? = some t → Tryz.pinned.checked.prog.wantsStandIn t = false := by
 obtain rfl : f = 3 := Option.some.inj ((show Tryz.prog.funcNamed "garboard/garboardlaw12.MeshBuilds" = some 3 by kernel_rfl).symm.trans hf) |>.symm
 obtain rfl : fn = Tryz.f3 := (Option.some.inj (Tryz.func3.symm.trans hfn)).symm
 refine ⟨by kernel_rfl, fun j t ht => ?_⟩
 rw [Tryz.params3] at ht
 have : t = 22 ∨ t = 25 ∨ t = 25 ∨ t = 25 := by simpa using Array.mem_of_getElem? ht
 rcases this with rfl | rfl | rfl | rfl
 · exact (show Tryz.prog.wantsStandIn 22 = false by kernel_rfl)
 · exact (show Tryz.prog.wantsStandIn 25 = false by kernel_rfl)
 · exact (show Tryz.prog.wantsStandIn 25 = false by kernel_rfl)
 · exact (show Tryz.prog.wantsStandIn 25 = false by kernel_rfl)
theorem meshBuilds_holds : Rows.MeshBuildsCardSaid :=
 Claim7.holds_tied_plain_at .later [] _ _ _ _ builds_said (fun _ h => by cases h) (by kernel_rfl) (fun _ h => by cases h) meshBuilds_row_tie rfl ⟨rfl, rfl⟩ (by kernel_rfl) rfl builds_plain (by kernel_rfl)
#print axioms meshBuilds_holds
end Go.Proofs.YtbnbaokamccmjaaGreatDoor
