/- mesh: Move, Mirror, Join where the first solid is not right. -/
import Derived.Test.YtbnbaokamccmjaaGreatDoorDD
import Derived.Test.YtbnbaokamccmjaaGreatDoorDJ
set_option linter.unusedVariables false
set_option linter.unusedSimpArgs false
namespace Go.Proofs.YtbnbaokamccmjaaGreatDoor
open Go Go.RowKit
set_option maxHeartbeats 2000000 in
set_option maxRecDepth 100000 in
theorem mMove_first (v : Value) (l : List TV) (d : SV) (z : Int) (w : World) (hB : Bw w) (hv : Ts w v l) (hs : tle l 40000000) (hz : chkC l = z) (h0 : z ≠ 0) :
   Calls Tryz.prog 21 #[v, d.val] w fun e w' => e = .returned (.tuple #[.slice none 0 0, .int .i64 z]) ∧ Below w.heap.size w w' := by
 have H := Lib.hid (fun w hB hv => check_walk v l w hB hv hs)
 rw [hz] at H
 obtain ⟨A, cap, rfl, hn, hc, hcell⟩ := hv.open
 clear hcell hn hc hs hz
 unfold SV.val
 go_enter Tryz.func21, Tryz.ntmps21
 go_wp2_with fail
 refine (H.out _ (hB.below bel) (hv.below bel)).mono ?_
 rintro e w1 ⟨rfl, g1⟩
 have B1 := bn (w := w) bel g1
 clear g1
 go_wp2
 go_ret2
 exact ⟨rfl, bel⟩
set_option maxHeartbeats 2000000 in
set_option maxRecDepth 100000 in
theorem mMirror_bad (v : Value) (l : List TV) (z : Int) (w : World) (hB : Bw w) (hv : Ts w v l) (hs : tle l 40000000) (hz : chkC l = z) (h0 : z ≠ 0) :
   Calls Tryz.prog 26 #[v] w fun e w' => e = .returned (.tuple #[.slice none 0 0, .int .i64 z]) ∧ Below w.heap.size w w' := by
 have H := Lib.hid (fun w hB hv => check_walk v l w hB hv hs)
 rw [hz] at H
 obtain ⟨A, cap, rfl, hn, hc, hcell⟩ := hv.open
 clear hcell hn hc hs hz
 go_enter Tryz.func26, Tryz.ntmps26
 go_wp2_with fail
 refine (H.out _ (hB.below bel) (hv.below bel)).mono ?_
 rintro e w1 ⟨rfl, g1⟩
 have B1 := bn (w := w) bel g1
 clear g1
 go_wp2
 go_ret2
 exact ⟨rfl, bel⟩
set_option maxHeartbeats 2000000 in
set_option maxRecDepth 100000 in
theorem mJoin_first (v1 v2 : Value) (l1 l2 : List TV) (u : Int) (w : World) (hB : Bw w) (hv1 : Ts w v1 l1) (hv2 : Ts w v2 l2) (hs1 : tle l1 40000000) (hz1 : chkC l1 = u) (h0 : u ≠ 0) :
   Calls Tryz.prog 28 #[v1, v2] w fun e w' => e = .returned (.tuple #[.slice none 0 0, .int .i64 u]) ∧ Below w.heap.size w w' := by
 have H1 := Lib.hid (fun w hB hv => check_walk v1 l1 w hB hv hs1)
 rw [hz1] at H1
 obtain ⟨A1, cap1, rfl, hn1, hc1, hcell1⟩ := hv1.open
 obtain ⟨A2, cap2, rfl, hn2, hc2, hcell2⟩ := hv2.open
 have HV1 := Lib.hid hv1
 clear hcell1 hcell2 hs1 hz1 hc1 hc2 hn1 hn2 hv1 hv2
 go_enter Tryz.func28, Tryz.ntmps28
 go_wp2
 refine wp_loop_rounds 3 ?_
 rw [rounds_succ]
 go_wp2_with fail
 refine (H1.out _ (hB.below bel) (HV1.out.below bel)).mono ?_
 rintro e w1 ⟨rfl, g1⟩
 have B1 := bn (w := w) bel g1
 clear g1
 go_wp2
 go_ret2
 exact ⟨rfl, bel⟩
end Go.Proofs.YtbnbaokamccmjaaGreatDoor

/- law of chapter 12: MeshMoves: the walk. -/
namespace Go.Proofs.YtbnbaokamccmjaaGreatDoor
open Go Go.RowKit
set_option maxHeartbeats 4000000 in
set_option maxRecDepth 100000 in
theorem moves_out1 (A A2 : Option Addr) (n cap m cap2 : Nat) (l lt : List TV) (x y z : ByteArray) (w : World) (hB : Bw w) (hv : Ts w (.slice A n cap) l) (hv2 : Ts w (.slice A2 m cap2) lt)
   (h20 : ∀ w, Ts w (.slice A n cap) l → Calls Tryz.prog 20 #[.slice A n cap] w fun e w' => e = .returned (.bool false) ∧ Below w.heap.size w w') :
   Calls Tryz.prog 4 #[.slice A n cap, .slice A2 m cap2, .agg #[.string x, .string y, .string z]] w fun e w' => e = .returned (.bool true) ∧ Below w.heap.size w w' := by
 have HV := Lib.hid hv
 have HT := Lib.hid hv2
 clear hv hv2
 have H0 := Lib.hid (fun w hB => awake_walk w hB)
 have H20 := Lib.hid h20
 clear h20
 go_enter Tryz.func4, Tryz.ntmps4
 go_wp2_with fail
 refine (H0.out _ (hB.below bel)).mono ?_
 rintro e w1 ⟨rfl, g1⟩
 have S1 := bn (w := w) bel g1
 replace HV := Lib.hid (HV.out.below S1)
 replace HT := Lib.hid (HT.out.below S1)
 have c1_v_0 := bcv g1 w.heap.size 0 (.string x)
 have c1_v_1 := bcv g1 w.heap.size 1 (.string y)
 have c1_v_2 := bcv g1 w.heap.size 2 (.string z)
 have z1_v : w.heap.size < w1.heap.size := World.block_lt_of_cell? _ _ c1_v_0
 have B1 : Below w.heap.size w w1 := S1
 clear g1
 go_wp2_with fail
 refine (H20.out _ (HV.out.below bel)).mono ?_
 rintro e w2 ⟨rfl, g2⟩
 have S2 : Below w1.heap.size w1 w2 := bn bel g2
 replace HV := Lib.hid (HV.out.below S2)
 replace HT := Lib.hid (HT.out.below S2)
 have c2_v_0 := bcv g2 w.heap.size 0 (.string x)
 have c2_v_1 := bcv g2 w.heap.size 1 (.string y)
 have c2_v_2 := bcv g2 w.heap.size 2 (.string z)
 have z2_v : w.heap.size < w2.heap.size := World.block_lt_of_cell? _ _ c2_v_0
 have B2 : Below w.heap.size w w2 := bn B1 S2
 clear g2 S2
 go_wp2_with fail
 refine (H0.out _ (hB.below bel)).mono ?_
 rintro e w3 ⟨rfl, g3⟩
 have S3 : Below w2.heap.size w2 w3 := bn bel g3
 replace HV := Lib.hid (HV.out.below S3)
 replace HT := Lib.hid (HT.out.below S3)
 have c3_v_0 := bcv g3 w.heap.size 0 (.string x)
 have c3_v_1 := bcv g3 w.heap.size 1 (.string y)
 have c3_v_2 := bcv g3 w.heap.size 2 (.string z)
 have z3_v : w.heap.size < w3.heap.size := World.block_lt_of_cell? _ _ c3_v_0
 have B3 : Below w.heap.size w w3 := bn B2 S3
 clear g3 S3
 go_wp2
 go_ret
 exact ⟨rfl, bel⟩
set_option maxHeartbeats 4000000 in
set_option maxRecDepth 100000 in
theorem moves_out2 (A A2 : Option Addr) (n cap m cap2 : Nat) (l lt : List TV) (x y z : ByteArray) (w : World) (hB : Bw w) (hv : Ts w (.slice A n cap) l) (hv2 : Ts w (.slice A2 m cap2) lt)
   (h20 : ∀ w, Ts w (.slice A n cap) l → Calls Tryz.prog 20 #[.slice A n cap] w fun e w' => e = .returned (.bool true) ∧ Below w.heap.size w w')
   (h21 : ∀ w, Ts w (.slice A2 m cap2) lt → Calls Tryz.prog 20 #[.slice A2 m cap2] w fun e w' => e = .returned (.bool false) ∧ Below w.heap.size w w') :
   Calls Tryz.prog 4 #[.slice A n cap, .slice A2 m cap2, .agg #[.string x, .string y, .string z]] w fun e w' => e = .returned (.bool true) ∧ Below w.heap.size w w' := by
 have HV := Lib.hid hv
 have HT := Lib.hid hv2
 clear hv hv2
 have H0 := Lib.hid (fun w hB => awake_walk w hB)
 have H20 := Lib.hid h20
 clear h20
 have H21 := Lib.hid h21
 clear h21
 go_enter Tryz.func4, Tryz.ntmps4
 go_wp2_with fail
 refine (H0.out _ (hB.below bel)).mono ?_
 rintro e w1 ⟨rfl, g1⟩
 have S1 := bn (w := w) bel g1
 replace HV := Lib.hid (HV.out.below S1)
 replace HT := Lib.hid (HT.out.below S1)
 have c1_v_0 := bcv g1 w.heap.size 0 (.string x)
 have c1_v_1 := bcv g1 w.heap.size 1 (.string y)
 have c1_v_2 := bcv g1 w.heap.size 2 (.string z)
 have z1_v : w.heap.size < w1.heap.size := World.block_lt_of_cell? _ _ c1_v_0
 have B1 : Below w.heap.size w w1 := S1
 clear g1
 go_wp2_with fail
 refine (H20.out _ (HV.out.below bel)).mono ?_
 rintro e w2 ⟨rfl, g2⟩
 have S2 : Below w1.heap.size w1 w2 := bn bel g2
 replace HV := Lib.hid (HV.out.below S2)
 replace HT := Lib.hid (HT.out.below S2)
 have c2_v_0 := bcv g2 w.heap.size 0 (.string x)
 have c2_v_1 := bcv g2 w.heap.size 1 (.string y)
 have c2_v_2 := bcv g2 w.heap.size 2 (.string z)
 have z2_v : w.heap.size < w2.heap.size := World.block_lt_of_cell? _ _ c2_v_0
 have B2 : Below w.heap.size w w2 := bn B1 S2
 clear g2 S2
 go_wp2_with fail
 refine (H21.out _ (HT.out.below bel)).mono ?_
 rintro e w3 ⟨rfl, g3⟩
 have S3 : Below w2.heap.size w2 w3 := bn bel g3
 replace HV := Lib.hid (HV.out.below S3)
 replace HT := Lib.hid (HT.out.below S3)
 have c3_v_0 := bcv g3 w.heap.size 0 (.string x)
 have c3_v_1 := bcv g3 w.heap.size 1 (.string y)
 have c3_v_2 := bcv g3 w.heap.size 2 (.string z)
 have z3_v : w.heap.size < w3.heap.size := World.block_lt_of_cell? _ _ c3_v_0
 have B3 : Below w.heap.size w w3 := bn B2 S3
 clear g3 S3
 go_wp2_with fail
 refine (H0.out _ (hB.below bel)).mono ?_
 rintro e w4 ⟨rfl, g4⟩
 have S4 : Below w3.heap.size w3 w4 := bn bel g4
 replace HV := Lib.hid (HV.out.below S4)
 replace HT := Lib.hid (HT.out.below S4)
 have c4_v_0 := bcv g4 w.heap.size 0 (.string x)
 have c4_v_1 := bcv g4 w.heap.size 1 (.string y)
 have c4_v_2 := bcv g4 w.heap.size 2 (.string z)
 have z4_v : w.heap.size < w4.heap.size := World.block_lt_of_cell? _ _ c4_v_0
 have B4 : Below w.heap.size w w4 := bn B3 S4
 clear g4 S4
 go_wp2
 go_ret
 exact ⟨rfl, bel⟩
set_option maxHeartbeats 4000000 in
set_option maxRecDepth 100000 in
theorem moves_out3 (A A2 : Option Addr) (n cap m cap2 : Nat) (l lt : List TV) (x y z : ByteArray) (w : World) (hB : Bw w) (hv : Ts w (.slice A n cap) l) (hv2 : Ts w (.slice A2 m cap2) lt)
   (h20 : ∀ w, Ts w (.slice A n cap) l → Calls Tryz.prog 20 #[.slice A n cap] w fun e w' => e = .returned (.bool true) ∧ Below w.heap.size w w')
   (h21 : ∀ w, Ts w (.slice A2 m cap2) lt → Calls Tryz.prog 20 #[.slice A2 m cap2] w fun e w' => e = .returned (.bool true) ∧ Below w.heap.size w w')
   (h11 : ∀ p w, Bk w p [.string x, .string y, .string z] → Calls Tryz.prog 11 #[.slice (some ⟨p, 0, none⟩) 1 1] w fun e w' => e = .returned (.bool false) ∧ Below w.heap.size w w') :
   Calls Tryz.prog 4 #[.slice A n cap, .slice A2 m cap2, .agg #[.string x, .string y, .string z]] w fun e w' => e = .returned (.bool true) ∧ Below w.heap.size w w' := by
 have HV := Lib.hid hv
 have HT := Lib.hid hv2
 clear hv hv2
 have H0 := Lib.hid (fun w hB => awake_walk w hB)
 have H20 := Lib.hid h20
 clear h20
 have H21 := Lib.hid h21
 clear h21
 have H11 := Lib.hid h11
 clear h11
 go_enter Tryz.func4, Tryz.ntmps4
 go_wp2_with fail
 refine (H0.out _ (hB.below bel)).mono ?_
 rintro e w1 ⟨rfl, g1⟩
 have S1 := bn (w := w) bel g1
 replace HV := Lib.hid (HV.out.below S1)
 replace HT := Lib.hid (HT.out.below S1)
 have c1_v_0 := bcv g1 w.heap.size 0 (.string x)
 have c1_v_1 := bcv g1 w.heap.size 1 (.string y)
 have c1_v_2 := bcv g1 w.heap.size 2 (.string z)
 have z1_v : w.heap.size < w1.heap.size := World.block_lt_of_cell? _ _ c1_v_0
 have B1 : Below w.heap.size w w1 := S1
 clear g1
 go_wp2_with fail
 refine (H20.out _ (HV.out.below bel)).mono ?_
 rintro e w2 ⟨rfl, g2⟩
 have S2 : Below w1.heap.size w1 w2 := bn bel g2
 replace HV := Lib.hid (HV.out.below S2)
 replace HT := Lib.hid (HT.out.below S2)
 have c2_v_0 := bcv g2 w.heap.size 0 (.string x)
 have c2_v_1 := bcv g2 w.heap.size 1 (.string y)
 have c2_v_2 := bcv g2 w.heap.size 2 (.string z)
 have z2_v : w.heap.size < w2.heap.size := World.block_lt_of_cell? _ _ c2_v_0
 have B2 : Below w.heap.size w w2 := bn B1 S2
 clear g2 S2
 go_wp2_with fail
 refine (H21.out _ (HT.out.below bel)).mono ?_
 rintro e w3 ⟨rfl, g3⟩
 have S3 : Below w2.heap.size w2 w3 := bn bel g3
 replace HV := Lib.hid (HV.out.below S3)
 replace HT := Lib.hid (HT.out.below S3)
 have c3_v_0 := bcv g3 w.heap.size 0 (.string x)
 have c3_v_1 := bcv g3 w.heap.size 1 (.string y)
 have c3_v_2 := bcv g3 w.heap.size 2 (.string z)
 have z3_v : w.heap.size < w3.heap.size := World.block_lt_of_cell? _ _ c3_v_0
 have B3 : Below w.heap.size w w3 := bn B2 S3
 clear g3 S3
 go_wp2_with fail
 refine (H11.out _ _ (bk_at rfl)).mono ?_
 rintro e w4 ⟨rfl, g4⟩
 have S4 : Below w3.heap.size w3 w4 := bn bel g4
 replace HV := Lib.hid (HV.out.below S4)
 replace HT := Lib.hid (HT.out.below S4)
 have c4_v_0 := bcv g4 w.heap.size 0 (.string x)
 have c4_v_1 := bcv g4 w.heap.size 1 (.string y)
 have c4_v_2 := bcv g4 w.heap.size 2 (.string z)
 have z4_v : w.heap.size < w4.heap.size := World.block_lt_of_cell? _ _ c4_v_0
 have B4 : Below w.heap.size w w4 := bn B3 S4
 clear g4 S4
 go_wp2_with fail
 refine (H0.out _ (hB.below bel)).mono ?_
 rintro e w5 ⟨rfl, g5⟩
 have S5 : Below w4.heap.size w4 w5 := bn bel g5
 replace HV := Lib.hid (HV.out.below S5)
 replace HT := Lib.hid (HT.out.below S5)
 have c5_v_0 := bcv g5 w.heap.size 0 (.string x)
 have c5_v_1 := bcv g5 w.heap.size 1 (.string y)
 have c5_v_2 := bcv g5 w.heap.size 2 (.string z)
 have z5_v : w.heap.size < w5.heap.size := World.block_lt_of_cell? _ _ c5_v_0
 have B5 : Below w.heap.size w w5 := bn B4 S5
 clear g5 S5
 go_wp2
 go_ret
 exact ⟨rfl, bel⟩
set_option maxHeartbeats 4000000 in
set_option maxRecDepth 100000 in
theorem moves_main (A A2 : Option Addr) (n cap m cap2 : Nat) (l lt : List TV) (x y z : ByteArray) (w : World) (hB : Bw w) (hv : Ts w (.slice A n cap) l) (hv2 : Ts w (.slice A2 m cap2) lt)
   (l1 l2 l3 l4 : List TV) (n1 n2 n3 n4 : Nat) (z1 z2 z3 z4 : Int)
   (h20 : ∀ w, Ts w (.slice A n cap) l → Calls Tryz.prog 20 #[.slice A n cap] w fun e w' => e = .returned (.bool true) ∧ Below w.heap.size w w')
   (h21 : ∀ w, Ts w (.slice A2 m cap2) lt → Calls Tryz.prog 20 #[.slice A2 m cap2] w fun e w' => e = .returned (.bool true) ∧ Below w.heap.size w w')
   (h11 : ∀ p w, Bk w p [.string x, .string y, .string z] → Calls Tryz.prog 11 #[.slice (some ⟨p, 0, none⟩) 1 1] w fun e w' => e = .returned (.bool true) ∧ Below w.heap.size w w')
   (hcs : ∀ A cap w, Ts w (.slice A n cap) l → Calls Tryz.prog 22 #[.slice A n cap] w (Ret fun r w' => (∃ A c, r = .slice A n c ∧ Ts w' (.slice A n c) l) ∧ Below w.heap.size w w'))
   (hct : ∀ A cap w, Ts w (.slice A m cap) lt → Calls Tryz.prog 22 #[.slice A m cap] w (Ret fun r w' => (∃ A c, r = .slice A m c ∧ Ts w' (.slice A m c) lt) ∧ Below w.heap.size w w'))
   (hm : ∀ A c w, Bw w → Ts w (.slice A n c) l → Calls Tryz.prog 21 #[.slice A n c, .agg #[.string x, .string y, .string z]] w (Ret fun q w' => (∃ A c, q = .tuple #[.slice A n1 c, .int .i64 z1] ∧ Ts w' (.slice A n1 c) l1) ∧ Below w.heap.size w w'))
   (hrm : ∀ A c w, Ts w (.slice A n c) l → Calls Tryz.prog 23 #[.slice A n c, .agg #[.string x, .string y, .string z]] w (Ret fun q w' => (∃ A c, q = .tuple #[.slice A n1 c, .int .i64 z1] ∧ Ts w' (.slice A n1 c) l1) ∧ Below w.heap.size w w'))
   (hv1 : ∀ A c w, Bw w → Ts w (.slice A n c) l → Calls Tryz.prog 24 #[.slice A n c] w (Ret fun q w' => (∃ A c, q = .tuple #[.slice A n2 c, .int .i64 z2] ∧ Ts w' (.slice A n2 c) l2) ∧ Below w.heap.size w w'))
   (hrv1 : ∀ A c w, Ts w (.slice A n c) l → Calls Tryz.prog 25 #[.slice A n c] w (Ret fun q w' => (∃ A c, q = .tuple #[.slice A n2 c, .int .i64 z2] ∧ Ts w' (.slice A n2 c) l2) ∧ Below w.heap.size w w'))
   (hi : ∀ A c w, Bw w → Ts w (.slice A n c) l → Calls Tryz.prog 26 #[.slice A n c] w (Ret fun q w' => (∃ A c, q = .tuple #[.slice A n3 c, .int .i64 z3] ∧ Ts w' (.slice A n3 c) l3) ∧ Below w.heap.size w w'))
   (hri : ∀ A c w, Ts w (.slice A n c) l → Calls Tryz.prog 27 #[.slice A n c] w (Ret fun q w' => (∃ A c, q = .tuple #[.slice A n3 c, .int .i64 z3] ∧ Ts w' (.slice A n3 c) l3) ∧ Below w.heap.size w w'))
   (hj : ∀ A c A' c' w, Bw w → Ts w (.slice A n c) l → Ts w (.slice A' m c') lt → Calls Tryz.prog 28 #[.slice A n c, .slice A' m c'] w (Ret fun q w' => (∃ A c, q = .tuple #[.slice A n4 c, .int .i64 z4] ∧ Ts w' (.slice A n4 c) l4) ∧ Below w.heap.size w w'))
   (hrj : ∀ A c A' c' w, Ts w (.slice A n c) l → Ts w (.slice A' m c') lt → Calls Tryz.prog 29 #[.slice A n c, .slice A' m c'] w (Ret fun q w' => (∃ A c, q = .tuple #[.slice A n4 c, .int .i64 z4] ∧ Ts w' (.slice A n4 c) l4) ∧ Below w.heap.size w w')) :
   Calls Tryz.prog 4 #[.slice A n cap, .slice A2 m cap2, .agg #[.string x, .string y, .string z]] w fun e w' => e = .returned (.bool true) ∧ Below w.heap.size w w' := by
 have HV := Lib.hid hv
 have HT := Lib.hid hv2
 clear hv hv2
 have H0 := Lib.hid (fun w hB => awake_walk w hB)
 have H20 := Lib.hid h20
 clear h20
 have H21 := Lib.hid h21
 clear h21
 have H11 := Lib.hid h11
 clear h11
 have HCS := Lib.hid hcs
 clear hcs
 have HCT := Lib.hid hct
 clear hct
 have HM := Lib.hid hm
 clear hm
 have HRM := Lib.hid hrm
 clear hrm
 have HV1 := Lib.hid hv1
 clear hv1
 have HRV1 := Lib.hid hrv1
 clear hrv1
 have HI := Lib.hid hi
 clear hi
 have HRI := Lib.hid hri
 clear hri
 have HJ := Lib.hid hj
 clear hj
 have HRJ := Lib.hid hrj
 clear hrj
 go_enter Tryz.func4, Tryz.ntmps4
 go_wp2_with fail
 refine (H0.out _ (hB.below bel)).mono ?_
 rintro e w1 ⟨rfl, g1⟩
 have S1 := bn (w := w) bel g1
 replace HV := Lib.hid (HV.out.below S1)
 replace HT := Lib.hid (HT.out.below S1)
 have c1_v_0 := bcv g1 w.heap.size 0 (.string x)
 have c1_v_1 := bcv g1 w.heap.size 1 (.string y)
 have c1_v_2 := bcv g1 w.heap.size 2 (.string z)
 have z1_v : w.heap.size < w1.heap.size := World.block_lt_of_cell? _ _ c1_v_0
 have B1 : Below w.heap.size w w1 := S1
 clear g1
 go_wp2_with fail
 refine (H20.out _ (HV.out.below bel)).mono ?_
 rintro e w2 ⟨rfl, g2⟩
 have S2 : Below w1.heap.size w1 w2 := bn bel g2
 replace HV := Lib.hid (HV.out.below S2)
 replace HT := Lib.hid (HT.out.below S2)
 have c2_v_0 := bcv g2 w.heap.size 0 (.string x)
 have c2_v_1 := bcv g2 w.heap.size 1 (.string y)
 have c2_v_2 := bcv g2 w.heap.size 2 (.string z)
 have z2_v : w.heap.size < w2.heap.size := World.block_lt_of_cell? _ _ c2_v_0
 have B2 : Below w.heap.size w w2 := bn B1 S2
 clear g2 S2
 go_wp2_with fail
 refine (H21.out _ (HT.out.below bel)).mono ?_
 rintro e w3 ⟨rfl, g3⟩
 have S3 : Below w2.heap.size w2 w3 := bn bel g3
 replace HV := Lib.hid (HV.out.below S3)
 replace HT := Lib.hid (HT.out.below S3)
 have c3_v_0 := bcv g3 w.heap.size 0 (.string x)
 have c3_v_1 := bcv g3 w.heap.size 1 (.string y)
 have c3_v_2 := bcv g3 w.heap.size 2 (.string z)
 have z3_v : w.heap.size < w3.heap.size := World.block_lt_of_cell? _ _ c3_v_0
 have B3 : Below w.heap.size w w3 := bn B2 S3
 clear g3 S3
 go_wp2_with fail
 refine (H11.out _ _ (bk_at rfl)).mono ?_
 rintro e w4 ⟨rfl, g4⟩
 have S4 : Below w3.heap.size w3 w4 := bn bel g4
 replace HV := Lib.hid (HV.out.below S4)
 replace HT := Lib.hid (HT.out.below S4)
 have c4_v_0 := bcv g4 w.heap.size 0 (.string x)
 have c4_v_1 := bcv g4 w.heap.size 1 (.string y)
 have c4_v_2 := bcv g4 w.heap.size 2 (.string z)
 have z4_v : w.heap.size < w4.heap.size := World.block_lt_of_cell? _ _ c4_v_0
 have B4 : Below w.heap.size w w4 := bn B3 S4
 clear g4 S4
 clear H0 H20 H21 H11
 go_wp2
 go_region_held3 (fun w' => w'.cell? ⟨w.heap.size, 0, none⟩ = some (.string x) ∧ w'.cell? ⟨w.heap.size, 1, none⟩ = some (.string y) ∧ w'.cell? ⟨w.heap.size, 2, none⟩ = some (.string z) ∧ Below w4.heap.size w4 w')
   ((refine (fun hb => ⟨bc hb c4_v_0, bc hb c4_v_1, bc hb c4_v_2, hb⟩) ?_; go_split_ands; repeat (first | with_reducible assumption | (with_reducible exact bd (br _)) | (with_reducible exact br _) | (with_reducible refine bn ?_ g) | (with_reducible refine ba ?_) | (with_reducible refine bd ?_))))
   (first
     | (go_at_call 22; refine (HCS.out _ _ _ (HV.out.below (by go_split_ands; assumption))).mono ?_; rintro e wx1 ⟨_, rfl, ⟨A4, c4, rfl, q3⟩, g⟩; have X1 : Below w4.heap.size w4 wx1 := bn (by go_split_ands; assumption) g; have V3 := Lib.hid q3; clear q3)
     | (go_at_call 21; refine (HM.out _ _ _ (hB.below (bn B4 (by go_split_ands; assumption))) (V3.out.below (by repeat (first | with_reducible exact br _ | with_reducible assumption | with_reducible refine ba ?_ | with_reducible refine bd ?_ | (refine below_drewN ?_ _))))).mono ?_; rintro e w5 ⟨_, rfl, ⟨AM1, cM1, rfl, M1'⟩, g⟩; have S5 : Below w4.heap.size w4 w5 := bn (by go_split_ands; assumption) g; have M1 := Lib.hid M1'; clear M1'))
 clear V3
 have g5 := S5
 replace HV := Lib.hid (HV.out.below S5)
 replace HT := Lib.hid (HT.out.below S5)
 have c5_v_0 := bcv g5 w.heap.size 0 (.string x)
 have c5_v_1 := bcv g5 w.heap.size 1 (.string y)
 have c5_v_2 := bcv g5 w.heap.size 2 (.string z)
 have z5_v : w.heap.size < w5.heap.size := World.block_lt_of_cell? _ _ c5_v_0
 have B5 : Below w.heap.size w w5 := bn B4 S5
 clear g5 S5
 go_wp2_with fail
 refine (HRM.out _ _ _ (HV.out.below bel)).mono ?_
 rintro e w6 ⟨_, rfl, ⟨AM2, cM2, rfl, M2'⟩, g6⟩
 have S6 : Below w5.heap.size w5 w6 := bn bel g6
 replace HV := Lib.hid (HV.out.below S6)
 replace HT := Lib.hid (HT.out.below S6)
 replace M1 := Lib.hid (M1.out.below S6)
 have c6_v_0 := bcv g6 w.heap.size 0 (.string x)
 have c6_v_1 := bcv g6 w.heap.size 1 (.string y)
 have c6_v_2 := bcv g6 w.heap.size 2 (.string z)
 have z6_v : w.heap.size < w6.heap.size := World.block_lt_of_cell? _ _ c6_v_0
 have B6 : Below w.heap.size w w6 := bn B5 S6
 clear g6 S6
 have M2 := Lib.hid M2'
 clear M2'
 clear HM HRM
 go_wp2_with fail
 refine (HCS.out _ _ _ (HV.out.below bel)).mono ?_
 rintro e w7 ⟨_, rfl, ⟨AV4, cV4, rfl, V4'⟩, g7⟩
 have S7 : Below w6.heap.size w6 w7 := bn bel g7
 replace HV := Lib.hid (HV.out.below S7)
 replace HT := Lib.hid (HT.out.below S7)
 replace M1 := Lib.hid (M1.out.below S7)
 replace M2 := Lib.hid (M2.out.below S7)
 have B7 : Below w.heap.size w w7 := bn B6 S7
 clear g7 S7
 have V4 := Lib.hid V4'
 clear V4'
 go_wp2_with fail
 refine (HV1.out _ _ _ (hB.below bel) (V4.out.below bel)).mono ?_
 rintro e w8 ⟨_, rfl, ⟨AR1, cR1, rfl, R1'⟩, g8⟩
 have S8 : Below w7.heap.size w7 w8 := bn bel g8
 replace HV := Lib.hid (HV.out.below S8)
 replace HT := Lib.hid (HT.out.below S8)
 replace M1 := Lib.hid (M1.out.below S8)
 replace M2 := Lib.hid (M2.out.below S8)
 replace V4 := Lib.hid (V4.out.below S8)
 have B8 : Below w.heap.size w w8 := bn B7 S8
 clear g8 S8
 have R1 := Lib.hid R1'
 clear R1'
 clear V4
 go_wp2_with fail
 refine (HRV1.out _ _ _ (HV.out.below bel)).mono ?_
 rintro e w9 ⟨_, rfl, ⟨AR2, cR2, rfl, R2'⟩, g9⟩
 have S9 : Below w8.heap.size w8 w9 := bn bel g9
 replace HV := Lib.hid (HV.out.below S9)
 replace HT := Lib.hid (HT.out.below S9)
 replace M1 := Lib.hid (M1.out.below S9)
 replace M2 := Lib.hid (M2.out.below S9)
 replace R1 := Lib.hid (R1.out.below S9)
 have B9 : Below w.heap.size w w9 := bn B8 S9
 clear g9 S9
 have R2 := Lib.hid R2'
 clear R2'
 clear HV1 HRV1
 go_wp2_with fail
 refine (HCS.out _ _ _ (HV.out.below bel)).mono ?_
 rintro e w10 ⟨_, rfl, ⟨AV5, cV5, rfl, V5'⟩, g10⟩
 have S10 : Below w9.heap.size w9 w10 := bn bel g10
 replace HV := Lib.hid (HV.out.below S10)
 replace HT := Lib.hid (HT.out.below S10)
 replace M1 := Lib.hid (M1.out.below S10)
 replace M2 := Lib.hid (M2.out.below S10)
 replace R1 := Lib.hid (R1.out.below S10)
 replace R2 := Lib.hid (R2.out.below S10)
 have B10 : Below w.heap.size w w10 := bn B9 S10
 clear g10 S10
 have V5 := Lib.hid V5'
 clear V5'
 go_wp2_with fail
 refine (HI.out _ _ _ (hB.below bel) (V5.out.below bel)).mono ?_
 rintro e w11 ⟨_, rfl, ⟨AI1, cI1, rfl, I1'⟩, g11⟩
 have S11 : Below w10.heap.size w10 w11 := bn bel g11
 replace HV := Lib.hid (HV.out.below S11)
 replace HT := Lib.hid (HT.out.below S11)
 replace M1 := Lib.hid (M1.out.below S11)
 replace M2 := Lib.hid (M2.out.below S11)
 replace R1 := Lib.hid (R1.out.below S11)
 replace R2 := Lib.hid (R2.out.below S11)
 replace V5 := Lib.hid (V5.out.below S11)
 have B11 : Below w.heap.size w w11 := bn B10 S11
 clear g11 S11
 have I1 := Lib.hid I1'
 clear I1'
 clear V5
 go_wp2_with fail
 refine (HRI.out _ _ _ (HV.out.below bel)).mono ?_
 rintro e w12 ⟨_, rfl, ⟨AI2, cI2, rfl, I2'⟩, g12⟩
 have S12 : Below w11.heap.size w11 w12 := bn bel g12
 replace HV := Lib.hid (HV.out.below S12)
 replace HT := Lib.hid (HT.out.below S12)
 replace M1 := Lib.hid (M1.out.below S12)
 replace M2 := Lib.hid (M2.out.below S12)
 replace R1 := Lib.hid (R1.out.below S12)
 replace R2 := Lib.hid (R2.out.below S12)
 replace I1 := Lib.hid (I1.out.below S12)
 have B12 : Below w.heap.size w w12 := bn B11 S12
 clear g12 S12
 have I2 := Lib.hid I2'
 clear I2'
 clear HI HRI
 go_wp2_with fail
 refine (HCS.out _ _ _ (HV.out.below bel)).mono ?_
 rintro e w13 ⟨_, rfl, ⟨AV6, cV6, rfl, V6'⟩, g13⟩
 have S13 : Below w12.heap.size w12 w13 := bn bel g13
 replace HV := Lib.hid (HV.out.below S13)
 replace HT := Lib.hid (HT.out.below S13)
 replace M1 := Lib.hid (M1.out.below S13)
 replace M2 := Lib.hid (M2.out.below S13)
 replace R1 := Lib.hid (R1.out.below S13)
 replace R2 := Lib.hid (R2.out.below S13)
 replace I1 := Lib.hid (I1.out.below S13)
 replace I2 := Lib.hid (I2.out.below S13)
 have B13 : Below w.heap.size w w13 := bn B12 S13
 clear g13 S13
 have V6 := Lib.hid V6'
 clear V6'
 go_wp2_with fail
 refine (HCT.out _ _ _ (HT.out.below bel)).mono ?_
 rintro e w14 ⟨_, rfl, ⟨AV7, cV7, rfl, V7'⟩, g14⟩
 have S14 : Below w13.heap.size w13 w14 := bn bel g14
 replace HV := Lib.hid (HV.out.below S14)
 replace HT := Lib.hid (HT.out.below S14)
 replace M1 := Lib.hid (M1.out.below S14)
 replace M2 := Lib.hid (M2.out.below S14)
 replace R1 := Lib.hid (R1.out.below S14)
 replace R2 := Lib.hid (R2.out.below S14)
 replace I1 := Lib.hid (I1.out.below S14)
 replace I2 := Lib.hid (I2.out.below S14)
 replace V6 := Lib.hid (V6.out.below S14)
 have B14 : Below w.heap.size w w14 := bn B13 S14
 clear g14 S14
 have V7 := Lib.hid V7'
 clear V7'
 go_wp2_with fail
 refine (HJ.out _ _ _ _ _ (hB.below bel) (V6.out.below bel) (V7.out.below bel)).mono ?_
 rintro e w15 ⟨_, rfl, ⟨AJ1, cJ1, rfl, J1'⟩, g15⟩
 have S15 : Below w14.heap.size w14 w15 := bn bel g15
 replace HV := Lib.hid (HV.out.below S15)
 replace HT := Lib.hid (HT.out.below S15)
 replace M1 := Lib.hid (M1.out.below S15)
 replace M2 := Lib.hid (M2.out.below S15)
 replace R1 := Lib.hid (R1.out.below S15)
 replace R2 := Lib.hid (R2.out.below S15)
 replace I1 := Lib.hid (I1.out.below S15)
 replace I2 := Lib.hid (I2.out.below S15)
 replace V6 := Lib.hid (V6.out.below S15)
 replace V7 := Lib.hid (V7.out.below S15)
 have B15 : Below w.heap.size w w15 := bn B14 S15
 clear g15 S15
 have J1 := Lib.hid J1'
 clear J1'
 clear V6 V7
 go_wp2_with fail
 refine (HRJ.out _ _ _ _ _ (HV.out.below bel) (HT.out.below bel)).mono ?_
 rintro e w16 ⟨_, rfl, ⟨AJ2, cJ2, rfl, J2'⟩, g16⟩
 have S16 : Below w15.heap.size w15 w16 := bn bel g16
 replace HV := Lib.hid (HV.out.below S16)
 replace HT := Lib.hid (HT.out.below S16)
 replace M1 := Lib.hid (M1.out.below S16)
 replace M2 := Lib.hid (M2.out.below S16)
 replace R1 := Lib.hid (R1.out.below S16)
 replace R2 := Lib.hid (R2.out.below S16)
 replace I1 := Lib.hid (I1.out.below S16)
 replace I2 := Lib.hid (I2.out.below S16)
 replace J1 := Lib.hid (J1.out.below S16)
 have B16 : Below w.heap.size w w16 := bn B15 S16
 clear g16 S16
 have J2 := Lib.hid J2'
 clear J2'
 clear HV HT
 clear HJ HRJ HCS HCT
 go_wp2_with fail
 refine (refSame_walk _ _ _ _ (M1.out.below bel) (M2.out.below bel)).mono ?_
 rintro e w17 ⟨rfl, g17⟩
 have S17 : Below w16.heap.size w16 w17 := bn bel g17
 replace M1 := Lib.hid (M1.out.below S17)
 replace M2 := Lib.hid (M2.out.below S17)
 replace R1 := Lib.hid (R1.out.below S17)
 replace R2 := Lib.hid (R2.out.below S17)
 replace I1 := Lib.hid (I1.out.below S17)
 replace I2 := Lib.hid (I2.out.below S17)
 replace J1 := Lib.hid (J1.out.below S17)
 replace J2 := Lib.hid (J2.out.below S17)
 have B17 : Below w.heap.size w w17 := bn B16 S17
 clear g17 S17
 clear M1 M2
 go_wp2_with fail
 refine (refSame_walk _ _ _ _ (R1.out.below bel) (R2.out.below bel)).mono ?_
 rintro e w18 ⟨rfl, g18⟩
 have S18 : Below w17.heap.size w17 w18 := bn bel g18
 replace R1 := Lib.hid (R1.out.below S18)
 replace R2 := Lib.hid (R2.out.below S18)
 replace I1 := Lib.hid (I1.out.below S18)
 replace I2 := Lib.hid (I2.out.below S18)
 replace J1 := Lib.hid (J1.out.below S18)
 replace J2 := Lib.hid (J2.out.below S18)
 have B18 : Below w.heap.size w w18 := bn B17 S18
 clear g18 S18
 clear R1 R2
 go_wp2_with fail
 refine (refSame_walk _ _ _ _ (I1.out.below bel) (I2.out.below bel)).mono ?_
 rintro e w19 ⟨rfl, g19⟩
 have S19 : Below w18.heap.size w18 w19 := bn bel g19
 replace I1 := Lib.hid (I1.out.below S19)
 replace I2 := Lib.hid (I2.out.below S19)
 replace J1 := Lib.hid (J1.out.below S19)
 replace J2 := Lib.hid (J2.out.below S19)
 have B19 : Below w.heap.size w w19 := bn B18 S19
 clear g19 S19
 clear I1 I2
 go_wp2_with fail
 refine (refSame_walk _ _ _ _ (J1.out.below bel) (J2.out.below bel)).mono ?_
 rintro e w20 ⟨rfl, g20⟩
 have S20 : Below w19.heap.size w19 w20 := bn bel g20
 replace J1 := Lib.hid (J1.out.below S20)
 replace J2 := Lib.hid (J2.out.below S20)
 have B20 : Below w.heap.size w w20 := bn B19 S20
 clear g20 S20
 clear J1 J2
 go_wp2
 go_ret
 exact ⟨rfl, bel⟩
end Go.Proofs.YtbnbaokamccmjaaGreatDoor

/- law of chapter 12: MeshMoves: whatever the input is, it returns true; the row and the card. -/
namespace Go.Proofs.YtbnbaokamccmjaaGreatDoor
open Go Go.ChangeShapes Go.WideShapes Go.ChangeAt Go.RowKit Go.Joins
open Go.ChangeMaps (open_string shut_string)
theorem res_none {f : FuncId} {args : Array Value} {w : World} {z : Int} (h : Calls Tryz.prog f args w fun e w' => e = .returned (.tuple #[.slice none 0 0, .int .i64 z]) ∧ Below w.heap.size w w') :
   Calls Tryz.prog f args w (Ret fun q0 w' => (∃ A c, q0 = .tuple #[.slice A 0 c, .int .i64 z] ∧ Ts w' (.slice A 0 c) []) ∧ Below w.heap.size w w') := by
 refine h.mono ?_
 rintro e w' ⟨rfl, g⟩
 exact ⟨_, rfl, ⟨none, 0, rfl, Ts.nil _⟩, g⟩
theorem few_tle10 {l : List TV} (h : fewT l = true) : tle l 10000000 := fun t ht => by
 have q : ∀ s : SV, isFew s = true → s.le 10000000 := fun s h => by
   simp only [isFew, Bool.and_eq_true, decide_eq_true_eq] at h
   exact ⟨Nat.le_trans h.1.1 (by omega), Nat.le_trans h.1.2 (by omega), Nat.le_trans h.2 (by omega)⟩
 obtain ⟨a, b, c⟩ := few_tri h t ht
 exact ⟨q _ a, q _ b, q _ c⟩
theorem reverse_both (l : List TV) (n : Nat) (hn : l.length = n) (hf : fewT l = true) : ∃ (q : List TV) (k : Nat) (z : Int),
   (∀ A c w, Bw w → Ts w (.slice A n c) l → Calls Tryz.prog 24 #[.slice A n c] w (Ret fun q0 w' => (∃ A c, q0 = .tuple #[.slice A k c, .int .i64 z] ∧ Ts w' (.slice A k c) q) ∧ Below w.heap.size w w')) ∧
   (∀ A c w, Ts w (.slice A n c) l → Calls Tryz.prog 25 #[.slice A n c] w (Ret fun q0 w' => (∃ A c, q0 = .tuple #[.slice A k c, .int .i64 z] ∧ Ts w' (.slice A k c) q) ∧ Below w.heap.size w w')) := by
 have h4 := few_tle hf
 have h1 := few_tle10 hf
 have h5 := few_len hf
 by_cases hz : chkC l = 0
 · exact ⟨l.map Tr.turn, _, 0, fun A c w hB h => to_sl rfl (mReverse_ok _ l w hB h h4 hz), fun A c w h => to_sl rfl (rReverse_ok _ l w h h1 hz)⟩
 · exact ⟨[], 0, chkC l, fun A c w hB h => res_none (mReverse_bad _ l _ w hB h h4 rfl hz), fun A c w h => res_none (rReverse_bad _ l _ w h h1 rfl hz)⟩
theorem mirror_both (l : List TV) (n : Nat) (hn : l.length = n) (hf : fewT l = true) : ∃ (q : List TV) (k : Nat) (z : Int),
   (∀ A c w, Bw w → Ts w (.slice A n c) l → Calls Tryz.prog 26 #[.slice A n c] w (Ret fun q0 w' => (∃ A c, q0 = .tuple #[.slice A k c, .int .i64 z] ∧ Ts w' (.slice A k c) q) ∧ Below w.heap.size w w')) ∧
   (∀ A c w, Ts w (.slice A n c) l → Calls Tryz.prog 27 #[.slice A n c] w (Ret fun q0 w' => (∃ A c, q0 = .tuple #[.slice A k c, .int .i64 z] ∧ Ts w' (.slice A k c) q) ∧ Below w.heap.size w w')) := by
 have h4 := few_tle hf
 have h1 := few_tle10 hf
 have h5 := few_len hf
 by_cases hz : chkC l = 0
 · obtain ⟨L, rfl⟩ := solid_of (chkC_zero hz).2.1
   have l20 := few_leT hf
   exact ⟨_, _, 0, fun A c w hB h => to_sl rfl (mMirror_ok _ L w hB h (le_up l20 (by omega)) hz), fun A c w h => to_sl rfl (rMirror_ok _ L w h (mem_tpts (le_up l20 (by omega))) hz)⟩
 · exact ⟨[], 0, chkC l, fun A c w hB h => res_none (mMirror_bad _ l _ w hB h h4 rfl hz), fun A c w h => res_none (rMirror_bad _ l _ w h h1 rfl hz)⟩
theorem move_both (l : List TV) (n : Nat) (hn : l.length = n) (hf : fewT l = true) (d : SV) (hd : isFew d = true) : ∃ (q : List TV) (k : Nat) (z : Int),
   (∀ A c w, Bw w → Ts w (.slice A n c) l → Calls Tryz.prog 21 #[.slice A n c, d.val] w (Ret fun q0 w' => (∃ A c, q0 = .tuple #[.slice A k c, .int .i64 z] ∧ Ts w' (.slice A k c) q) ∧ Below w.heap.size w w')) ∧
   (∀ A c w, Ts w (.slice A n c) l → Calls Tryz.prog 23 #[.slice A n c, d.val] w (Ret fun q0 w' => (∃ A c, q0 = .tuple #[.slice A k c, .int .i64 z] ∧ Ts w' (.slice A k c) q) ∧ Below w.heap.size w w')) := by
 have h4 := few_tle hf
 have h1 := few_tle10 hf
 have h5 := few_len hf
 have d4 := few_sv hd
 have d1 : d.le 10000000 := by
   simp only [isFew, Bool.and_eq_true, decide_eq_true_eq] at hd
   exact ⟨Nat.le_trans hd.1.1 (by omega), Nat.le_trans hd.1.2 (by omega), Nat.le_trans hd.2 (by omega)⟩
 by_cases hz : chkC l = 0
 · cases hv : isVec d with
   | false => exact ⟨[], 0, 1, fun A c w hB h => res_none (mMove_bad _ l d w hB h h4 d4 hz hv), fun A c w h => res_none (rMove_arg _ l d w h h1 hz d1 hv)⟩
   | true =>
     obtain ⟨D, rfl⟩ := isVec_iff.1 hv
     obtain ⟨L, rfl⟩ := solid_of (chkC_zero hz).2.1
     have l20 := few_leT hf
     have hD := few_le hd
     rw [txv_val]
     exact ⟨_, _, 0, fun A c w hB h => to_sl rfl (mMove_ok _ L D w hB h (le_up l20 (by omega)) (hD.mono (by omega)) hz), fun A c w h => to_sl rfl (rMove_ok _ L D w h (mem_tpts (le_up l20 (by omega))) (hD.mono (by omega)) hz)⟩
 · exact ⟨[], 0, chkC l, fun A c w hB h => res_none (mMove_first _ l d _ w hB h h4 rfl hz), fun A c w h => res_none (rMove_bad _ l d _ w h h1 rfl hz)⟩
theorem join_both (l l2 : List TV) (n m : Nat) (hn : l.length = n) (hm : l2.length = m) (hf : fewT l = true) (hf2 : fewT l2 = true) : ∃ (q : List TV) (k : Nat) (z : Int),
   (∀ A c A' c' w, Bw w → Ts w (.slice A n c) l → Ts w (.slice A' m c') l2 → Calls Tryz.prog 28 #[.slice A n c, .slice A' m c'] w (Ret fun q0 w' => (∃ A c, q0 = .tuple #[.slice A k c, .int .i64 z] ∧ Ts w' (.slice A k c) q) ∧ Below w.heap.size w w')) ∧
   (∀ A c A' c' w, Ts w (.slice A n c) l → Ts w (.slice A' m c') l2 → Calls Tryz.prog 29 #[.slice A n c, .slice A' m c'] w (Ret fun q0 w' => (∃ A c, q0 = .tuple #[.slice A k c, .int .i64 z] ∧ Ts w' (.slice A k c) q) ∧ Below w.heap.size w w')) := by
 have h4 := few_tle hf
 have h1 := few_tle10 hf
 have g4 := few_tle hf2
 have g1 := few_tle10 hf2
 by_cases hz : chkC l = 0
 · by_cases hz2 : chkC l2 = 0
   · by_cases hl : l.length + l2.length ≤ 512
     · exact ⟨l ++ l2, _, 0, fun A c A' c' w hB h g => to_sl rfl (mJoin_ok _ _ l l2 w hB h g h4 g4 hz hz2 hl), fun A c A' c' w h g => to_sl rfl (rJoin_ok _ _ l l2 w h g h1 g1 hz hz2 hl)⟩
     · exact ⟨[], 0, 8, fun A c A' c' w hB h g => res_none (mJoin_large _ _ l l2 w hB h g h4 g4 hz hz2 (by omega)), fun A c A' c' w h g => res_none (rJoin_large _ _ l l2 w h g h1 g1 hz hz2 (by omega))⟩
   · exact ⟨[], 0, chkC l2, fun A c A' c' w hB h g => res_none (mJoin_second _ _ l l2 _ w hB h g h4 g4 hz rfl hz2), fun A c A' c' w h g => res_none (rJoin_second _ _ l l2 _ w h g h1 g1 hz rfl hz2)⟩
 · exact ⟨[], 0, chkC l, fun A c A' c' w hB h g => res_none (mJoin_first _ _ l l2 _ w hB h g h4 rfl hz), fun A c A' c' w h g => res_none (rJoin_first _ _ l _ w h h1 rfl hz)⟩
theorem meshMoves_walk (v0 : Value) (l : List TV) (v1 : Value) (lt : List TV) (d : SV) (w : World) (hB : Bw w) (hv : Ts w v0 l) (hv2 : Ts w v1 lt) :
   Calls Tryz.prog 4 #[v0, v1, d.val] w fun e w' => e = .returned (.bool true) ∧ Below w.heap.size w w' := by
 obtain ⟨A, cap, rfl, -, -, -⟩ := hv.open
 obtain ⟨A2, cap2, rfl, -, -, -⟩ := hv2.open
 have h20 := fun w (h : Ts w (.slice A l.length cap) l) => refFew_walk _ l w h
 have h21 := fun w (h : Ts w (.slice A2 lt.length cap2) lt) => refFew_walk _ lt w h
 have h11 : ∀ p w, Bk w p [.string d.x, .string d.y, .string d.z] → Calls Tryz.prog 11 #[.slice (some ⟨p, 0, none⟩) 1 1] w fun e w' => e = .returned (.bool (isFew d)) ∧ Below w.heap.size w w' := fun p w h => by
   have := few_walk _ [d] w (vs_of_bk h rfl (by simp)) (by simp)
   simpa using this
 cases r1 : fewT l with
 | false =>
   rw [r1] at h20
   exact moves_out1 A A2 _ cap _ cap2 l lt d.x d.y d.z w hB hv hv2 h20
 | true =>
 rw [r1] at h20
 cases r2 : fewT lt with
 | false =>
   rw [r2] at h21
   exact moves_out2 A A2 _ cap _ cap2 l lt d.x d.y d.z w hB hv hv2 h20 h21
 | true =>
 rw [r2] at h21
 cases r3 : isFew d with
 | false =>
   rw [r3] at h11
   exact moves_out3 A A2 _ cap _ cap2 l lt d.x d.y d.z w hB hv hv2 h20 h21 h11
 | true =>
 rw [r3] at h11
 have hl513 := few_len r1
 have ht513 := few_len r2
 obtain ⟨q1, k1, z1, m1, n1⟩ := move_both l _ rfl r1 d r3
 obtain ⟨q2, k2, z2, m2, n2⟩ := reverse_both l _ rfl r1
 obtain ⟨q3, k3, z3, m3, n3⟩ := mirror_both l _ rfl r1
 obtain ⟨q4, k4, z4, m4, n4⟩ := join_both l lt _ _ rfl rfl r1 r2
 exact moves_main A A2 _ cap _ cap2 l lt d.x d.y d.z w hB hv hv2 q1 q2 q3 q4 k1 k2 k3 k4 z1 z2 z3 z4 h20 h21 h11 (fun A cap w h => clone_sl _ l _ rfl (by omega) w h) (fun A cap w h => clone_sl _ lt _ rfl (by omega) w h) m1 n1 m2 n2 m3 n3 m4 n4
/-! ### The row -/
set_option maxRecDepth 100000 in
theorem moves_contract (H : Type) (enc : TypeId × Value → H) (W : World) (base : Nat) (args : Array Value) (ds gs : List (DataW H)) (before : List MemPlace)
   (hval : ∀ (j : Nat) t v, Tryz.f4.params[j]? = some t → args[j]? = some v → Value.okWide Tryz.prog W .any base t v)
   (hW : DataW.Whole enc Tryz.prog Tryz.f4.params.toList Rows.meshMovesSpec.vars false W args.toList ds gs before) (hL : laidMetH Tryz.prog Rows.meshMovesRow.laid W) (hS : W.ShapedOpen Tryz.prog) :
   Calls Tryz.prog 4 args W fun e W' => ∃ v, e = .returned v ∧ Rows.meshMovesSpec.post enc Tryz.prog Tryz.f4 false true false false W args v W' := by
 have hW' := hW
 obtain ⟨p, q, hA0, hV, rfl, hfz, hnd⟩ := hW
 have hA : DataW.TrodAll enc Tryz.prog W 0 (fun _ => true) true Tryz.f4.params.toList args.toList ds p := hA0
 rw [Tryz.params4] at hA hval
 clear hA0
 obtain ⟨v0, a0, d0, e0, p0, q0, g0, rfl, rfl, h0, hA0⟩ := trodAll_cons hA
 obtain ⟨v1, a1, d1, e1, p1, q1, rfl, rfl, rfl, h1, hA1⟩ := trodAll_cons hA0
 obtain ⟨v2, a2, d2, e2, p2, q2, rfl, rfl, rfl, h2, hA2⟩ := trodAll_cons hA1
 obtain ⟨rfl, rfl, rfl⟩ := trodAll_nil hA2
 obtain ⟨al⟩ := args
 change al = _ at g0
 subst g0
 obtain ⟨rfl, rfl⟩ := trodVars_none hV
 obtain ⟨l0, hl0⟩ := open_solid (hval 0 33 v0 rfl rfl) h0
 obtain ⟨l1, hl1⟩ := open_solid (hval 1 33 v1 rfl rfl) h1
 have h2k := h2
 obtain ⟨b20, b21, b22, z20, z21, z22, k2, rfl, rfl, rfl, hz20, hz21, hz22⟩ := open_agg3 Tryz.underlying25 (by kernel_rfl) (by kernel_rfl) (hval 2 25 v2 rfl rfl) h2
 obtain ⟨r20, f20, rfl, x20⟩ := DataW.trod_string Tryz.underlying23 hz20
 obtain ⟨r21, f21, rfl, x21⟩ := DataW.trod_string Tryz.underlying23 hz21
 obtain ⟨r22, f22, rfl, x22⟩ := DataW.trod_string Tryz.underlying23 hz22
 simp at f20 f21 f22
 subst f20 f21 f22
 have hlt0 : ∀ x ∈ p0, x.block < W.heap.size := fun x hx => hW'.lt x (by simp [hx])
 have hlt1 : ∀ x ∈ p1, x.block < W.heap.size := fun x hx => hW'.lt x (by simp [hx])
 refine (meshMoves_walk v0 l0 v1 l1 ⟨r20, r21, r22⟩ W (bw_of hL hS) hl0 hl1).mono fun e W' ⟨he, hg⟩ => ?_
 subst he
 refine ⟨_, rfl, _, _, _, [], (p0 ++ (p1 ++ ([] ++ []))), [], hW', ?_, ?_, rfl, hg.frame _, fun h => by cases h⟩
 · exact trodAll_cons_mk (shut_bool Tryz.underlying4 _) trodAll_mk0
 · exact (trodAll_cons_mk (Below.trod laidOut (by kernel_rfl) (of_decide_eq_true (by kernel_rfl)) h0 hg hlt0) (trodAll_cons_mk (Below.trod laidOut (by kernel_rfl) (of_decide_eq_true (by kernel_rfl)) h1 hg hlt1) (trodAll_cons_mk (vec_reads W' _ _ _ r20 r21 r22 x20 x21 x22) trodAll_mk0)))
theorem moves_laid (os : Os) : laidMet Tryz.prog Rows.meshMovesRow.laid ((laidWorld os).forCall (fun _ _ => 0) ⟨#[], #[noSol, noSol, noVec], []⟩).memory :=
 laidMet_of_run' 8 (by kernel_rfl) (by kernel_rfl)
theorem moves_reads (os : Os) {H : Type} (enc : TypeId × Value → H) : ∃ places, DataW.whole enc Tryz.prog ((laidWorld os).forCall (fun _ _ => 0) ⟨#[], #[noSol, noSol, noVec], []⟩).memory Tryz.f4.params.toList Rows.meshMovesSpec.vars false (#[noSol, noSol, noVec] : Array Value).toList 8 = some ([.nil, .nil, .agg [.lit (.string []), .lit (.string []), .lit (.string [])]], [], places) :=
 ⟨[], by kernel_rfl⟩
set_option maxRecDepth 100000 in
theorem moves_lifted (os : Os) (started : os.Started) (H : Type) (enc : TypeId × Value → H) (F : Stop.Interp) :
   ReturnsInHanded {} Tryz.checked os 4 .any ((OpenSpec.ofChange Rows.meshMovesSpec).preRow enc Tryz.prog Tryz.f4 Rows.meshMovesRow.domain false Rows.meshMovesRow.laid) (((OpenSpec.ofChange Rows.meshMovesSpec).at F).post enc Tryz.prog Tryz.f4 false true false false) := by
 obtain ⟨places, hx⟩ := moves_reads os enc
 refine returnsInHanded_of_row (C := Tryz.checked) (s := OpenSpec.ofChange Rows.meshMovesSpec) own started (by kernel_rfl) Tryz.func4
   (witness_row_at (enc := enc) (C := Tryz.checked) false (laidWorld os) #[noSol, noSol, noVec] rfl (by kernel_rfl) (by kernel_rfl) (by kernel_rfl)
     (OpenSpec.preRow_of_cond 8 hx (by kernel_rfl) (fun k hk => by cases hk) (by kernel_rfl) (moves_laid os))) ?_
 intro W base args ds gs before hval hW _ _ _ hL hS _
 exact moves_contract H enc W base args ds gs before hval hW hL hS
theorem moves_said : Rows.MeshMovesSaid :=
 OpenClaim.holds_of_cond 4 Tryz.f4 rfl rfl rfl rfl rfl rfl rfl ⟨rfl, rfl, rfl, rfl, rfl⟩ rfl rfl rfl rfl rfl (by kernel_rfl) Tryz.func4 (by kernel_rfl)
   (of_decide_eq_true (by kernel_rfl)) (by unfold Func.isWrapper; first | (rw [if_pos (by decide +kernel)]; kernel_rfl) | (rw [if_neg (by decide +kernel)]; exact ⟨rfl, rfl⟩))
   (fun os started H enc _ F => by rw [OpenClaim.pre_eq_preRow]; exact moves_lifted os started H enc F)
theorem moves_plain (f : FuncId) (fn : Func) (hf : Tryz.pinned.checked.prog.funcNamed "garboard/garboardlaw12.MeshMoves" = some f) (hfn : Tryz.pinned.checked.prog.funcs[f]? = some fn) :
   true = Tryz.pinned.checked.prog.looks [] ∧ ∀ (j : Nat) t, fn.params[j]? = some t → Tryz.pinned.checked.prog.wantsStandIn t = false := by
 obtain rfl : f = 4 := Option.some.inj ((show Tryz.prog.funcNamed "garboard/garboardlaw12.MeshMoves" = some 4 by kernel_rfl).symm.trans hf) |>.symm
 obtain rfl : fn = Tryz.f4 := (Option.some.inj (Tryz.func4.symm.trans hfn)).symm
 refine ⟨by kernel_rfl, fun j t ht => ?_⟩
 rw [Tryz.params4] at ht
 have : t = 33 ∨ t = 33 ∨ t = 25 := by simpa using Array.mem_of_getElem? ht
 rcases this with rfl | rfl | rfl
 · exact (show Tryz.prog.wantsStandIn 33 = false by kernel_rfl)
 · exact (show Tryz.prog.wantsStandIn 33 = false by kernel_rfl)
 · exact (show Tryz.prog.wantsStandIn 25 = false by kernel_rfl)
theorem meshMoves_holds : Rows.MeshMovesCardSaid :=
 Claim7.holds_tied_plain_at .later [] _ _ _ _ moves_said (fun _ h => by cases h) (by kernel_rfl) (fun _ h => by cases h) meshMoves_row_tie rfl ⟨rfl, rfl⟩ (by kernel_rfl) rfl moves_plain (by kernel_rfl)
#print axioms meshMoves_holds
end Go.Proofs.YtbnbaokamccmjaaGreatDoor
