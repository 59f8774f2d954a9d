/- law of chapter 12: vec, awake (the walk). -/
import Derived.Test.YtbnbaokamccmjaaGreatDoorKB
import Derived.Test.YtbnbaokamccmjaaGreatDoorKD
import Derived.Test.YtbnbaokamccmjaaGreatDoorKA
import Derived.Deep.Slices
import Derived.Deep.Fields
import Derived.OpenShut
import Derived.Carry
import Derived.Test.YtbnbaokamccmjaaGreatDoorCards
import Derived.Test.YtbnbaokamccmjaaGreatDoorTie
import Derived.ProofKit
import Derived.Deep.DeepHandedRow
import Derived.Lib.LaidTab
import Derived.Lib.SmallJoins
import Derived.Shelf.Vars
import Derived.SevenTiedAt
set_option linter.unusedVariables false
set_option linter.unusedSimpArgs false
namespace Go.Proofs.YtbnbaokamccmjaaGreatDoor
open Go Go.RowKit

theorem vec_walk (x y z : ByteArray) (w : World) :
    Calls Tryz.prog 46 #[.string x, .string y, .string z] w fun e w' => e = .returned (.agg #[.string x, .string y, .string z]) ∧ Below w.heap.size w w' := by
  go_enter Tryz.func46, Tryz.ntmps46
  go_wp2
  refine bodyPost_ret (v := .agg #[.string x, .string y, .string z]) (by simp [results, Tryz.results46, go_sem, *]) rfl ⟨(by first | rfl | rw [hI]), (by repeat (first | exact br _ | assumption | refine ba ?_ | refine bd ?_ | refine below_drewN ?_ _ | refine bs ?_ (by (try simp) <;> omega)))⟩

/-- All but the first triangle. -/
theorem Ts.tail {w : World} {b off n cap : Nat} {l : List TV} (h : Ts w (.slice (some ⟨b, off, none⟩) (n + 1) cap) l) : Ts w (.slice (some ⟨b, off + 9, none⟩) n (cap - 1)) l.tail := by
  obtain ⟨A, cap', hv, hn, hc, hcell⟩ := h.open
  simp only [Value.slice.injEq] at hv
  obtain ⟨hA, hl, rfl⟩ := hv
  obtain ⟨b2, off2, hA2, hcl⟩ := hcell (by omega)
  rw [hA2] at hA
  simp only [Option.some.injEq, Addr.mk.injEq, and_true] at hA
  obtain ⟨rfl, rfl⟩ := hA
  have hlt : l.tail.length = n := by rw [List.length_tail]; omega
  refine ⟨tcs_length _, some ⟨b, off + 9, none⟩, cap - 1, by rw [hlt], by omega, by unfold maxLen; omega, fun h0 => ⟨b, off + 9, rfl, fun j u hu => ?_⟩⟩
  obtain ⟨_, A3, cap3, hv3, _, _, h3⟩ := h
  obtain ⟨b3, off3, hA3, hc3⟩ := h3 (by omega)
  simp only [Value.slice.injEq] at hv3
  rw [← hv3.1] at hA3
  simp only [Option.some.injEq, Addr.mk.injEq, and_true] at hA3
  obtain ⟨rfl, rfl⟩ := hA3
  have h4 := hc3 (j + 9) u (by
    cases l with
    | nil => simp at hl
    | cons t l =>
      have e : tcs (t :: l) = TV.cells t ++ tcs l := rfl
      have e9 : (TV.cells t).length = 9 := rfl
      rw [e, List.getElem?_append_right (by omega), e9, Nat.add_sub_cancel]
      exact hu)
  rw [show off + 9 + j = off + (j + 9) by omega]
  exact h4

set_option maxHeartbeats 4000000 in
set_option maxRecDepth 100000 in
theorem awake_at (b m j r t b1 f : List TV) (ps : List SV) (w : World) (hB : Bw w) (n12 : b.length = 12) (m12 : m.length = 12) (j24 : j.length = 24) (r12 : r.length = 12) (t12 : t.length = 12) (f1 : f.length = 1) (p8 : ps.length = 8) (hb1 : b1 = b.tail)
    (h1 : ∀ w, Bw w → Calls Tryz.prog 17 #[.agg #[.string ⟨#[48]⟩, .string ⟨#[48]⟩, .string ⟨#[48]⟩], .agg #[.string ⟨#[50]⟩, .string ⟨#[49]⟩, .string ⟨#[49]⟩]] w (Ret fun r w' => (∃ u, r = .tuple #[u, .int .i64 0] ∧ Ts w' u b) ∧ Below w.heap.size w w'))
    (h2 : ∀ v w, Bw w → Ts w v b → Calls Tryz.prog 35 #[v] w (Ret fun r w' => (∃ u, r = .tuple #[u, .int .i64 0] ∧ Vs w' u ps) ∧ Below w.heap.size w w'))
    (h3 : ∀ v w, Bw w → Ts w v b → Calls Tryz.prog 31 #[v] w fun e w' => e = .returned (.tuple #[.int .i64 1, .int .i64 0]) ∧ Below w.heap.size w w')
    (h4 : ∀ v w, Bw w → Ts w v b → Calls Tryz.prog 30 #[v] w fun e w' => e = .returned (.tuple #[.bool true, .int .i64 0]) ∧ Below w.heap.size w w')
    (h5 : ∀ v w, Bw w → Ts w v b → Calls Tryz.prog 21 #[v, .agg #[.string ⟨#[53]⟩, .string ⟨#[48]⟩, .string ⟨#[48]⟩]] w (Ret fun r w' => (∃ u, r = .tuple #[u, .int .i64 0] ∧ Ts w' u m) ∧ Below w.heap.size w w'))
    (h6 : ∀ v1 v2 w, Bw w → Ts w v1 b → Ts w v2 m → Calls Tryz.prog 28 #[v1, v2] w (Ret fun r w' => (∃ u, r = .tuple #[u, .int .i64 0] ∧ Ts w' u j) ∧ Below w.heap.size w w'))
    (h7 : ∀ v w, Bw w → Ts w v j → Calls Tryz.prog 31 #[v] w fun e w' => e = .returned (.tuple #[.int .i64 2, .int .i64 0]) ∧ Below w.heap.size w w')
    (h8 : ∀ v w, Bw w → Ts w v b → Calls Tryz.prog 24 #[v] w (Ret fun q w' => (∃ u, q = .tuple #[u, .int .i64 0] ∧ Ts w' u r) ∧ Below w.heap.size w w'))
    (h9 : ∀ v w, Bw w → Ts w v b → Calls Tryz.prog 26 #[v] w (Ret fun q w' => (∃ u, q = .tuple #[u, .int .i64 0] ∧ Ts w' u t) ∧ Below w.heap.size w w'))
    (h10 : ∀ p w, Bw w → Bk w p [.string ⟨#[48]⟩, .string ⟨#[48]⟩, .string ⟨#[48]⟩, .string ⟨#[49]⟩, .string ⟨#[48]⟩, .string ⟨#[48]⟩, .string ⟨#[48]⟩, .string ⟨#[49]⟩, .string ⟨#[48]⟩] → Calls Tryz.prog 12 #[.slice (some ⟨p, 0, none⟩) 3 3] w (Ret fun q w' => (∃ u, q = .tuple #[u, .int .i64 0] ∧ Ts w' u f) ∧ Below w.heap.size w w'))
    (h11 : ∀ v w, Bw w → Ts w v b → Calls Tryz.prog 32 #[v] w fun e w' => e = .returned (.int .i64 0) ∧ Below w.heap.size w w')
    (h12 : ∀ v w, Bw w → Ts w v b1 → Calls Tryz.prog 32 #[v] w fun e w' => e = .returned (.int .i64 17) ∧ Below w.heap.size w w') :
    Calls Tryz.prog 10 #[] w fun e w' => e = .returned (.bool true) ∧ Below w.heap.size w w' := by
  have H1 := Lib.hid h1
  have H2 := Lib.hid h2
  have H3 := Lib.hid h3
  have H4 := Lib.hid h4
  have H5 := Lib.hid h5
  have H6 := Lib.hid h6
  have H7 := Lib.hid h7
  have H8 := Lib.hid h8
  have H9 := Lib.hid h9
  have H10 := Lib.hid h10
  have H11 := Lib.hid h11
  have H12 := Lib.hid h12
  have HB1 := Lib.hid hb1
  have N12 := Lib.hid n12
  have M12 := Lib.hid m12
  have J24 := Lib.hid j24
  have R12 := Lib.hid r12
  have T12 := Lib.hid t12
  have F1 := Lib.hid f1
  have P8 := Lib.hid p8
  clear h1 h2 h3 h4 h5 h6 h7 h8 h9 h10 h11 h12 hb1 n12 m12 j24 r12 t12 f1 p8
  go_enter Tryz.func10, Tryz.ntmps10
  go_wp2_with fail
  refine (vec_walk _ _ _ _).mono ?_
  rintro e w1 ⟨rfl, g1⟩
  have B1 : Below w.heap.size w w1 := bn (by repeat (first | exact br _ | assumption | refine ba ?_ | refine bd ?_ | refine below_drewN ?_ _ | refine bs ?_ (by (try simp) <;> omega))) g1
  clear g1
  go_wp2_with fail
  refine (vec_walk _ _ _ _).mono ?_
  rintro e w2 ⟨rfl, g2⟩
  have B2 : Below w.heap.size w w2 := bn (by repeat (first | exact br _ | assumption | refine ba ?_ | refine bd ?_ | refine below_drewN ?_ _ | refine bs ?_ (by (try simp) <;> omega))) g2
  clear g2
  go_wp2_with fail
  refine (H1.out _ (hB.below (by repeat (first | exact br _ | assumption | refine ba ?_ | refine bd ?_ | refine below_drewN ?_ _ | refine bs ?_ (by (try simp) <;> omega))))).mono ?_
  rintro e w3 ⟨_, rfl, ⟨u, rfl, hu⟩, g3⟩
  have B3 : Below w.heap.size w w3 := bn (by repeat (first | exact br _ | assumption | refine ba ?_ | refine bd ?_ | refine below_drewN ?_ _ | refine bs ?_ (by (try simp) <;> omega))) g3
  clear g3
  obtain ⟨A, cap, rfl, hn, hc, hcell⟩ := hu.open
  obtain ⟨bb, off, rfl, -⟩ := hcell (by rw [N12.out]; omega)
  rw [N12.out] at hu hn ⊢
  have HU := Lib.hid hu
  have hn12 : 12 ≤ cap := hn
  clear hu hcell hn
  go_wp2_with fail
  refine (H2.out _ _ (hB.below (by repeat (first | exact br _ | assumption | refine ba ?_ | refine bd ?_ | refine below_drewN ?_ _ | refine bs ?_ (by (try simp) <;> omega)))) HU.out).mono ?_
  rintro e w4 ⟨_, rfl, ⟨u, rfl, hu⟩, g4⟩
  have G4 : Below w3.heap.size w3 w4 := g4
  have B4 : Below w.heap.size w w4 := bn (by repeat (first | exact br _ | assumption | refine ba ?_ | refine bd ?_ | refine below_drewN ?_ _ | refine bs ?_ (by (try simp) <;> omega))) g4
  clear g4
  obtain ⟨A4, cap4, rfl, -, -, -⟩ := hu.open
  rw [P8.out] at hu ⊢
  clear hu
  go_wp2_with fail
  refine (H3.out _ _ (hB.below (by repeat (first | exact br _ | assumption | refine ba ?_ | refine bd ?_ | refine below_drewN ?_ _ | refine bs ?_ (by (try simp) <;> omega)))) (HU.out.below G4)).mono ?_
  rintro e w5 ⟨rfl, g5⟩
  have G5 : Below w3.heap.size w3 w5 := bn G4 g5
  have B5 : Below w.heap.size w w5 := bn (by repeat (first | exact br _ | assumption | refine ba ?_ | refine bd ?_ | refine below_drewN ?_ _ | refine bs ?_ (by (try simp) <;> omega))) g5
  clear g5
  go_wp2_with fail
  refine (H4.out _ _ (hB.below (by repeat (first | exact br _ | assumption | refine ba ?_ | refine bd ?_ | refine below_drewN ?_ _ | refine bs ?_ (by (try simp) <;> omega)))) (HU.out.below G5)).mono ?_
  rintro e w6 ⟨rfl, g6⟩
  have G6 : Below w3.heap.size w3 w6 := bn G5 g6
  have B6 : Below w.heap.size w w6 := bn (by repeat (first | exact br _ | assumption | refine ba ?_ | refine bd ?_ | refine below_drewN ?_ _ | refine bs ?_ (by (try simp) <;> omega))) g6
  clear g6
  go_wp2_with fail
  refine (vec_walk _ _ _ _).mono ?_
  rintro e w7 ⟨rfl, g7⟩
  have G7 : Below w3.heap.size w3 w7 := bn G6 g7
  have B7 : Below w.heap.size w w7 := bn (by repeat (first | exact br _ | assumption | refine ba ?_ | refine bd ?_ | refine below_drewN ?_ _ | refine bs ?_ (by (try simp) <;> omega))) g7
  clear g7
  go_wp2_with fail
  refine (H5.out _ _ (hB.below (by repeat (first | exact br _ | assumption | refine ba ?_ | refine bd ?_ | refine below_drewN ?_ _ | refine bs ?_ (by (try simp) <;> omega)))) (HU.out.below G7)).mono ?_
  rintro e w8 ⟨_, rfl, ⟨u, rfl, hu⟩, g8⟩
  have G8 : Below w3.heap.size w3 w8 := bn G7 g8
  have B8 : Below w.heap.size w w8 := bn (by repeat (first | exact br _ | assumption | refine ba ?_ | refine bd ?_ | refine below_drewN ?_ _ | refine bs ?_ (by (try simp) <;> omega))) g8
  clear g8
  obtain ⟨A8, cap8, rfl, -, -, -⟩ := hu.open
  rw [M12.out] at hu ⊢
  have HM := Lib.hid hu
  clear hu
  go_wp2_with fail
  refine (H6.out _ _ _ (hB.below (by repeat (first | exact br _ | assumption | refine ba ?_ | refine bd ?_ | refine below_drewN ?_ _ | refine bs ?_ (by (try simp) <;> omega)))) (HU.out.below G8) HM.out).mono ?_
  rintro e w9 ⟨_, rfl, ⟨u, rfl, hu⟩, g9⟩
  have G9 : Below w3.heap.size w3 w9 := bn G8 g9
  have B9 : Below w.heap.size w w9 := bn (by repeat (first | exact br _ | assumption | refine ba ?_ | refine bd ?_ | refine below_drewN ?_ _ | refine bs ?_ (by (try simp) <;> omega))) g9
  clear g9
  obtain ⟨A9, cap9, rfl, -, -, -⟩ := hu.open
  rw [J24.out] at hu ⊢
  have HJ := Lib.hid hu
  clear hu HM
  go_wp2_with fail
  refine (H7.out _ _ (hB.below (by repeat (first | exact br _ | assumption | refine ba ?_ | refine bd ?_ | refine below_drewN ?_ _ | refine bs ?_ (by (try simp) <;> omega)))) HJ.out).mono ?_
  rintro e w10 ⟨rfl, g10⟩
  have G10 : Below w3.heap.size w3 w10 := bn G9 g10
  have B10 : Below w.heap.size w w10 := bn (by repeat (first | exact br _ | assumption | refine ba ?_ | refine bd ?_ | refine below_drewN ?_ _ | refine bs ?_ (by (try simp) <;> omega))) g10
  clear g10
  clear HJ
  go_wp2_with fail
  refine (H8.out _ _ (hB.below (by repeat (first | exact br _ | assumption | refine ba ?_ | refine bd ?_ | refine below_drewN ?_ _ | refine bs ?_ (by (try simp) <;> omega)))) (HU.out.below G10)).mono ?_
  rintro e w11 ⟨_, rfl, ⟨u, rfl, hu⟩, g11⟩
  have G11 : Below w3.heap.size w3 w11 := bn G10 g11
  have B11 : Below w.heap.size w w11 := bn (by repeat (first | exact br _ | assumption | refine ba ?_ | refine bd ?_ | refine below_drewN ?_ _ | refine bs ?_ (by (try simp) <;> omega))) g11
  clear g11
  obtain ⟨A11, cap11, rfl, -, -, -⟩ := hu.open
  rw [R12.out] at hu ⊢
  clear hu
  go_wp2_with fail
  refine (H9.out _ _ (hB.below (by repeat (first | exact br _ | assumption | refine ba ?_ | refine bd ?_ | refine below_drewN ?_ _ | refine bs ?_ (by (try simp) <;> omega)))) (HU.out.below G11)).mono ?_
  rintro e w12 ⟨_, rfl, ⟨u, rfl, hu⟩, g12⟩
  have G12 : Below w3.heap.size w3 w12 := bn G11 g12
  have B12 : Below w.heap.size w w12 := bn (by repeat (first | exact br _ | assumption | refine ba ?_ | refine bd ?_ | refine below_drewN ?_ _ | refine bs ?_ (by (try simp) <;> omega))) g12
  clear g12
  obtain ⟨A12, cap12, rfl, -, -, -⟩ := hu.open
  rw [T12.out] at hu ⊢
  clear hu
  go_wp2_with fail
  refine (vec_walk _ _ _ _).mono ?_
  rintro e w13 ⟨rfl, g13⟩
  have G13 : Below w3.heap.size w3 w13 := bn G12 g13
  have B13 : Below w.heap.size w w13 := bn (by repeat (first | exact br _ | assumption | refine ba ?_ | refine bd ?_ | refine below_drewN ?_ _ | refine bs ?_ (by (try simp) <;> omega))) g13
  clear g13
  go_wp2_with fail
  refine (vec_walk _ _ _ _).mono ?_
  rintro e w14 ⟨rfl, g14⟩
  have G14 : Below w3.heap.size w3 w14 := bn G13 g14
  have B14 : Below w.heap.size w w14 := bn (by repeat (first | exact br _ | assumption | refine ba ?_ | refine bd ?_ | refine below_drewN ?_ _ | refine bs ?_ (by (try simp) <;> omega))) g14
  clear g14
  go_wp2_with fail
  refine (vec_walk _ _ _ _).mono ?_
  rintro e w15 ⟨rfl, g15⟩
  have G15 : Below w3.heap.size w3 w15 := bn G14 g15
  have B15 : Below w.heap.size w w15 := bn (by repeat (first | exact br _ | assumption | refine ba ?_ | refine bd ?_ | refine below_drewN ?_ _ | refine bs ?_ (by (try simp) <;> omega))) g15
  clear g15
  go_wp2_with fail
  refine (H10.out _ _ (hB.below (by repeat (first | exact br _ | assumption | refine ba ?_ | refine bd ?_ | refine below_drewN ?_ _ | refine bs ?_ (by (try simp) <;> omega)))) (bk_at rfl)).mono ?_
  rintro e w16 ⟨_, rfl, ⟨u, rfl, hu⟩, g16⟩
  have G16 : Below w3.heap.size w3 w16 := bn (ba G15) g16
  have B16 : Below w.heap.size w w16 := bn (by repeat (first | exact br _ | assumption | refine ba ?_ | refine bd ?_ | refine below_drewN ?_ _ | refine bs ?_ (by (try simp) <;> omega))) g16
  clear g16
  obtain ⟨A16, cap16, rfl, -, -, -⟩ := hu.open
  rw [F1.out] at hu ⊢
  clear hu
  go_wp2_with fail
  refine (H11.out _ _ (hB.below (by repeat (first | exact br _ | assumption | refine ba ?_ | refine bd ?_ | refine below_drewN ?_ _ | refine bs ?_ (by (try simp) <;> omega)))) (HU.out.below G16)).mono ?_
  rintro e w17 ⟨rfl, g17⟩
  have G17 : Below w3.heap.size w3 w17 := bn G16 g17
  have B17 : Below w.heap.size w w17 := bn (by repeat (first | exact br _ | assumption | refine ba ?_ | refine bd ?_ | refine below_drewN ?_ _ | refine bs ?_ (by (try simp) <;> omega))) g17
  clear g17
  have hc12 : (12 : Int) ≤ (cap : Int) := by omega
  go_wp2_with fail
  refine (H12.out _ _ (hB.below (by repeat (first | exact br _ | assumption | refine ba ?_ | refine bd ?_ | refine below_drewN ?_ _ | refine bs ?_ (by (try simp) <;> omega)))) (by rw [HB1.out]; exact Ts.tail (HU.out.below G17))).mono ?_
  rintro e w18 ⟨rfl, g18⟩
  have B18 : Below w.heap.size w w18 := bn (by repeat (first | exact br _ | assumption | refine ba ?_ | refine bd ?_ | refine below_drewN ?_ _ | refine bs ?_ (by (try simp) <;> omega))) g18
  clear g18
  go_wp2
  go_ret
  exact ⟨rfl, (by repeat (first | exact br _ | assumption | refine ba ?_ | refine bd ?_ | refine below_drewN ?_ _ | refine bs ?_ (by (try simp) <;> omega)))⟩
end Go.Proofs.YtbnbaokamccmjaaGreatDoor

/- law of chapter 12: awake is true. -/
set_option linter.unusedVariables false
set_option linter.unusedSimpArgs false
namespace Go.Proofs.YtbnbaokamccmjaaGreatDoor
open Go Go.RowKit

theorem valid_txt (L : List (Tr V3)) : (L.map txt).all tvalid = true := by
  rw [List.all_eq_true]
  intro t ht
  obtain ⟨u, _, rfl⟩ := List.mem_map.1 ht
  simp [tvalid, txt, Tr.map, isVec_txv]
theorem open_txt (L : List (Tr V3)) : openT (L.map txt) = openT L := openT_map (f := txv) txv_apart L
theorem chk_ok {L : List (Tr V3)} (h : L.length ≤ 512) (ho : openT L = false) : chkC (L.map txt) = 0 :=
  chkC_ok (by rw [List.length_map]; omega) (valid_txt L) (by rw [open_txt]; exact ho)
theorem chk_op {L : List (Tr V3)} (h : L.length ≤ 512) (ho : openT L = true) : chkC (L.map txt) = 17 :=
  chkC_open (by rw [List.length_map]; omega) (valid_txt L) (by rw [open_txt]; exact ho)
theorem shells_txt (L : List (Tr V3)) : shellsL (L.map txt) = shellsL L := shellsL_map (f := txv) txv_apart L
theorem rtx_one : rtx 1 = ⟨#[49]⟩ := by decide +kernel
theorem rtx_two : rtx 2 = ⟨#[50]⟩ := by decide +kernel
theorem rtx_five : rtx 5 = ⟨#[53]⟩ := by decide +kernel

def lo0 : V3 := ⟨0, 0, 0⟩
def hi0 : V3 := ⟨2, 1, 1⟩
def five : V3 := ⟨5, 0, 0⟩
def box0 : List (Tr V3) := boxT lo0 hi0
def mov0 : List (Tr V3) := box0.map (Tr.map (V3.add · five))
theorem lo0_lt : lo0.lt3 hi0 := by unfold V3.lt3; decide +kernel
theorem box0_len : box0.length = 12 := by decide +kernel
theorem box0_closed : openT box0 = false := boxT_closed lo0_lt.1 lo0_lt.2.1 lo0_lt.2.2
theorem box0_tail : openT box0.tail = true := by decide +kernel
theorem mov0_closed : openT mov0 = false := by decide +kernel
theorem both_closed : openT (box0 ++ mov0) = false := by decide +kernel
theorem both_shells : shellsL (box0 ++ mov0) = 2 := by decide +kernel
theorem box0_shells : shellsL box0 = 1 := boxT_shells lo0_lt.1 lo0_lt.2.1 lo0_lt.2.2
theorem box0_convex : convexL box0 = true := boxT_convex lo0_lt.1 lo0_lt.2.1 lo0_lt.2.2
theorem box0_points : (pointsL box0).length = 8 := by
  unfold box0
  rw [boxT_points lo0_lt.1 lo0_lt.2.1 lo0_lt.2.2, List.length_map, boxI_points]
theorem box0_le : ∀ t ∈ box0, t.a.le 1 ∧ t.b.le 1 ∧ t.c.le 1 := by
  unfold V3.le
  decide +kernel
theorem mov0_le : ∀ t ∈ mov0, t.a.le 1 ∧ t.b.le 1 ∧ t.c.le 1 := by
  unfold V3.le
  decide +kernel
theorem le_up {L : List (Tr V3)} {k m : Nat} (h : ∀ t ∈ L, t.a.le k ∧ t.b.le k ∧ t.c.le k) (hm : k ≤ m) : ∀ t ∈ L, t.a.le m ∧ t.b.le m ∧ t.c.le m :=
  fun t ht => ⟨(h t ht).1.mono hm, (h t ht).2.1.mono hm, (h t ht).2.2.mono hm⟩
theorem VV_lo0 : VV lo0 = .agg #[.string ⟨#[48]⟩, .string ⟨#[48]⟩, .string ⟨#[48]⟩] := by
  rw [VV_eq]; simp only [lo0, rtx_zero]
theorem VV_hi0 : VV hi0 = .agg #[.string ⟨#[50]⟩, .string ⟨#[49]⟩, .string ⟨#[49]⟩] := by
  rw [VV_eq]; simp only [hi0, rtx_one, rtx_two]
theorem VV_five : VV five = .agg #[.string ⟨#[53]⟩, .string ⟨#[48]⟩, .string ⟨#[48]⟩] := by
  rw [VV_eq]; simp only [five, rtx_zero, rtx_five]
theorem five_le : five.le 1000000 := by unfold V3.le; decide +kernel
theorem lo0_le : lo0.le 100000 := by unfold V3.le; decide +kernel
theorem hi0_le : hi0.le 100000 := by unfold V3.le; decide +kernel
def tri0 : List V3 := [⟨0, 0, 0⟩, ⟨1, 0, 0⟩, ⟨0, 1, 0⟩]
theorem tri0_le : ∀ p ∈ tri0, p.le 1 := by unfold V3.le; decide +kernel
theorem tri0_cells : svs (tvs tri0) = [.string ⟨#[48]⟩, .string ⟨#[48]⟩, .string ⟨#[48]⟩, .string ⟨#[49]⟩, .string ⟨#[48]⟩, .string ⟨#[48]⟩, .string ⟨#[48]⟩, .string ⟨#[49]⟩, .string ⟨#[48]⟩] := by
  simp only [tri0, tvs, List.map_cons, List.map_nil, txv, svs, List.flatMap_cons, List.flatMap_nil, SV.cells, rtx_zero, rtx_one]
  rfl

theorem awake_walk (w : World) (hB : Bw w) :
    Calls Tryz.prog 10 #[] w fun e w' => e = .returned (.bool true) ∧ Below w.heap.size w w' := by
  have hb : chkC (box0.map txt) = 0 := chk_ok (by rw [box0_len]; omega) box0_closed
  have hml : mov0.length = 12 := by unfold mov0; rw [List.length_map, box0_len]
  have hm : chkC (mov0.map txt) = 0 := chk_ok (by rw [hml]; omega) mov0_closed
  have hj : chkC ((box0 ++ mov0).map txt) = 0 := chk_ok (by rw [List.length_append, hml, box0_len]; omega) both_closed
  have hbl : tle (box0.map txt) 40000000 := tle_txt (le_up box0_le (show 1 ≤ 1000000 by omega)) (by omega)
  have hmle : tle (mov0.map txt) 40000000 := tle_txt (le_up mov0_le (show 1 ≤ 1000000 by omega)) (by omega)
  have hjl : tle ((box0 ++ mov0).map txt) 40000000 := by
    intro t ht
    rw [List.map_append] at ht
    rcases List.mem_append.1 ht with h | h
    · exact hbl t h
    · exact hmle t h
  refine awake_at (box0.map txt) (mov0.map txt) ((box0 ++ mov0).map txt) ((box0.map txt).map Tr.turn) ((box0.map (fun t => (t.map V3.flip).turn)).map txt) (box0.map txt).tail (fanL (tvs tri0)) (tvs (pointsL box0)) w hB
    (by rw [List.length_map, box0_len]) (by rw [List.length_map, hml]) (by rw [List.length_map, List.length_append, hml, box0_len]) (by rw [List.length_map, List.length_map, box0_len]) (by rw [List.length_map, List.length_map, box0_len]) (by rw [fanL_length]; rfl) (by rw [tvs_length, box0_points]) rfl ?_ ?_ ?_ ?_ ?_ ?_ ?_ ?_ ?_ ?_ ?_ ?_
  · intro w hB
    have := mbox_ok lo0 hi0 lo0_le hi0_le lo0_lt w hB
    rw [VV_lo0, VV_hi0] at this
    exact this
  · intro v w hB hv
    have := mPoints_ok v (box0.map txt) w hB hv hbl hb
    rw [points_txt] at this
    exact this
  · intro v w hB hv
    have := mShells_ok v (box0.map txt) w hB hv hbl hb
    rw [shells_txt, box0_shells] at this
    exact this
  · intro v w hB hv
    have := convex_walk v box0 w hB hv (le_up box0_le (by omega)) hb
    rw [box0_convex] at this
    exact this
  · intro v w hB hv
    have := mMove_ok v box0 five w hB hv (le_up box0_le (by omega)) five_le hb
    rw [VV_five] at this
    exact this
  · intro v1 v2 w hB h1 h2
    have := mJoin_ok v1 v2 (box0.map txt) (mov0.map txt) w hB h1 h2 hbl hmle hb hm (by rw [List.length_map, List.length_map, hml, box0_len]; omega)
    rw [← List.map_append] at this
    exact this
  · intro v w hB hv
    have := mShells_ok v ((box0 ++ mov0).map txt) w hB hv hjl hj
    rw [shells_txt, both_shells] at this
    exact this
  · intro v w hB hv
    exact mReverse_ok v (box0.map txt) w hB hv hbl hb
  · intro v w hB hv
    exact mMirror_ok v box0 w hB hv (le_up box0_le (by omega)) hb
  · intro p w hB hk
    have hv : Vs w (.slice (some ⟨p, 0, none⟩) 3 3) (tvs tri0) := vs_of_bk (by rw [tri0_cells]; exact hk) rfl (by rw [tvs_length]; decide)
    exact mfan_ok (.slice (some ⟨p, 0, none⟩) 3 3) (tvs tri0) w hB hv (tvs_le tri0_le (by omega)) (polC_tvs (by decide) (by decide) (by omega))
  · intro v w hB hv
    have := check_walk v (box0.map txt) w hB hv hbl
    rw [hb] at this
    exact this
  · intro v w hB hv
    have ht : (box0.map txt).tail = box0.tail.map txt := by simp
    rw [ht] at hv
    have h17 : chkC (box0.tail.map txt) = 17 := chk_op (by rw [List.length_tail, box0_len]; omega) box0_tail
    have hle : tle (box0.tail.map txt) 40000000 := by
      rw [← ht]
      exact fun t h => hbl t (List.mem_of_mem_tail h)
    have := check_walk v (box0.tail.map txt) w hB hv hle
    rw [h17] at this
    exact this
end Go.Proofs.YtbnbaokamccmjaaGreatDoor

/- law of chapter 12: few, the closures of MeshBoxes, slices.Contains. -/
set_option linter.unusedVariables false
set_option linter.unusedSimpArgs false
namespace Go.Proofs.YtbnbaokamccmjaaGreatDoor
open Go Go.RowKit

def isFew (s : SV) : Bool := decide (s.x.size ≤ 20) && decide (s.y.size ≤ 20) && decide (s.z.size ≤ 20)
set_option maxHeartbeats 1000000 in
theorem Few_walk (v : Value) (l : List SV) (w : World) (hv : Vs w v l) (hm : l.length ≤ 1000000) :
    Calls Tryz.prog 47 #[v] w fun e w' => e = .returned (.bool (l.all isFew)) ∧ Below w.heap.size w w' := by
  obtain ⟨A, cap, rfl, hn, hc, hcell⟩ := hv.open
  have HCL := Lib.hid hcell
  have HTE := Lib.hid (show l.take l.length = l from List.take_length)
  obtain ⟨n, hn0⟩ : ∃ n, n = l.length := ⟨_, rfl⟩
  have HG := Lib.hid (fun k (hk : k < n) => (show ∃ s, l[k]? = some s from ⟨_, List.getElem?_eq_getElem (by rw [← hn0]; exact hk)⟩))
  rw [← hn0] at hn hm HCL HTE ⊢
  clear hn0 hv hcell
  go_enter Tryz.func47, Tryz.ntmps47
  go_wp2
  go_loopw [3] (fun ii wr => ∃ k : Nat, k ≤ n ∧ ii = .int .i64 k ∧ Hid ((l.take k).all isFew = true) ∧ wr = w) (fun ii _ => n - (intOf ii).toNat)
  case atStart => exact ⟨0, Nat.zero_le _, rfl, Lib.hid rfl, rfl⟩
  case round =>
    obtain ⟨k, hk, rfl, hd, rfl⟩ := hrel
    by_cases hlt : k < n
    · obtain ⟨s, hg⟩ := HG.out k hlt
      obtain ⟨b, off, rfl, hcl⟩ := HCL.out (by omega)
      obtain ⟨c0, c1, c2⟩ := hcl k _ hg
      have HT := Lib.hid (fun (h : isFew s = true) => take_all hg hd.out h)
      have HF : Hid (isFew s = false → l.all isFew = false) := Lib.hid (fun h => List.all_eq_false.2 ⟨s, List.mem_of_getElem? hg, by rw [h]; decide⟩)
      have hk0 : (0 : Int) ≤ (k : Int) := by omega
      have hkn : (k : Int) < (n : Int) := by omega
      clear hg hcl hd
      by_cases h0 : s.x.size ≤ 20
      · have i0 : (s.x.size : Int) ≤ 20 := by omega
        by_cases h1 : s.y.size ≤ 20
        · have i1 : (s.y.size : Int) ≤ 20 := by omega
          by_cases h2 : s.z.size ≤ 20
          · have i2 : (s.z.size : Int) ≤ 20 := by omega
            have E := Lib.hid (HT.out (by simp [isFew, h0, h1, h2]))
            clear HT HF
            go_wp2
            go_roundw
            case rel => exact ⟨k + 1, by omega, by go_num, E, trivial⟩
            case measure => simp [intOf]; omega
          · have i2 : (20 : Int) < (s.z.size : Int) := by omega
            have E := Lib.hid (HF.out (by simp [isFew, h2]))
            clear HT HF
            go_wp2
            go_ret
            exact ⟨by rw [E.out]; rfl, br _⟩
        · have i1 : (20 : Int) < (s.y.size : Int) := by omega
          have E := Lib.hid (HF.out (by simp [isFew, h1]))
          clear HT HF
          go_wp2
          go_ret
          exact ⟨by rw [E.out]; rfl, br _⟩
      · have i0 : (20 : Int) < (s.x.size : Int) := by omega
        have E := Lib.hid (HF.out (by simp [isFew, h0]))
        clear HT HF
        go_wp2
        go_ret
        exact ⟨by rw [E.out]; rfl, br _⟩
    · obtain rfl : k = n := by omega
      rw [HTE.out] at hd
      have E := Lib.hid hd.out
      clear hd
      go_wp2
      go_ret
      exact ⟨by rw [E.out]; rfl, br _⟩

set_option maxHeartbeats 1000000 in
theorem few_walk (v : Value) (l : List SV) (w : World) (hv : Vs w v l) (hm : l.length ≤ 1000000) :
    Calls Tryz.prog 11 #[v] w fun e w' => e = .returned (.bool (l.all isFew)) ∧ Below w.heap.size w w' := by
  have H := Lib.hid (Few_walk v l w hv hm)
  obtain ⟨A, cap, rfl, -, -, -⟩ := hv.open
  clear hv hm
  generalize l.all isFew = r at *
  go_enter Tryz.func11, Tryz.ntmps11
  go_wp2_with fail
  refine H.out.mono ?_
  rintro e w1 ⟨rfl, g1⟩
  go_wp2
  go_ret
  exact ⟨rfl, g1⟩

/-- One of two texts. -/
def oneOf (a b c : ByteArray) : Prop := a = b ∨ a = c
theorem oneOf_iff {a b c : ByteArray} (h : oneOf a b c) : (a.toList == b.toList) = true ∨ ((a.toList == b.toList) = false ∧ (a.toList == c.toList) = true) := by
  rw [toList_beq, toList_beq]
  by_cases h1 : a = b
  · exact .inl (by simp [h1])
  · rcases h with h | h
    · exact absurd h h1
    · exact .inr ⟨by simp [h1], by simp [h]⟩
set_option maxHeartbeats 4000000 in
theorem inside_walk (p1 p2 p3 x1 y1 z1 x2 y2 z2 : ByteArray) (lb hb : Nat) (w : World) (h1 : oneOf p1 x1 x2) (h2 : oneOf p2 y1 y2) (h3 : oneOf p3 z1 z2)
    (c0 : w.cell? ⟨lb, 0, none⟩ = some (.string x1)) (c1 : w.cell? ⟨lb, 1, none⟩ = some (.string y1)) (c2 : w.cell? ⟨lb, 2, none⟩ = some (.string z1))
    (d0 : w.cell? ⟨hb, 0, none⟩ = some (.string x2)) (d1 : w.cell? ⟨hb, 1, none⟩ = some (.string y2)) (d2 : w.cell? ⟨hb, 2, none⟩ = some (.string z2)) :
    Calls Tryz.prog 41 #[.agg #[.string p1, .string p2, .string p3], .pointer (some ⟨lb, 0, none⟩), .pointer (some ⟨hb, 0, none⟩)] w fun e w' => e = .returned (.bool true) ∧ Below w.heap.size w w' := by
  have l1 := World.block_lt_of_cell? w _ c0
  have l2 := World.block_lt_of_cell? w _ d0
  rcases oneOf_iff h1 with a1 | ⟨a1, a2⟩ <;> rcases oneOf_iff h2 with b1 | ⟨b1, b2⟩ <;> rcases oneOf_iff h3 with e1 | ⟨e1, e2⟩
  all_goals
    clear h1 h2 h3
    go_enter Tryz.func41, Tryz.ntmps41
    go_wp2
    go_ret
    exact ⟨rfl, (by repeat (first | exact br _ | assumption | refine ba ?_ | refine bd ?_ | refine below_drewN ?_ _ | refine bs ?_ (by (try simp) <;> omega)))⟩

def insV (lb hb : Nat) : Value := .func (.func 41) #[] #[.pointer (some ⟨lb, 0, none⟩), .pointer (some ⟨hb, 0, none⟩)]
/-- The memory that 'inside' reads. -/
structure IB (w : World) (ib lb hb : Nat) (a b : SV) : Prop where
  f : w.cell? ⟨ib, 0, none⟩ = some (insV lb hb)
  c0 : w.cell? ⟨lb, 0, none⟩ = some (.string a.x)
  c1 : w.cell? ⟨lb, 1, none⟩ = some (.string a.y)
  c2 : w.cell? ⟨lb, 2, none⟩ = some (.string a.z)
  d0 : w.cell? ⟨hb, 0, none⟩ = some (.string b.x)
  d1 : w.cell? ⟨hb, 1, none⟩ = some (.string b.y)
  d2 : w.cell? ⟨hb, 2, none⟩ = some (.string b.z)
theorem IB.below {w w1 : World} {ib lb hb : Nat} {a b : SV} (h : IB w ib lb hb a b) (g : Below w.heap.size w w1) : IB w1 ib lb hb a b :=
  ⟨bc g h.f, bc g h.c0, bc g h.c1, bc g h.c2, bc g h.d0, bc g h.d1, bc g h.d2⟩
def inBox (a b p : SV) : Prop := oneOf p.x a.x b.x ∧ oneOf p.y a.y b.y ∧ oneOf p.z a.z b.z
set_option maxHeartbeats 1000000 in
theorem outside_walk (a b p : SV) (ib lb hb : Nat) (w : World) (hp : inBox a b p) (hI : IB w ib lb hb a b) :
    Calls Tryz.prog 43 #[.agg #[.string p.x, .string p.y, .string p.z], .pointer (some ⟨ib, 0, none⟩)] w fun e w' => e = .returned (.bool false) ∧ Below w.heap.size w w' := by
  have c := hI.f
  have lt := World.block_lt_of_cell? w _ c
  unfold insV at c
  have H := Lib.hid (fun w1 (g : Below w.heap.size w w1) => inside_walk p.x p.y p.z a.x a.y a.z b.x b.y b.z lb hb w1 hp.1 hp.2.1 hp.2.2 (hI.below g).c0 (hI.below g).c1 (hI.below g).c2 (hI.below g).d0 (hI.below g).d1 (hI.below g).d2)
  clear hI hp
  generalize p.x = p1 at *
  generalize p.y = p2 at *
  generalize p.z = p3 at *
  go_enter Tryz.func43, Tryz.ntmps43
  go_wp2_with fail
  refine (H.out _ (by repeat (first | exact br _ | assumption | refine ba ?_ | refine bd ?_ | refine below_drewN ?_ _ | refine bs ?_ (by (try simp) <;> omega)))).mono ?_
  rintro e w1 ⟨rfl, g1⟩
  have B1 : Below w.heap.size w w1 := bn (by repeat (first | exact br _ | assumption | refine ba ?_ | refine bd ?_ | refine below_drewN ?_ _ | refine bs ?_ (by (try simp) <;> omega))) g1
  clear g1
  go_wp2
  go_ret
  exact ⟨rfl, (by repeat (first | exact br _ | assumption | refine ba ?_ | refine bd ?_ | refine below_drewN ?_ _ | refine bs ?_ (by (try simp) <;> omega)))⟩

set_option maxHeartbeats 1000000 in
theorem indexOut_walk (v : Value) (l : List SV) (a b : SV) (ib lb hb : Nat) (w : World) (hv : Vs w v l) (hs : ∀ s ∈ l, inBox a b s) (hI : IB w ib lb hb a b) :
    Calls Tryz.prog 85 #[v, .func (.func 43) #[] #[.pointer (some ⟨ib, 0, none⟩)]] w fun e w' => e = .returned (.int .i64 (-1)) ∧ Below w.heap.size w w' := by
  obtain ⟨A, cap, rfl, hn, hc, hcell⟩ := hv.open
  have HCL := Lib.hid hcell
  have HI := Lib.hid hI
  have HS := Lib.hid hs
  obtain ⟨n, hn0⟩ : ∃ n, n = l.length := ⟨_, rfl⟩
  have HG := Lib.hid (fun k (hk : k < n) => (show ∃ s, l[k]? = some s from ⟨_, List.getElem?_eq_getElem (by rw [← hn0]; exact hk)⟩))
  rw [← hn0] at hn HCL ⊢
  clear hn0 hv hcell hI hs
  go_enter Tryz.func85, Tryz.ntmps85
  go_wp2
  go_loopw [8] (fun ii wr => ∃ k : Nat, k ≤ n ∧ ii = .int .i64 k ∧ Below w.heap.size w wr) (fun ii _ => n - (intOf ii).toNat)
  case atStart => exact ⟨0, Nat.zero_le _, rfl, Below.refl _ _⟩
  case round =>
    obtain ⟨k, hk, rfl, hbw⟩ := hrel
    by_cases hlt : k < n
    · obtain ⟨s, hg⟩ := HG.out k hlt
      obtain ⟨bb, off, rfl, hcl⟩ := HCL.out (by omega)
      obtain ⟨c0, c1, c2⟩ := hcl k _ hg
      have e0 := cell_below hbw c0
      have e1 := cell_below hbw c1
      have e2 := cell_below hbw c2
      have HO := Lib.hid (fun w1 (g : Below w.heap.size w w1) => outside_walk a b s ib lb hb w1 (HS.out s (List.mem_of_getElem? hg)) (HI.out.below g))
      have hk0 : (0 : Int) ≤ (k : Int) := by omega
      have hkn : (k : Int) < (n : Int) := by omega
      clear hg hcl c0 c1 c2
      generalize s.x = p1 at *
      generalize s.y = p2 at *
      generalize s.z = p3 at *
      go_wp2_with fail
      refine (HO.out _ (by repeat (first | exact br _ | assumption | refine ba ?_ | refine bd ?_ | refine below_drewN ?_ _ | refine bs ?_ (by (try simp) <;> omega)))).mono ?_
      rintro e w1 ⟨rfl, g1⟩
      have B1 : Below w.heap.size w w1 := bn (by repeat (first | exact br _ | assumption | refine ba ?_ | refine bd ?_ | refine below_drewN ?_ _ | refine bs ?_ (by (try simp) <;> omega))) g1
      clear g1
      go_wp2
      go_roundw
      case rel => exact ⟨k + 1, by omega, by go_num, (by repeat (first | exact br _ | assumption | refine ba ?_ | refine bd ?_ | refine below_drewN ?_ _ | refine bs ?_ (by (try simp) <;> omega)))⟩
      case measure => simp [intOf]; omega
    · obtain rfl : k = n := by omega
      go_wp2
      go_ret
      exact ⟨rfl, (by repeat (first | exact br _ | assumption | refine ba ?_ | refine bd ?_ | refine below_drewN ?_ _ | refine bs ?_ (by (try simp) <;> omega)))⟩
set_option maxHeartbeats 1000000 in
theorem anyOut_walk (v : Value) (l : List SV) (a b : SV) (ib lb hb : Nat) (w : World) (hv : Vs w v l) (hs : ∀ s ∈ l, inBox a b s) (hI : IB w ib lb hb a b) :
    Calls Tryz.prog 42 #[v, .func (.func 43) #[] #[.pointer (some ⟨ib, 0, none⟩)]] w fun e w' => e = .returned (.bool false) ∧ Below w.heap.size w w' := by
  have H := Lib.hid (indexOut_walk v l a b ib lb hb w hv hs hI)
  obtain ⟨A, cap, rfl, -, -, -⟩ := hv.open
  clear hv hs hI
  go_enter Tryz.func42, Tryz.ntmps42
  go_wp2_with fail
  refine H.out.mono ?_
  rintro e w1 ⟨rfl, g1⟩
  go_wp2
  go_ret
  exact ⟨rfl, g1⟩

set_option maxHeartbeats 1000000 in
theorem indexVec_walk (v : Value) (l : List SV) (s : SV) (w : World) (hv : Vs w v l) (hs : s ∈ l) :
    Calls Tryz.prog 86 #[v, .agg #[.string s.x, .string s.y, .string s.z]] w (Ret fun r w' => (∃ k : Nat, r = .int .i64 k ∧ k ≤ 9223372036854775807) ∧ Below w.heap.size w w') := by
  obtain ⟨A, cap, rfl, hn, hc, hcell⟩ := hv.open
  have HCL := Lib.hid hcell
  have HS := Lib.hid hs
  obtain ⟨n, hn0⟩ : ∃ n, n = l.length := ⟨_, rfl⟩
  have HG := Lib.hid (fun k (hk : k < n) => (show ∃ s, l[k]? = some s from ⟨_, List.getElem?_eq_getElem (by rw [← hn0]; exact hk)⟩))
  have HTE := Lib.hid (show l.take n = l from by rw [hn0]; exact List.take_length)
  rw [← hn0] at hn HCL ⊢
  clear hn0 hv hcell hs
  go_enter Tryz.func86, Tryz.ntmps86
  go_wp2
  obtain ⟨W, hW⟩ : ∃ W, W = w.alloc (.cells #[.string s.x, .string s.y, .string s.z] 25) := ⟨_, rfl⟩
  have p0 : W.cell? ⟨w.heap.size, 0, none⟩ = some (.string s.x) := by rw [hW]; go_simp
  have p1 : W.cell? ⟨w.heap.size, 1, none⟩ = some (.string s.y) := by rw [hW]; go_simp
  have p2 : W.cell? ⟨w.heap.size, 2, none⟩ = some (.string s.z) := by rw [hW]; go_simp
  have bW : Below w.heap.size w W := by rw [hW]; exact ba (br w)
  rw [← hW]
  clear hW
  go_loopw [8] (fun ii wr => ∃ k : Nat, k ≤ n ∧ ii = .int .i64 k ∧ Hid (∀ x ∈ l.take k, x ≠ s) ∧ Below W.heap.size W wr) (fun ii _ => n - (intOf ii).toNat)
  case atStart => exact ⟨0, Nat.zero_le _, rfl, Lib.hid (by simp), Below.refl _ _⟩
  case round =>
    obtain ⟨k, hk, rfl, hd, hb2⟩ := hrel
    have hbw : Below w.heap.size w wr := bn bW hb2
    by_cases hlt : k < n
    · obtain ⟨t, hg⟩ := HG.out k hlt
      obtain ⟨bb, off, rfl, hcl⟩ := HCL.out (by omega)
      obtain ⟨c0, c1, c2⟩ := hcl k _ hg
      have e0 := cell_below hbw c0
      have e1 := cell_below hbw c1
      have e2 := cell_below hbw c2
      have z0 := cell_below hb2 p0
      have z1 := cell_below hb2 p1
      have z2 := cell_below hb2 p2
      have hk0 : (0 : Int) ≤ (k : Int) := by omega
      have hkn : (k : Int) < (n : Int) := by omega
      have HB2 := Lib.hid hb2
      have HD : Hid (t ≠ s → ∀ x ∈ l.take (k + 1), x ≠ s) := Lib.hid (fun hne x hx => by
        have hlt3 : k < l.length := (List.getElem?_eq_some_iff.1 hg).1
        have e : l[k] = t := (List.getElem?_eq_some_iff.1 hg).2
        rw [List.take_succ_eq_append_getElem hlt3, e] at hx
        rcases List.mem_append.1 hx with hx | hx
        · exact hd.out x hx
        · simp at hx
          rw [hx]
          exact hne)
      have nq : ∀ w, (binOp .eql 25 (.agg #[.string s.x, .string s.y, .string s.z]) (.agg #[.string t.x, .string t.y, .string t.z])).run Tryz.prog w = .ok (.bool (decide (s = t))) w := fun w => by
        have := eql_vec s.x s.y s.z t.x t.y t.z w
        rw [sv_eq] at this
        exact this
      clear hg hcl c0 c1 c2 hd
      by_cases hst : s = t
      · rw [decide_eq_true hst] at nq
        clear HD hst
        go_wp2
        go_region_held3 (fun w' => w'.cell? ⟨w.heap.size, 0, none⟩ = some (.string s.x) ∧ w'.cell? ⟨w.heap.size, 1, none⟩ = some (.string s.y) ∧ w'.cell? ⟨w.heap.size, 2, none⟩ = some (.string s.z) ∧ w'.cell? ⟨bb, off + k * 3, none⟩ = some (.string t.x) ∧ w'.cell? ⟨bb, off + k * 3 + 1, none⟩ = some (.string t.y) ∧ w'.cell? ⟨bb, off + k * 3 + 2, none⟩ = some (.string t.z)) (go_keep) (fail)
        go_wp2
        go_ret
        exact ⟨_, rfl, ⟨k, rfl, by omega⟩, (by repeat (first | exact br _ | assumption | refine ba ?_ | refine bd ?_ | refine below_drewN ?_ _ | refine bs ?_ (by (try simp) <;> omega)))⟩
      · rw [decide_eq_false hst] at nq
        have E := Lib.hid (HD.out (fun e => hst e.symm))
        clear HD hst
        go_wp2
        go_region_held3 (fun w' => w'.cell? ⟨w.heap.size, 0, none⟩ = some (.string s.x) ∧ w'.cell? ⟨w.heap.size, 1, none⟩ = some (.string s.y) ∧ w'.cell? ⟨w.heap.size, 2, none⟩ = some (.string s.z) ∧ w'.cell? ⟨bb, off + k * 3, none⟩ = some (.string t.x) ∧ w'.cell? ⟨bb, off + k * 3 + 1, none⟩ = some (.string t.y) ∧ w'.cell? ⟨bb, off + k * 3 + 2, none⟩ = some (.string t.z)) (go_keep) (fail)
        go_wp2
        go_roundw
        case rel => exact ⟨k + 1, by omega, by go_num, E, (by repeat (first | exact br _ | assumption | refine ba ?_ | refine bd ?_ | refine below_drewN ?_ _ | refine bs ?_ (by (try simp) <;> omega)))⟩
        case measure => simp [intOf]; omega
    · obtain rfl : k = n := by omega
      rw [HTE.out] at hd
      exact absurd rfl (hd.out s HS.out)
set_option maxHeartbeats 1000000 in
theorem hasVec_walk (v : Value) (l : List SV) (s : SV) (w : World) (hv : Vs w v l) (hs : s ∈ l) :
    Calls Tryz.prog 44 #[v, .agg #[.string s.x, .string s.y, .string s.z]] w fun e w' => e = .returned (.bool true) ∧ Below w.heap.size w w' := by
  have H := Lib.hid (fun w hv => indexVec_walk v l s w hv hs)
  obtain ⟨A, cap, rfl, -, -, -⟩ := hv.open
  clear hs
  generalize s.x = p1 at *
  generalize s.y = p2 at *
  generalize s.z = p3 at *
  go_enter Tryz.func44, Tryz.ntmps44
  go_wp2_with fail
  refine (H.out _ (hv.below (by repeat (first | exact br _ | assumption | refine ba ?_ | refine bd ?_ | refine below_drewN ?_ _ | refine bs ?_ (by (try simp) <;> omega))))).mono ?_
  rintro e w1 ⟨_, rfl, ⟨k, rfl, hk⟩, g1⟩
  have B1 : Below w.heap.size w w1 := bn (by repeat (first | exact br _ | assumption | refine ba ?_ | refine bd ?_ | refine below_drewN ?_ _ | refine bs ?_ (by (try simp) <;> omega))) g1
  clear g1
  have hk0 : (0 : Int) ≤ (k : Int) := by omega
  go_wp2
  go_ret
  exact ⟨by simp, (by repeat (first | exact br _ | assumption | refine ba ?_ | refine bd ?_ | refine below_drewN ?_ _ | refine bs ?_ (by (try simp) <;> omega)))⟩
end Go.Proofs.YtbnbaokamccmjaaGreatDoor

/- law of chapter 12: garboardref12: Few, Same. -/
set_option linter.unusedVariables false
set_option linter.unusedSimpArgs false
namespace Go.Proofs.YtbnbaokamccmjaaGreatDoor
open Go Go.RowKit

def fewTri (t : TV) : Bool := [t.a, t.b, t.c].all isFew
def fewLen (n : Nat) : Bool := decide (n ≤ 40) || decide (n = 513)
/-- Is a solid small? -/
def fewT (l : List TV) : Bool := l.all fewTri && fewLen l.length
theorem vs_tri {w : World} {b off j : Nat} {t : TV} (h : ∀ i u, (TV.cells t)[i]? = some u → w.cell? ⟨b, off + (j * 9 + i), none⟩ = some u) : Vs w (.slice (some ⟨b, off + j * 9, none⟩) 3 3) [t.a, t.b, t.c] := by
  refine ⟨rfl, some ⟨b, off + j * 9, none⟩, 3, rfl, Nat.le_refl _, by decide, fun _ => ⟨b, off + j * 9, rfl, fun i u hu => ?_⟩⟩
  have : svs [t.a, t.b, t.c] = TV.cells t := rfl
  rw [this] at hu
  have := h i u hu
  rwa [← Nat.add_assoc] at this
set_option maxHeartbeats 1000000 in
theorem refFew_walk (v : Value) (l : List TV) (w : World) (hv : Ts w v l) :
    Calls Tryz.prog 20 #[v] w fun e w' => e = .returned (.bool (fewT l)) ∧ Below w.heap.size w w' := by
  obtain ⟨A, cap, rfl, hn, hc, hcell⟩ := hv.open
  have HCL := Lib.hid hcell
  have HTE := Lib.hid (show l.take l.length = l from List.take_length)
  obtain ⟨n, hn0⟩ : ∃ n, n = l.length := ⟨_, rfl⟩
  have HG := Lib.hid (fun k (hk : k < n) => (show ∃ s, l[k]? = some s from ⟨_, List.getElem?_eq_getElem (by rw [← hn0]; exact hk)⟩))
  have HR : Hid ((l.all fewTri = true → fewT l = fewLen n) ∧ (l.all fewTri = false → fewT l = false)) := Lib.hid ⟨fun h => by unfold fewT; rw [h, hn0]; rfl, fun h => by unfold fewT; rw [h]; rfl⟩
  rw [← hn0] at hn HCL HTE ⊢
  clear hn0 hv hcell
  go_enter Tryz.func20, Tryz.ntmps20
  go_wp2
  go_loopw [3] (fun ii wr => ∃ k : Nat, k ≤ n ∧ ii = .int .i64 k ∧ Hid ((l.take k).all fewTri = true) ∧ Below w.heap.size w wr) (fun ii _ => n - (intOf ii).toNat)
  case atStart => exact ⟨0, Nat.zero_le _, rfl, Lib.hid rfl, Below.refl _ _⟩
  case round =>
    obtain ⟨k, hk, rfl, hd, hbw⟩ := hrel
    by_cases hlt : k < n
    · obtain ⟨s, hg⟩ := HG.out k hlt
      obtain ⟨b, off, rfl, hcl⟩ := HCL.out (by omega)
      have hvt := vs_tri (w := wr) (fun i u hu => cell_below hbw (hcl k _ hg i u hu))
      have HT := Lib.hid (fun (h : fewTri s = true) => take_all hg hd.out h)
      have HF : Hid (fewTri s = false → l.all fewTri = false) := Lib.hid (fun h => List.all_eq_false.2 ⟨s, List.mem_of_getElem? hg, by rw [h]; decide⟩)
      have HK : Hid (Calls Tryz.prog 47 #[.slice (some ⟨b, off + k * 9, none⟩) 3 3] wr fun e w' => e = .returned (.bool (fewTri s)) ∧ Below wr.heap.size wr w') := Lib.hid (Few_walk _ _ wr hvt (by simp))
      have hk0 : (0 : Int) ≤ (k : Int) := by omega
      have hkn : (k : Int) < (n : Int) := by omega
      clear hg hcl hd hvt
      generalize hq : fewTri s = q at *
      cases q with
      | true =>
        have E := Lib.hid (HT.out rfl)
        clear HT HF hq
        go_wp2_with fail
        refine HK.out.mono ?_
        rintro e w1 ⟨rfl, g1⟩
        have b1 : Below w.heap.size w w1 := bn hbw g1
        clear g1
        go_wp2
        go_roundw
        case rel => exact ⟨k + 1, by omega, by go_num, E, b1⟩
        case measure => simp [intOf]; omega
      | false =>
        have E := Lib.hid (HR.out.2 (HF.out rfl))
        clear HT HF hq
        go_wp2_with fail
        refine HK.out.mono ?_
        rintro e w1 ⟨rfl, g1⟩
        have b1 : Below w.heap.size w w1 := bn hbw g1
        clear g1
        go_wp2
        go_ret
        exact ⟨by rw [E.out]; rfl, b1⟩
    · obtain rfl : k = n := by omega
      rw [HTE.out] at hd
      have E := Lib.hid (HR.out.1 hd.out)
      clear hd HR
      unfold fewLen at E
      by_cases h0 : k ≤ 40
      · have i0 : (k : Int) ≤ 40 := by omega
        rw [decide_eq_true h0] at E
        clear HG HTE HCL hk hlt h0
        go_wp2
        go_ret
        exact ⟨by rw [E.out]; rfl, hbw⟩
      · have i0 : (40 : Int) < (k : Int) := by omega
        rw [decide_eq_false h0] at E
        by_cases h1 : k = 513
        · subst h1
          clear HG HTE HCL hk hlt h0
          go_wp2
          go_ret
          exact ⟨by rw [E.out]; rfl, hbw⟩
        · have i1 : ((k : Int) == 513) = false := by simp; omega
          have z0 : Hid (decide ((k : Int) ≤ 40) = false) := Lib.hid (decide_eq_false (by omega))
          rw [decide_eq_false h1] at E
          clear HG HTE HCL hk hlt h0 h1
          go_wp2
          go_ret
          exact ⟨by rw [E.out]; show Ending.returned (Value.bool (decide ((k : Int) ≤ 40))) = _; rw [z0.out]; rfl, hbw⟩

theorem tri_same (a b c d e f g h i : ByteArray) (w : World) : (binOp .neq 43 (.agg #[.string a, .string b, .string c, .string d, .string e, .string f, .string g, .string h, .string i]) (.agg #[.string a, .string b, .string c, .string d, .string e, .string f, .string g, .string h, .string i])).run Tryz.prog w = .ok (.bool false) w := by
  go_simp
  rw [show (10000 : Nat) = 9999 + 1 from rfl, Op.equalIn]
  simp only [Sem.run_bind, run_underlying Tryz.underlying43, Result.andThen_ok]
  simp only [Std.Legacy.Range.forIn_eq_forIn_range', Std.Legacy.Range.size, Nat.sub_zero, Nat.add_sub_cancel, Nat.div_one, List.range'_succ, List.range'_zero, List.forIn_cons, List.forIn_nil]
  go_simp
set_option maxHeartbeats 2000000 in
theorem refSame_walk (v1 v2 : Value) (l : List TV) (w : World) (hv1 : Ts w v1 l) (hv2 : Ts w v2 l) :
    Calls Tryz.prog 19 #[v1, v2] w fun e w' => e = .returned (.bool true) ∧ Below w.heap.size w w' := by
  obtain ⟨A, cap, rfl, hn, hc, hcell⟩ := hv1.open
  obtain ⟨A2, cap2, rfl, hn2, hc2, hcell2⟩ := hv2.open
  have HCL := Lib.hid hcell
  have HCL2 := Lib.hid hcell2
  obtain ⟨n, hn0⟩ : ∃ n, n = l.length := ⟨_, rfl⟩
  have HG := Lib.hid (fun k (hk : k < n) => (show ∃ s, l[k]? = some s from ⟨_, List.getElem?_eq_getElem (by rw [← hn0]; exact hk)⟩))
  rw [← hn0] at hn hn2 HCL HCL2 ⊢
  clear hn0 hv1 hv2 hcell hcell2
  have nq : ∀ (a b c d e f g h i : ByteArray) w, (binOp .neq 43 (.agg #[.string a, .string b, .string c, .string d, .string e, .string f, .string g, .string h, .string i]) (.agg #[.string a, .string b, .string c, .string d, .string e, .string f, .string g, .string h, .string i])).run Tryz.prog w = .ok (.bool false) w := tri_same
  go_enter Tryz.func19, Tryz.ntmps19
  go_wp2
  go_loopw [5] (fun ii wr => ∃ k : Nat, k ≤ n ∧ ii = .int .i64 k ∧ Below w.heap.size w wr) (fun ii _ => n - (intOf ii).toNat)
  case atStart => exact ⟨0, Nat.zero_le _, rfl, Below.refl _ _⟩
  case round =>
    obtain ⟨k, hk, rfl, hbw⟩ := hrel
    by_cases hlt : k < n
    · obtain ⟨t, hg⟩ := HG.out k hlt
      obtain ⟨b, off, rfl, hcl⟩ := HCL.out (by omega)
      obtain ⟨b2, off2, rfl, hcl2⟩ := HCL2.out (by omega)
      obtain ⟨c0, c1, c2, c3, c4, c5, c6, c7, c8⟩ := ts_nine (w := wr) (fun i u hu => cell_below hbw (hcl k _ hg i u hu))
      obtain ⟨d0, d1, d2, d3, d4, d5, d6, d7, d8⟩ := ts_nine (w := wr) (fun i u hu => cell_below hbw (hcl2 k _ hg i u hu))
      have hk0 : (0 : Int) ≤ (k : Int) := by omega
      have hkn : (k : Int) < (n : Int) := by omega
      clear hg hcl hcl2
      generalize t.a.x = p0 at *
      generalize t.a.y = p1 at *
      generalize t.a.z = p2 at *
      generalize t.b.x = p3 at *
      generalize t.b.y = p4 at *
      generalize t.b.z = p5 at *
      generalize t.c.x = p6 at *
      generalize t.c.y = p7 at *
      generalize t.c.z = p8 at *
      have nr := nq p0 p1 p2 p3 p4 p5 p6 p7 p8
      clear nq
      go_wp2
      go_quiet (fail)
      go_wp2
      go_roundw
      case rel => exact ⟨k + 1, by omega, by go_num, (by repeat (first | exact br _ | assumption | refine ba ?_ | refine bd ?_ | refine below_drewN ?_ _ | refine bs ?_ (by (try simp) <;> omega)))⟩
      case measure => simp [intOf]; omega
    · obtain rfl : k = n := by omega
      go_wp2
      go_ret
      exact ⟨rfl, (by repeat (first | exact br _ | assumption | refine ba ?_ | refine bd ?_ | refine below_drewN ?_ _ | refine bs ?_ (by (try simp) <;> omega)))⟩
end Go.Proofs.YtbnbaokamccmjaaGreatDoor

/- Solids in plain Lean: closedness by counts; turned, joined, moved and mirrored solids; prisms are closed; a solid without one of its triangles is open. No program in sight. -/
set_option linter.unusedVariables false
set_option linter.unusedSimpArgs false
namespace Go.Proofs.YtbnbaokamccmjaaGreatDoor
open Go Go.RowKit

section
variable {α β : Type}
theorem Tr.turn_turn (t : Tr α) : t.turn.turn = t := by cases t; rfl
theorem edges_append (l m : List (Tr α)) : edges (l ++ m) = edges l ++ edges m := by simp [edges]
theorem tpts_append (l m : List (Tr α)) : tpts (l ++ m) = tpts l ++ tpts m := by simp [tpts]
theorem edges_one (t : Tr α) : edges [t] = t.edges := by simp [edges]
theorem mem_tpts_iff {l : List (Tr α)} {y : α} : y ∈ tpts l ↔ ∃ t ∈ l, y = t.a ∨ y = t.b ∨ y = t.c := by
  unfold tpts
  rw [List.mem_flatMap]
  constructor
  · rintro ⟨t, ht, h⟩
    simp only [Tr.pts, List.mem_cons, List.not_mem_nil, or_false] at h
    exact ⟨t, ht, h⟩
  · rintro ⟨t, ht, h⟩
    exact ⟨t, ht, by simp only [Tr.pts, List.mem_cons, List.not_mem_nil, or_false]; exact h⟩

variable [DecidableEq α] [DecidableEq β]
theorem cnt_append (es fs : List (α × α)) (x : α × α) : cnt (es ++ fs) x = cnt es x + cnt fs x := by
  unfold cnt
  rw [List.count_append, List.count_append]
  omega
/-- One edge's count. -/
def dl (x : α × α) (a b : α) : Int := cnt [(a, b)] x
theorem dl_self (x : α × α) (a : α) : dl x a a = 0 := by
  obtain ⟨p, q⟩ := x
  unfold dl cnt
  rw [List.count_singleton, List.count_singleton]
  by_cases h1 : a = p <;> by_cases h2 : a = q <;> simp [h1, h2]
theorem dl_eq (x : α × α) (a b : α) : dl x a b = (if x = (a, b) then 1 else 0) - (if x = (b, a) then 1 else 0) := by
  have := cnt_snoc [] (a, b) x
  simp only [List.nil_append, cnt_nil, Int.zero_add] at this
  exact this
theorem dl_swap (x : α × α) (a b : α) : dl x b a = - dl x a b := by
  rw [dl_eq, dl_eq]
  generalize (if x = (a, b) then (1 : Int) else 0) = p
  generalize (if x = (b, a) then (1 : Int) else 0) = q
  omega
theorem dl_one {a b : α} (h : a ≠ b) : dl (a, b) a b = 1 := by
  unfold dl cnt
  rw [List.count_singleton, List.count_singleton]
  simp [h]
theorem dl_none {x : α × α} {a b : α} (h1 : x ≠ (a, b)) (h2 : x ≠ (b, a)) : dl x a b = 0 := by
  obtain ⟨p, q⟩ := x
  unfold dl cnt
  rw [List.count_singleton, List.count_singleton]
  have e1 : ¬ (a, b) = (p, q) := fun e => h1 e.symm
  have e2 : ¬ (a, b) = (q, p) := fun e => h2 (by rw [Prod.mk.injEq] at e; rw [e.1, e.2])
  simp [e1, e2]
theorem cnt_edges_cons (t : Tr α) (l : List (Tr α)) (x : α × α) : cnt (edges (t :: l)) x = dl x t.a t.b + dl x t.b t.c + dl x t.c t.a + cnt (edges l) x := by
  have e : edges (t :: l) = [(t.a, t.b)] ++ ([(t.b, t.c)] ++ ([(t.c, t.a)] ++ edges l)) := rfl
  rw [e, cnt_append, cnt_append, cnt_append]
  unfold dl
  omega
theorem cnt_edges_append (l m : List (Tr α)) (x : α × α) : cnt (edges (l ++ m)) x = cnt (edges l) x + cnt (edges m) x := by rw [edges_append, cnt_append]
theorem cnt_edges_nil (x : α × α) : cnt (edges ([] : List (Tr α))) x = 0 := rfl
/-- CLOSED: each edge is there as often as the opposite one. -/
theorem closed_iff (l : List (Tr α)) : openT l = false ↔ ∀ x, cnt (edges l) x = 0 := by
  unfold openT openE
  constructor
  · intro h x
    rw [List.any_eq_false] at h
    by_cases h0 : cnt (edges l) x = 0
    · exact h0
    · exfalso
      obtain ⟨p, q⟩ := x
      have hne : p ≠ q := fun e => h0 (by rw [e]; exact cnt_same _ _)
      by_cases h1 : (p, q) ∈ edges l
      · refine h _ h1 ?_
        simp only [Bool.and_eq_true, decide_eq_true_eq]
        exact ⟨hne, h0⟩
      · by_cases h2 : (q, p) ∈ edges l
        · refine h _ h2 ?_
          simp only [Bool.and_eq_true, decide_eq_true_eq]
          refine ⟨fun e => hne e.symm, ?_⟩
          have := cnt_swap (edges l) (p, q)
          dsimp only at this
          omega
        · apply h0
          unfold cnt
          rw [List.count_eq_zero.2 h1, List.count_eq_zero.2 h2]
          rfl
  · intro h
    rw [List.any_eq_false]
    intro e _
    rw [h e]
    simp
theorem open_of {l : List (Tr α)} {x : α × α} (h : cnt (edges l) x ≠ 0) : openT l = true := by
  cases ho : openT l with
  | true => rfl
  | false => exact absurd ((closed_iff l).1 ho x) h
theorem cnt_turn (l : List (Tr α)) (x : α × α) : cnt (edges (l.map Tr.turn)) x = - cnt (edges l) x := by
  induction l with
  | nil => rfl
  | cons t l ih =>
    rw [List.map_cons, cnt_edges_cons, cnt_edges_cons, ih]
    show dl x t.a t.c + dl x t.c t.b + dl x t.b t.a + _ = _
    rw [dl_swap x t.c t.a, dl_swap x t.b t.c, dl_swap x t.a t.b]
    omega
theorem closed_turn {l : List (Tr α)} (h : openT l = false) : openT (l.map Tr.turn) = false := by
  rw [closed_iff] at h ⊢
  intro x
  rw [cnt_turn, h]
  rfl
theorem closed_append {l m : List (Tr α)} (h : openT l = false) (h2 : openT m = false) : openT (l ++ m) = false := by
  rw [closed_iff] at h h2 ⊢
  intro x
  rw [cnt_edges_append, h, h2]
  rfl
theorem cnt_take_drop (l : List (Tr α)) (i : Nat) (t : Tr α) (h : l[i]? = some t) (x : α × α) : cnt (edges l) x = cnt (edges (l.take i ++ l.drop (i + 1))) x + (dl x t.a t.b + dl x t.b t.c + dl x t.c t.a) := by
  have hlt := (List.getElem?_eq_some_iff.1 h).1
  have e : l = l.take i ++ ([t] ++ l.drop (i + 1)) := by
    have h1 : l.drop i = t :: l.drop (i + 1) := by
      rw [List.drop_eq_getElem_cons hlt, (List.getElem?_eq_some_iff.1 h).2]
    rw [List.singleton_append, ← h1, List.take_append_drop]
  conv => lhs; rw [e]
  rw [cnt_edges_append, cnt_edges_append, cnt_edges_append]
  have := cnt_edges_cons t [] x
  rw [cnt_edges_nil] at this
  omega
/-- Without a triangle that has three different points a closed solid is open. -/
theorem open_without {l : List (Tr α)} {i : Nat} {t : Tr α} (h : l[i]? = some t) (hc : openT l = false) (h1 : t.a ≠ t.b) (h2 : t.b ≠ t.c) (h3 : t.c ≠ t.a) : openT (l.take i ++ l.drop (i + 1)) = true := by
  refine open_of (x := (t.a, t.b)) ?_
  have := cnt_take_drop l i t h (t.a, t.b)
  rw [(closed_iff l).1 hc, dl_one h1, dl_none (x := (t.a, t.b)) (a := t.b) (b := t.c) (by simp [h1]) (by simp [h3.symm]), dl_none (x := (t.a, t.b)) (a := t.c) (b := t.a) (by simp [h3.symm]) (by simp [h2])] at this
  omega

/-! ### Prisms -/
/-- The path along f, k steps. -/
def path (x : α × α) (f : Nat → α) : Nat → Int
  | 0 => 0
  | k + 1 => path x f k + dl x (f k) (f (k + 1))
theorem fan_cnt (x : α × α) (l : List α) (f : Nat → α) (hf : ∀ i, i < l.length → l[i]? = some (f i)) : ∀ k, k + 1 < l.length → cnt (edges (fanL (l.take (k + 2)))) x = path x f (k + 1) + dl x (f (k + 1)) (f 0)
  | 0, h => by
    rw [fanL_two _ (by rw [List.length_take]; omega), cnt_edges_nil, path, path, dl_swap x (f 0) (f 1)]
    simp only [Nat.zero_add]
    omega
  | k + 1, h => by
    have ih := fan_cnt x l f hf k (by omega)
    have g : ∀ i (hi : i < l.length), l[i] = f i := fun i hi => by
      have := hf i hi
      rw [List.getElem?_eq_getElem hi] at this
      exact Option.some.inj this
    rw [fanL_take l (k + 2) (by omega) (by omega), cnt_edges_append, ih, cnt_edges_cons, cnt_edges_nil, g 0 (by omega), g (k + 2 - 1) (by omega), g (k + 2) (by omega)]
    show _ = path x f (k + 1) + dl x (f (k + 1)) (f (k + 2)) + dl x (f (k + 2)) (f 0)
    rw [show k + 2 - 1 = k + 1 from rfl, dl_swap x (f 0) (f (k + 1))]
    dsimp only
    omega
theorem fan_cnt_all (x : α × α) (l : List α) (f : Nat → α) (hf : ∀ i, i < l.length → l[i]? = some (f i)) (n : Nat) (hn : l.length = n + 2) : cnt (edges (fanL l)) x = path x f (n + 1) + dl x (f (n + 1)) (f 0) := by
  have := fan_cnt x l f hf n (by omega)
  rwa [List.take_of_length_le (by omega)] at this
theorem sides_cnt (x : α × α) (l q : List α) (f g : Nat → α) (n : Nat) (hl : l.length = n) (hq : q.length = n) (hf : ∀ i, i < n → l[i]? = some (f i)) (hg : ∀ i, i < n → q[i]? = some (g i)) :
    ∀ k, k < n → cnt (edges (sides l q n k)) x = path x f k - path x g k + (dl x (f k) (g k) - dl x (f 0) (g 0))
  | 0, _ => by
    show cnt [] x = _
    simp [cnt_nil, path]
  | k + 1, h => by
    have ih := sides_cnt x l q f g n hl hq hf hg k (by omega)
    have hm : (k + 1) % n = k + 1 := Nat.mod_eq_of_lt h
    rw [sides_step (hf k (by omega)) (by rw [hm]; exact hf (k + 1) h) (by rw [hm]; exact hg (k + 1) h) (hg k (by omega)), cnt_edges_append, ih, cnt_edges_cons, cnt_edges_cons, cnt_edges_nil]
    rw [path, path]
    dsimp only
    rw [dl_swap x (f k) (g (k + 1)), dl_swap x (g k) (g (k + 1)), dl_swap x (f k) (g k)]
    omega
theorem sides_cnt_all (x : α × α) (l q : List α) (f g : Nat → α) (n : Nat) (hl : l.length = n + 1) (hq : q.length = n + 1) (hf : ∀ i, i < n + 1 → l[i]? = some (f i)) (hg : ∀ i, i < n + 1 → q[i]? = some (g i)) :
    cnt (edges (sides l q (n + 1) (n + 1))) x = path x f n - path x g n + (dl x (f n) (f 0) - dl x (g n) (g 0)) := by
  have ih := sides_cnt x l q f g (n + 1) hl hq hf hg n (by omega)
  have hm : (n + 1) % (n + 1) = 0 := Nat.mod_self _
  rw [sides_step (hf n (by omega)) (by rw [hm]; exact hf 0 (by omega)) (by rw [hm]; exact hg 0 (by omega)) (hg n (by omega)), cnt_edges_append, ih, cnt_edges_cons, cnt_edges_cons, cnt_edges_nil]
  dsimp only
  rw [dl_swap x (f n) (g 0), dl_swap x (g n) (g 0), dl_swap x (f n) (g n)]
  omega
/-- PRISMS ARE CLOSED, whatever the polygon is. -/
theorem prism_closed (l q : List α) (h3 : 2 ≤ l.length) (hq : q.length = l.length) : openT (prismL l q) = false := by
  rw [closed_iff]
  intro x
  obtain ⟨n, hn⟩ : ∃ n, l.length = n + 2 := ⟨l.length - 2, by omega⟩
  have hnq : q.length = n + 2 := by omega
  have a0 : α := l[0]'(by omega)
  have e1 : ∃ f : Nat → α, ∀ i, i < l.length → l[i]? = some (f i) := ⟨fun i => l.getD i a0, fun i hi => by show _ = some (List.getD _ i a0); rw [List.getD_eq_getElem?_getD, List.getElem?_eq_getElem hi]; rfl⟩
  have e2 : ∃ f : Nat → α, ∀ i, i < q.length → q[i]? = some (f i) := ⟨fun i => q.getD i a0, fun i hi => by show _ = some (List.getD _ i a0); rw [List.getD_eq_getElem?_getD, List.getElem?_eq_getElem hi]; rfl⟩
  obtain ⟨f, hf⟩ := e1
  obtain ⟨g, hg⟩ := e2
  unfold prismL
  rw [cnt_edges_append, cnt_edges_append, cnt_turn, fan_cnt_all x l f hf n hn, fan_cnt_all x q g hg n hnq, hn, sides_cnt_all x l q f g (n + 1) hn hnq (by rw [hn] at hf; exact hf) (by rw [hnq] at hg; exact hg)]
  omega

/-! ### Points -/
theorem nub_same_length {l m : List α} (h : ∀ y, y ∈ l ↔ y ∈ m) : (nub l).length = (nub m).length := by
  have : (nub l).Perm (nub m) := (List.perm_ext_iff_of_nodup (nub_nodup l) (nub_nodup m)).2 fun y => by rw [mem_nub, mem_nub]; exact h y
  exact this.length_eq
theorem mem_pointsL {l : List (Tr α)} {y : α} : y ∈ pointsL l ↔ y ∈ tpts l := mem_nub _ _
omit [DecidableEq α] in
theorem mem_tpts_turn (l : List (Tr α)) (y : α) : y ∈ tpts (l.map Tr.turn) ↔ y ∈ tpts l := by
  rw [mem_tpts_iff, mem_tpts_iff]
  constructor
  · rintro ⟨t, ht, h⟩
    obtain ⟨u, hu, rfl⟩ := List.mem_map.1 ht
    exact ⟨u, hu, h.elim .inl fun h => h.elim (fun h => .inr (.inr h)) fun h => .inr (.inl h)⟩
  · rintro ⟨t, ht, h⟩
    exact ⟨t.turn, List.mem_map_of_mem ht, h.elim .inl fun h => h.elim (fun h => .inr (.inr h)) fun h => .inr (.inl h)⟩
end

/-! ### Moved and mirrored solids -/
def mirT (t : Tr V3) : Tr V3 := (t.map V3.flip).turn
def movT (d : V3) (t : Tr V3) : Tr V3 := t.map (V3.add · d)
theorem flip_flip (p : V3) : p.flip.flip = p := by
  cases p
  simp [V3.flip]
theorem flip_inj (x y : V3) (h : x.flip = y.flip) : x = y := by rw [← flip_flip x, h, flip_flip]
theorem add_back (p d : V3) : (p.add d).add (d.smul (-1)) = p := by
  obtain ⟨x, y, z⟩ := p
  simp only [V3.add, V3.smul, V3.mk.injEq]
  refine ⟨?_, ?_, ?_⟩ <;> grind
theorem add_apart (d : V3) (x y : V3) (h : x.add d = y.add d) : x = y := by rw [← add_back x d, h, add_back]
theorem mirT_mirT (t : Tr V3) : mirT (mirT t) = t := by
  obtain ⟨a, b, c⟩ := t
  show Tr.mk a.flip.flip b.flip.flip c.flip.flip = _
  rw [flip_flip, flip_flip, flip_flip]
theorem movT_back (d : V3) (t : Tr V3) : movT (d.smul (-1)) (movT d t) = t := by
  obtain ⟨a, b, c⟩ := t
  show Tr.mk ((a.add d).add (d.smul (-1))) ((b.add d).add (d.smul (-1))) ((c.add d).add (d.smul (-1))) = _
  rw [add_back, add_back, add_back]
theorem map_back {α : Type} {f g : α → α} (h : ∀ x, g (f x) = x) (l : List α) : (l.map f).map g = l := by
  rw [List.map_map]
  conv => rhs; rw [← List.map_id l]
  exact List.map_congr_left fun x _ => h x
theorem mir_eq (L : List (Tr V3)) : L.map mirT = (L.map (Tr.map V3.flip)).map Tr.turn := by rw [List.map_map]; rfl
theorem mir_closed {L : List (Tr V3)} (h : openT L = false) : openT (L.map mirT) = false := by
  rw [mir_eq]
  exact closed_turn (by rw [openT_map flip_inj]; exact h)
theorem mov_closed {L : List (Tr V3)} (d : V3) (h : openT L = false) : openT (L.map (movT d)) = false := by
  show openT (L.map (Tr.map (V3.add · d))) = false
  rw [openT_map (add_apart d)]
  exact h
theorem mir_points (L : List (Tr V3)) : (pointsL (L.map mirT)).length = (pointsL L).length := by
  rw [mir_eq]
  have h1 : (pointsL ((L.map (Tr.map V3.flip)).map Tr.turn)).length = (pointsL (L.map (Tr.map V3.flip))).length := nub_same_length fun y => mem_tpts_turn _ y
  rw [h1, pointsL_map flip_inj, List.length_map]
theorem mov_shells (d : V3) (L : List (Tr V3)) : shellsL (L.map (movT d)) = shellsL L := shellsL_map (f := (V3.add · d)) (add_apart d) L
theorem convex_like (F : V3 → V3) (G : Tr V3 → Tr V3) (L : List (Tr V3)) (hN : ∀ t, (thrN (G t).a (G t).b (G t).c = V3.zero) ↔ (thrN t.a t.b t.c = V3.zero))
    (hH : ∀ (t : Tr V3) p, (thrP (G t).a (G t).b (G t).c).height (F p) = (thrP t.a t.b t.c).height p) (hP : ∀ y, y ∈ pointsL (L.map G) ↔ ∃ p ∈ pointsL L, F p = y) : convexL (L.map G) = convexL L := by
  unfold convexL
  rw [Bool.eq_iff_iff, List.all_eq_true, List.all_eq_true]
  constructor
  · intro h t ht
    have := h _ (List.mem_map_of_mem ht)
    simp only [Bool.or_eq_true, decide_eq_true_eq, List.all_eq_true] at this ⊢
    rcases this with h1 | h1
    · exact .inl ((hN t).1 h1)
    · refine .inr fun p hp => ?_
      rw [← hH t p]
      exact h1 _ ((hP _).2 ⟨p, hp, rfl⟩)
  · intro h t ht
    obtain ⟨u, hu, rfl⟩ := List.mem_map.1 ht
    have := h u hu
    simp only [Bool.or_eq_true, decide_eq_true_eq, List.all_eq_true] at this ⊢
    rcases this with h1 | h1
    · exact .inl ((hN u).2 h1)
    · refine .inr fun p hp => ?_
      obtain ⟨p', hp', rfl⟩ := (hP _).1 hp
      rw [hH]
      exact h1 p' hp'
theorem mov_convex (d : V3) (L : List (Tr V3)) : convexL (L.map (movT d)) = convexL L := by
  have hn : ∀ t : Tr V3, thrN (movT d t).a (movT d t).b (movT d t).c = thrN t.a t.b t.c := by
    rintro ⟨⟨a1, a2, a3⟩, ⟨b1, b2, b3⟩, ⟨c1, c2, c3⟩⟩
    simp only [movT, Tr.map, thrN, V3.sub, V3.add, V3.cross, V3.mk.injEq]
    refine ⟨?_, ?_, ?_⟩ <;> grind
  refine convex_like (V3.add · d) (movT d) L (fun t => by rw [hn]) (fun t p => ?_) (fun y => ?_)
  · have h1 := hn t
    obtain ⟨⟨a1, a2, a3⟩, ⟨b1, b2, b3⟩, ⟨c1, c2, c3⟩⟩ := t
    unfold thrP
    rw [h1]
    generalize thrN _ _ _ = m
    simp only [movT, Tr.map, Pl.height, V3.dot, V3.add]
    grind
  · rw [show L.map (movT d) = L.map (Tr.map (V3.add · d)) from rfl, pointsL_map (f := (V3.add · d)) (add_apart d), List.mem_map]
theorem mir_convex (L : List (Tr V3)) : convexL (L.map mirT) = convexL L := by
  have hn : ∀ t : Tr V3, thrN (mirT t).a (mirT t).b (mirT t).c = (thrN t.a t.b t.c).flip := by
    rintro ⟨⟨a1, a2, a3⟩, ⟨b1, b2, b3⟩, ⟨c1, c2, c3⟩⟩
    simp only [mirT, Tr.map, Tr.turn, thrN, V3.sub, V3.flip, V3.cross, V3.mk.injEq]
    refine ⟨?_, ?_, ?_⟩ <;> grind
  refine convex_like V3.flip mirT L (fun t => ?_) (fun t p => ?_) (fun y => ?_)
  · rw [hn]
    constructor
    · intro h
      rw [← flip_flip (thrN t.a t.b t.c), h]
      simp [V3.flip, V3.zero]
    · intro h
      rw [h]
      simp [V3.flip, V3.zero]
  · have h1 := hn t
    obtain ⟨⟨a1, a2, a3⟩, ⟨b1, b2, b3⟩, ⟨c1, c2, c3⟩⟩ := t
    unfold thrP
    rw [h1]
    generalize thrN _ _ _ = m
    simp only [mirT, Tr.map, Tr.turn, Pl.height, V3.dot, V3.flip]
    grind
  · rw [mem_pointsL, mir_eq, mem_tpts_turn, tpts_map, List.mem_map]
    constructor
    · rintro ⟨p, hp, e⟩
      exact ⟨p, mem_pointsL.2 hp, e⟩
    · rintro ⟨p, hp, e⟩
      exact ⟨p, mem_pointsL.1 hp, e⟩
theorem flip_le {p : V3} {k : Nat} (h : p.le k) : p.flip.le (k + 2) := by
  refine ⟨Nat.le_trans h.1 (by omega), ?_, Nat.le_trans h.2.2 (by omega)⟩
  show rz (-p.y) ≤ _
  rw [show -p.y = 0 - p.y by grind]
  exact rz_sub_le (Nat.le_of_eq rz_zero) h.2.1 (by omega)
def leT (L : List (Tr V3)) (k : Nat) : Prop := ∀ t ∈ L, t.a.le k ∧ t.b.le k ∧ t.c.le k
theorem mir_le {L : List (Tr V3)} {k : Nat} (h : leT L k) : leT (L.map mirT) (k + 2) := by
  intro t ht
  obtain ⟨u, hu, rfl⟩ := List.mem_map.1 ht
  obtain ⟨h1, h2, h3⟩ := h u hu
  exact ⟨flip_le h1, flip_le h3, flip_le h2⟩
theorem turn_le {L : List (Tr V3)} {k : Nat} (h : leT L k) : leT (L.map Tr.turn) k := by
  intro t ht
  obtain ⟨u, hu, rfl⟩ := List.mem_map.1 ht
  obtain ⟨h1, h2, h3⟩ := h u hu
  exact ⟨h1, h3, h2⟩
theorem mov_le {L : List (Tr V3)} {d : V3} {k m n : Nat} (h : leT L k) (hd : d.le m) (hn : k + m + 1 ≤ n) : leT (L.map (movT d)) n := by
  intro t ht
  obtain ⟨u, hu, rfl⟩ := List.mem_map.1 ht
  obtain ⟨h1, h2, h3⟩ := h u hu
  exact ⟨V3.le_add h1 hd hn, V3.le_add h2 hd hn, V3.le_add h3 hd hn⟩
end Go.Proofs.YtbnbaokamccmjaaGreatDoor

/- law of chapter 12: a solid and a row of vectors that came in, opened. -/
set_option linter.unusedVariables false
set_option linter.unusedSimpArgs false
set_option maxRecDepth 100000
namespace Go.Proofs.YtbnbaokamccmjaaGreatDoor
open Go Go.ChangeShapes Go.WideShapes Go.RowKit Go.Deep

section
variable {H : Type} {enc : TypeId × Value → H} {w : World} {base : Nat} {sp : Nat → Bool} {held : Bool} {fuel : Nat} {cs : List Value} {x : DataW H × List MemPlace}
theorem cells_vec : Tryz.prog.cellsOf 25 = 3 := by kernel_rfl
theorem cells_tri : Tryz.prog.cellsOf 43 = 9 := by kernel_rfl
theorem open_three {P : Program} {t : TypeId} {f0 f1 f2 : Field} (hs : P.underlying t = some (.struct #[f0, f1, f2])) (hone : oneCellFields P #[f0, f1, f2] = true) (hC : P.cellsOf t = 3) (h : DataW.trod enc P w base sp held fuel t cs = some x) :
    ∃ (v0 v1 v2 : Value) (y0 y1 y2 : DataW H × List MemPlace) (n : Nat), cs = [v0, v1, v2] ∧ DataW.trod enc P w base sp held n f0.type [v0] = some y0 ∧ DataW.trod enc P w base sp held n f1.type [v1] = some y1 ∧ DataW.trod enc P w base sp held n f2.type [v2] = some y2 := by
  obtain ⟨xs, n, _, _, hlen, hl, hg⟩ := DataW.trod_struct hs h
  rw [hC] at hlen
  obtain ⟨o0, k0⟩ := hone_of hone 0 f0 rfl
  obtain ⟨o1, k1⟩ := hone_of hone 1 f1 rfl
  obtain ⟨o2, k2⟩ := hone_of hone 2 f2 rfl
  match cs, hlen, xs, hl with
  | [v0, v1, v2], _, [y0, y1, y2], _ =>
    exact ⟨v0, v1, v2, y0, y1, y2, n, rfl, by simpa [o0, k0] using hg 0 f0 rfl, by simpa [o1, k1] using hg 1 f1 rfl, by simpa [o2, k2] using hg 2 f2 rfl⟩
theorem open_vec (h : DataW.trod enc Tryz.prog w base sp held fuel 25 cs = some x) : ∃ s : SV, cs = s.cells := by
  obtain ⟨v0, v1, v2, y0, y1, y2, n, rfl, h0, h1, h2⟩ := open_three Tryz.underlying25 (by kernel_rfl) (by kernel_rfl) h
  obtain ⟨s0, e0, _⟩ := DataW.trod_string Tryz.underlying23 h0
  obtain ⟨s1, e1, _⟩ := DataW.trod_string Tryz.underlying23 h1
  obtain ⟨s2, e2, _⟩ := DataW.trod_string Tryz.underlying23 h2
  simp at e0 e1 e2
  subst e0 e1 e2
  exact ⟨⟨s0, s1, s2⟩, rfl⟩
theorem open_tri (h : DataW.trod enc Tryz.prog w base sp held fuel 43 cs = some x) : ∃ t : TV, cs = t.cells := by
  obtain ⟨xs, n, _, _, hlen, hl, hf⟩ := DataW.trod_array Tryz.underlying43 h
  rw [cells_tri] at hlen
  have one : ∀ i, i < 3 → ∃ s : SV, (cs.drop (i * 3)).take 3 = s.cells := by
    intro i hi
    have h1 := hf i hi
    rw [cells_vec, List.getElem?_eq_getElem (by rw [hl]; exact hi)] at h1
    exact open_vec h1
  obtain ⟨a, ha⟩ := one 0 (by omega)
  obtain ⟨b, hb⟩ := one 1 (by omega)
  obtain ⟨c, hc⟩ := one 2 (by omega)
  refine ⟨⟨a, b, c⟩, ?_⟩
  have e : cs = (cs.drop (0 * 3)).take 3 ++ (cs.drop (1 * 3)).take 3 ++ (cs.drop (2 * 3)).take 3 := by
    match cs, hlen with
    | [_, _, _, _, _, _, _, _, _], _ => rfl
  rw [e, ha, hb, hc]
  rfl
end

theorem flat_get {α : Type} (k : Nat) (F : α → List Value) (hk : ∀ x, (F x).length = k) : ∀ (l : List α) (i : Nat) (u : Value), (l.flatMap F)[i]? = some u → 0 < k → ∃ j r x, i = j * k + r ∧ r < k ∧ l[j]? = some x ∧ (F x)[r]? = some u
  | [], i, u, h, _ => by simp at h
  | a :: l, i, u, h, h0 => by
    rw [List.flatMap_cons] at h
    by_cases hi : i < k
    · rw [List.getElem?_append_left (by rw [hk]; exact hi)] at h
      exact ⟨0, i, a, by omega, hi, rfl, h⟩
    · rw [List.getElem?_append_right (by rw [hk]; omega), hk] at h
      obtain ⟨j, r, x, h1, h2, h3, h4⟩ := flat_get k F hk l (i - k) u h h0
      exact ⟨j + 1, r, x, by rw [Nat.add_mul, Nat.one_mul]; omega, h2, by simpa using h3, h4⟩

section
variable {H : Type} {enc : TypeId × Value → H} {W : World} {v : Value} {d : DataW H} {p : List MemPlace}
/-- A SOLID THAT CAME IN. -/
theorem open_solid {r : Reach} {b0 : Nat} (hval : Value.okWide Tryz.prog W r b0 33 v) (h : DataW.Trod enc Tryz.prog W 0 (fun _ => true) true 33 v d p) : ∃ l : List TV, Ts W v l := by
  obtain ⟨fuel, hf⟩ := h
  obtain ⟨a0, n0, c0, rfl⟩ := okWide_slice Tryz.underlying33 hval
  rcases open_slice Tryz.underlying33 hf with ⟨h0, _⟩ | ⟨a, len, cap, m, n, D, Pl, hcs, hb, hl, hm, hmm, hx, hi⟩
  · simp [Value.cells] at h0
    obtain ⟨rfl, rfl, rfl⟩ := h0
    exact ⟨[], Ts.nil W⟩
  · simp [Value.cells] at hcs
    obtain ⟨rfl, rfl, rfl⟩ := hcs
    have hmc : n0 ≤ m := by rw [hmm]; simp; exact hl
    have each : ∀ i, i < n0 → ∃ t : TV, ∀ j u, (TV.cells t)[j]? = some u → W.cell? (a.add (i * 9 + j)) = some u := fun i hin => by
      obtain ⟨cs', h1, h2⟩ := hi i (by omega)
      obtain ⟨t, ht⟩ := open_tri h2
      rw [cells_tri] at h1
      obtain ⟨_, hlen, hc⟩ := World.cells?_some h1
      refine ⟨t, fun j u hu => ?_⟩
      have hj : j < 9 := (List.getElem?_eq_some_iff.1 hu).1
      have := hc j hj
      rw [Go.Deep.add_add, ht, hu] at this
      exact this
    have inh : Inhabited TV := ⟨⟨⟨⟨#[]⟩, ⟨#[]⟩, ⟨#[]⟩⟩, ⟨⟨#[]⟩, ⟨#[]⟩, ⟨#[]⟩⟩, ⟨⟨#[]⟩, ⟨#[]⟩, ⟨#[]⟩⟩⟩⟩
    obtain ⟨F, hF⟩ := choose_lt each
    refine ⟨(List.range n0).map F, ?_⟩
    have hlen : ((List.range n0).map F).length = n0 := by simp
    refine ⟨by rw [tcs_length], some a, c0, by rw [hlen], by rw [hlen]; exact hl, hm, fun h0 => ?_⟩
    rw [hlen] at h0
    have hsp : a.spot = none := by
      have := hF 0 h0 0 _ rfl
      have := World.cell?_spot this
      simpa [Addr.add] using this
    obtain ⟨b, off, spot⟩ := a
    simp at hsp
    subst hsp
    refine ⟨b, off, rfl, fun i u hu => ?_⟩
    obtain ⟨j, r, t, rfl, hr, hj, hu2⟩ := flat_get 9 TV.cells (fun _ => rfl) _ i u hu (by omega)
    have hj2 : j < n0 := by
      have := (List.getElem?_eq_some_iff.1 hj).1
      simpa using this
    have e : t = F j := by
      have := (List.getElem?_eq_some_iff.1 hj).2
      simpa using this.symm
    subst e
    have := hF j hj2 r u hu2
    rw [add_plain] at this
    exact this
/-- A ROW OF VECTORS THAT CAME IN. -/
theorem open_vecs {r : Reach} {b0 : Nat} (hval : Value.okWide Tryz.prog W r b0 22 v) (h : DataW.Trod enc Tryz.prog W 0 (fun _ => true) true 22 v d p) : ∃ l : List SV, Vs W v l := by
  obtain ⟨fuel, hf⟩ := h
  obtain ⟨a0, n0, c0, rfl⟩ := okWide_slice Tryz.underlying22 hval
  rcases open_slice Tryz.underlying22 hf with ⟨h0, _⟩ | ⟨a, len, cap, m, n, D, Pl, hcs, hb, hl, hm, hmm, hx, hi⟩
  · simp [Value.cells] at h0
    obtain ⟨rfl, rfl, rfl⟩ := h0
    exact ⟨[], Vs.nil W⟩
  · simp [Value.cells] at hcs
    obtain ⟨rfl, rfl, rfl⟩ := hcs
    have hmc : n0 ≤ m := by rw [hmm]; simp; exact hl
    have each : ∀ i, i < n0 → ∃ t : SV, ∀ j u, (SV.cells t)[j]? = some u → W.cell? (a.add (i * 3 + j)) = some u := fun i hin => by
      obtain ⟨cs', h1, h2⟩ := hi i (by omega)
      obtain ⟨t, ht⟩ := open_vec h2
      rw [cells_vec] at h1
      obtain ⟨_, hlen, hc⟩ := World.cells?_some h1
      refine ⟨t, fun j u hu => ?_⟩
      have hj : j < 3 := (List.getElem?_eq_some_iff.1 hu).1
      have := hc j hj
      rw [Go.Deep.add_add, ht, hu] at this
      exact this
    have inh : Inhabited SV := ⟨⟨⟨#[]⟩, ⟨#[]⟩, ⟨#[]⟩⟩⟩
    obtain ⟨F, hF⟩ := choose_lt each
    refine ⟨(List.range n0).map F, ?_⟩
    have hlen : ((List.range n0).map F).length = n0 := by simp
    refine ⟨by rw [svs_length], some a, c0, by rw [hlen], by rw [hlen]; exact hl, hm, fun h0 => ?_⟩
    rw [hlen] at h0
    have hsp : a.spot = none := by
      have := hF 0 h0 0 _ rfl
      have := World.cell?_spot this
      simpa [Addr.add] using this
    obtain ⟨b, off, spot⟩ := a
    simp at hsp
    subst hsp
    refine ⟨b, off, rfl, fun i u hu => ?_⟩
    obtain ⟨j, r, t, rfl, hr, hj, hu2⟩ := flat_get 3 SV.cells (fun _ => rfl) _ i u hu (by omega)
    have hj2 : j < n0 := by
      have := (List.getElem?_eq_some_iff.1 hj).1
      simpa using this
    have e : t = F j := by
      have := (List.getElem?_eq_some_iff.1 hj).2
      simpa using this.symm
    subst e
    have := hF j hj2 r u hu2
    rw [add_plain] at this
    exact this
end
end Go.Proofs.YtbnbaokamccmjaaGreatDoor

/- law of chapter 12: words that all rows share: small solids, the listed variables, one world that fits. -/
set_option linter.unusedVariables false
set_option linter.unusedSimpArgs false
namespace Go.Proofs.YtbnbaokamccmjaaGreatDoor
open Go Go.ChangeShapes Go.WideShapes Go.ChangeAt Go.RowKit Go.Joins
open Go.ChangeMaps (open_string shut_string)

theorem rz_few {x : Rat} (h : (rtx x).size ≤ 20) : rz x ≤ 20 := Nat.le_trans (rz_le_size x) h
theorem few_le {A : V3} (h : isFew (txv A) = true) : A.le 20 := by
  simp only [isFew, Bool.and_eq_true, decide_eq_true_eq] at h
  exact ⟨rz_few h.1.1, rz_few h.1.2, rz_few h.2⟩
theorem few_sv {s : SV} (h : isFew s = true) : s.le 40000000 := by
  simp only [isFew, Bool.and_eq_true, decide_eq_true_eq] at h
  exact ⟨Nat.le_trans h.1.1 (by omega), Nat.le_trans h.1.2 (by omega), Nat.le_trans h.2 (by omega)⟩

/-! ### Small and valid solids -/
theorem few_tri {l : List TV} (h : fewT l = true) : ∀ t ∈ l, isFew t.a = true ∧ isFew t.b = true ∧ isFew t.c = true := by
  unfold fewT at h
  rw [Bool.and_eq_true, List.all_eq_true] at h
  intro t ht
  have := h.1 t ht
  simp only [fewTri, List.all_cons, List.all_nil, Bool.and_true, Bool.and_eq_true] at this
  exact this
theorem few_len {l : List TV} (h : fewT l = true) : l.length ≤ 513 := by
  unfold fewT fewLen at h
  simp only [Bool.and_eq_true, Bool.or_eq_true, decide_eq_true_eq] at h
  omega
theorem few_tle {l : List TV} (h : fewT l = true) : tle l 40000000 := fun t ht => ⟨few_sv (few_tri h t ht).1, few_sv (few_tri h t ht).2.1, few_sv (few_tri h t ht).2.2⟩
theorem solid_of : ∀ {l : List TV}, l.all tvalid = true → ∃ L : List (Tr V3), l = L.map txt
  | [], _ => ⟨[], rfl⟩
  | t :: l, h => by
    rw [List.all_cons, Bool.and_eq_true] at h
    obtain ⟨L, rfl⟩ := solid_of h.2
    have h1 := h.1
    unfold tvalid at h1
    simp only [Bool.and_eq_true] at h1
    obtain ⟨A, hA⟩ := isVec_iff.1 h1.1.1
    obtain ⟨B, hB⟩ := isVec_iff.1 h1.1.2
    obtain ⟨C, hC⟩ := isVec_iff.1 h1.2
    refine ⟨⟨A, B, C⟩ :: L, ?_⟩
    obtain ⟨ta, tb, tc⟩ := t
    simp only at hA hB hC
    subst hA hB hC
    rfl
theorem few_leT {L : List (Tr V3)} (h : fewT (L.map txt) = true) : leT L 20 := by
  intro t ht
  obtain ⟨h1, h2, h3⟩ := few_tri h (txt t) (List.mem_map_of_mem ht)
  exact ⟨few_le h1, few_le h2, few_le h3⟩
theorem turn_txt (L : List (Tr V3)) : (L.map txt).map Tr.turn = (L.map Tr.turn).map txt := by
  rw [List.map_map, List.map_map]
  rfl
/-- Results as slices whose length is known. -/
theorem to_sl {P : Program} {f : FuncId} {args : Array Value} {w : World} {l : List TV} {n : Nat} (hn : l.length = n) (h : Calls P f args w (Ret fun r w' => (∃ u, r = .tuple #[u, .int .i64 0] ∧ Ts w' u l) ∧ Below w.heap.size w w')) :
    Calls P f args w (Ret fun r w' => (∃ A c, r = .tuple #[.slice A n c, .int .i64 0] ∧ Ts w' (.slice A n c) l) ∧ Below w.heap.size w w') := by
  refine h.mono ?_
  rintro e w' ⟨r, he, ⟨u, hr, hu⟩, hg⟩
  obtain ⟨A, c, hA, _⟩ := hu.open
  subst hA
  rw [hn] at hu hr
  exact ⟨r, he, ⟨A, c, hr, hu⟩, hg⟩
theorem to_vs {P : Program} {f : FuncId} {args : Array Value} {w : World} {l : List SV} {n : Nat} (hn : l.length = n) (h : Calls P f args w (Ret fun r w' => (∃ u, r = .tuple #[u, .int .i64 0] ∧ Vs w' u l) ∧ Below w.heap.size w w')) :
    Calls P f args w (Ret fun r w' => (∃ A c, r = .tuple #[.slice A n c, .int .i64 0]) ∧ Below w.heap.size w w') := by
  refine h.mono ?_
  rintro e w' ⟨r, he, ⟨u, hr, hu⟩, hg⟩
  obtain ⟨A, c, hA, _⟩ := hu.open
  subst hA
  rw [hn] at hr
  exact ⟨r, he, ⟨A, c, hr⟩, hg⟩
theorem clone_sl (v : Value) (l : List TV) (n : Nat) (hn : l.length = n) (hm : n ≤ 1000000) (w : World) (hv : Ts w v l) :
    Calls Tryz.prog 22 #[v] w (Ret fun r w' => (∃ A c, r = .slice A n c ∧ Ts w' (.slice A n c) l) ∧ Below w.heap.size w w') := by
  refine (cloneS_walk v l w hv (by omega)).mono ?_
  rintro e w' ⟨r, he, hu, hg⟩
  have hu2 : Ts w' r l := Ts.own hu
  obtain ⟨A, c, hA, _⟩ := hu2.open
  subst hA
  rw [hn] at hu2 he
  exact ⟨_, he, ⟨A, c, rfl, hu2⟩, hg⟩

/-! ### The row -/
theorem own : ownKnob Tryz.prog.godebug = none := by kernel_rfl
theorem gPow : Tryz.prog.globalNamed "internal/strconv.uint64pow10" = some 3 := by kernel_rfl
/-- The listed variables' cells, as data. -/
def laidVals (d : DataW Unit) : Array Value := match d with
  | .agg ds => (ds.map fun x => match x with | .lit (.int k z) => Value.int k z | _ => Value.bool false).toArray
  | _ => #[]
/-- The listed variables. -/
abbrev laidList := Rows.meshBoxesRow.laid
/-- What the row's list gives: the table of the powers of ten. -/
theorem tab_of {W : World} (h : laidMetH Tryz.prog laidList W) : Lib.TabIs Tryz.prog W "internal/strconv.uint64pow10" .u64 Lib.pow10Tab := by
  have h2 : laidMet Tryz.prog laidList W := h
  obtain ⟨ps, ⟨_, _, _, _, _, _, _, _, _, _, ⟨_, _, _, _, _, _, _, _, _, _, h3, _⟩, _⟩, _, _⟩ := h2
  obtain ⟨g', t', cs, fuel, p, q, hg', ht', hvar, hd, _, _⟩ := h3
  obtain rfl := Option.some.inj (gPow.symm.trans hg')
  have hty : (Tryz.prog.globals[3]?).map (·.type) = some 293 := by kernel_rfl
  obtain rfl := Option.some.inj (hty.symm.trans ht')
  unfold Lib.TabIs
  have hd2 : DataW.trod (fun _ => ()) Tryz.prog W 0 (fun _ => true) false fuel 293 cs.toList = some (Lib.tabData .u64 Lib.pow10Tab, p) := hd
  rw [hvar, ← Lib.cells_of_tab (n := 20) Tryz.underlying293 Tryz.underlying204 (by kernel_rfl) (by kernel_rfl) hd2]
theorem bw_of {W : World} (h : laidMetH Tryz.prog laidList W) (hs : W.ShapedOpen Tryz.prog) : Bw W :=
  ⟨tab_of h, cell_of_shapedOpen_int (zero := #[.int .i64 0]) (t := 3) hs (of_decide_eq_true (by kernel_rfl)) (by kernel_rfl) rfl (by kernel_rfl) (by kernel_rfl) Tryz.underlying3⟩

theorem bytes_eta (s : ByteArray) : (⟨s.data.toList.toArray⟩ : ByteArray) = s := by cases s; simp
/-- A vector's reading. -/
theorem vec_reads {H : Type} {enc : TypeId × Value → H} (W' : World) (b : Nat) (sp : Nat → Bool) (hd : Bool) (x y z : ByteArray) (hx : x.size ≤ maxLen) (hy : y.size ≤ maxLen) (hz : z.size ≤ maxLen) :
    DataW.Trod enc Tryz.prog W' b sp hd 25 (.agg #[.string x, .string y, .string z]) (.agg [.lit (.string x.data.toList), .lit (.string y.data.toList), .lit (.string z.data.toList)]) [] := by
  simpa using shut_agg3 (enc := enc) (w := W') (base := b) (spare := sp) (held := hd) (y0 := (.lit (.string x.data.toList), [])) (y1 := (.lit (.string y.data.toList), [])) (y2 := (.lit (.string z.data.toList), [])) Tryz.underlying25 (by kernel_rfl) (by kernel_rfl)
    ⟨1, by simp [DataW.trod, Value.cells, Tryz.underlying23, hx]⟩ ⟨1, by simp [DataW.trod, Value.cells, Tryz.underlying23, hy]⟩ ⟨1, by simp [DataW.trod, Value.cells, Tryz.underlying23, hz]⟩

/-! ### One input that fits -/
def putCells (cs : Array Value) : Obj → Obj
  | .cells _ t fr => .cells cs t fr
  | o => o
noncomputable def wlow : Nat := (World.holding Tryz.prog default ⟨#[], #[], []⟩).heap.size
abbrev rangeS : ByteArray := { data := #[118, 97, 108, 117, 101, 32, 111, 117, 116, 32, 111, 102, 32, 114, 97, 110, 103, 101] }
abbrev syntaxS : ByteArray := { data := #[105, 110, 118, 97, 108, 105, 100, 32, 115, 121, 110, 116, 97, 120] }
noncomputable def laidWorld (os : Os) : World :=
  let w0 := World.holding Tryz.prog os ⟨#[.cells #[.string rangeS] 299, .cells #[.string syntaxS] 299], #[], []⟩
  { w0 with heap := ((((w0.heap.modify 4 (putCells (laidVals Rows.laid_math_bits_deBruijn32tab))).modify 5 (putCells (laidVals Rows.laid_math_bits_deBruijn64tab))).modify 3 (putCells (laidVals Rows.laid_internal_strconv_uint64pow10))).modify 2 (putCells #[.iface 297 (.pointer (some ⟨wlow, 0, none⟩))])).modify 1 (putCells #[.iface 297 (.pointer (some ⟨wlow + 1, 0, none⟩))]) }
def noVec : Value := .agg #[.string ⟨#[]⟩, .string ⟨#[]⟩, .string ⟨#[]⟩]

theorem laidOut : laidOutB Tryz.prog = true := by kernel_rfl
def noSol : Value := .slice none 0 0
end Go.Proofs.YtbnbaokamccmjaaGreatDoor

/- Solids in plain Lean: neither the order of the triangles nor which point of a triangle is the first one matters for closedness, convexity and shells. No program in sight. -/
set_option linter.unusedVariables false
set_option linter.unusedSimpArgs false
namespace Go.Proofs.YtbnbaokamccmjaaGreatDoor
open Go Go.RowKit

section
variable {α : Type}
def Tr.rot (t : Tr α) : Tr α := ⟨t.b, t.c, t.a⟩
variable [DecidableEq α]

theorem nodup_le : ∀ (A B : List α), A.Nodup → (∀ x ∈ A, x ∈ B) → A.length ≤ B.length
  | [], _, _, _ => Nat.zero_le _
  | a :: A, B, h, hs => by
    rw [List.nodup_cons] at h
    have hb : a ∈ B := hs a (by simp)
    have ih := nodup_le A (B.erase a) h.2 (fun x hx => by
      have hne : x ≠ a := fun e => h.1 (e ▸ hx)
      exact (List.mem_erase_of_ne hne).2 (hs x (by simp [hx])))
    rw [List.length_erase_of_mem hb] at ih
    have : 0 < B.length := List.length_pos_of_mem hb
    simp only [List.length_cons]
    omega

/-! ### What the roots say -/
structure RI (R : List (α × α)) : Prop where
  nodup : (R.map (·.1)).Nodup
  root : ∀ x ∈ R.map (·.1), rootOf R x ∈ R.map (·.1) ∧ rootOf R (rootOf R x) = rootOf R x
theorem rootOf_not {R : List (α × α)} {x : α} (h : x ∉ R.map (·.1)) : rootOf R x = x := by
  unfold rootOf
  rw [(kget_none_iff R x).2 h]
  rfl
theorem RI.twice {R : List (α × α)} (h : RI R) (x : α) : rootOf R (rootOf R x) = rootOf R x := by
  by_cases hx : x ∈ R.map (·.1)
  · exact (h.root x hx).2
  · rw [rootOf_not hx, rootOf_not hx]
theorem mem_touch_iff {R : List (α × α)} {x z : α} : z ∈ (touch R x).map (·.1) ↔ z ∈ R.map (·.1) ∨ z = x := by
  by_cases h : x ∈ R.map (·.1)
  · rw [touch_of_mem h]
    exact ⟨.inl, fun h2 => h2.elim id fun e => e ▸ h⟩
  · rw [touch_of_not h, List.map_append, List.mem_append]
    simp
theorem RI.touch {R : List (α × α)} (h : RI R) (x : α) : RI (touch R x) := by
  by_cases hx : x ∈ R.map (·.1)
  · rw [touch_of_mem hx]; exact h
  · refine ⟨?_, fun z hz => ?_⟩
    · rw [touch_of_not hx, List.map_append, List.nodup_append]
      refine ⟨h.nodup, by simp, fun a ha b hb => ?_⟩
      simp at hb
      subst hb
      exact fun e => hx (e ▸ ha)
    · rw [rootOf_touch, rootOf_touch]
      refine ⟨mem_touch_iff.2 ?_, h.twice z⟩
      rcases mem_touch_iff.1 hz with h1 | h1
      · exact .inl (h.root z h1).1
      · rw [h1, rootOf_not hx]
        exact .inr rfl
theorem RI.reach {R : List (α × α)} (h : RI R) (x y : α) : rootOf R x ∈ (_root_.Go.Proofs.YtbnbaokamccmjaaGreatDoor.touch (_root_.Go.Proofs.YtbnbaokamccmjaaGreatDoor.touch R x) y).map (·.1) ∧ rootOf R y ∈ (_root_.Go.Proofs.YtbnbaokamccmjaaGreatDoor.touch (_root_.Go.Proofs.YtbnbaokamccmjaaGreatDoor.touch R x) y).map (·.1) := by
  have key : ∀ z, (z = x ∨ z = y) → rootOf R z ∈ (_root_.Go.Proofs.YtbnbaokamccmjaaGreatDoor.touch (_root_.Go.Proofs.YtbnbaokamccmjaaGreatDoor.touch R x) y).map (·.1) := fun z hz => by
    rw [mem_touch_iff, mem_touch_iff]
    by_cases h1 : z ∈ R.map (·.1)
    · exact .inl (.inl (h.root z h1).1)
    · rw [rootOf_not h1]
      rcases hz with rfl | rfl
      · exact .inl (.inr rfl)
      · exact .inr rfl
  exact ⟨key x (.inl rfl), key y (.inr rfl)⟩
theorem unite_keys (R : List (α × α)) (x y : α) : (unite R x y).map (·.1) = (touch (touch R x) y).map (·.1) := by
  unfold unite
  rw [graft_keys]
theorem mem_unite {R : List (α × α)} {x y z : α} : z ∈ (unite R x y).map (·.1) ↔ z ∈ R.map (·.1) ∨ z = x ∨ z = y := by
  rw [unite_keys, mem_touch_iff, mem_touch_iff, or_assoc]
theorem rootOf_unite {R : List (α × α)} (h : RI R) (x y z : α) : rootOf (unite R x y) z = if rootOf R z = rootOf R x then rootOf R y else rootOf R z := by
  by_cases hz : z ∈ (touch (touch R x) y).map (·.1)
  · unfold unite
    rw [rootOf_graft hz, rootOf_touch, rootOf_touch, rootOf_touch, rootOf_touch, rootOf_touch]
  · have h1 : z ∉ R.map (·.1) := fun h2 => hz (by rw [mem_touch_iff, mem_touch_iff]; exact .inl (.inl h2))
    have h2 : rootOf R z ≠ rootOf R x := by
      rw [rootOf_not h1]
      intro e
      exact hz (e ▸ (h.reach x y).1)
    rw [if_neg h2, rootOf_not h1, rootOf_not (by rw [unite_keys]; exact hz)]
theorem RI.unite {R : List (α × α)} (h : RI R) (x y : α) : RI (unite R x y) := by
  refine ⟨by rw [unite_keys]; exact ((h.touch x).touch y).nodup, fun z hz => ?_⟩
  rw [rootOf_unite h]
  have hr := h.reach x y
  by_cases h1 : rootOf R z = rootOf R x
  · rw [if_pos h1]
    refine ⟨by rw [unite_keys]; exact hr.2, ?_⟩
    rw [rootOf_unite h, h.twice]
    split <;> rfl
  · rw [if_neg h1]
    refine ⟨?_, ?_⟩
    · rw [unite_keys]
      rw [unite_keys] at hz
      have := ((h.touch x).touch y).root z hz
      rw [rootOf_touch, rootOf_touch] at this
      exact this.1
    · rw [rootOf_unite h, h.twice, if_neg h1]
/-- What is known of the roots of some triangles. -/
structure SI (l : List (Tr α)) (R : List (α × α)) : Prop where
  ri : RI R
  keys : ∀ z, z ∈ R.map (·.1) ↔ z ∈ tpts l
  sound : ∀ g : α → α, (∀ t ∈ l, g t.b = g t.a ∧ g t.c = g t.a) → ∀ z, g (rootOf R z) = g z
  comp : ∀ t ∈ l, rootOf R t.b = rootOf R t.a ∧ rootOf R t.c = rootOf R t.a
theorem SI.nil : SI ([] : List (Tr α)) [] := ⟨⟨by simp, by simp⟩, fun z => by simp [tpts], fun g _ z => rfl, by simp⟩
theorem unite_sound {R : List (α × α)} (h : RI R) {g : α → α} (hs : ∀ z, g (rootOf R z) = g z) {x y : α} (e : g x = g y) (z : α) : g (rootOf (unite R x y) z) = g z := by
  rw [rootOf_unite h]
  split
  · rename_i h1
    rw [hs y, ← e, ← hs x, ← h1, hs z]
  · exact hs z
theorem unite_same {R : List (α × α)} (h : RI R) (x y : α) : rootOf (unite R x y) x = rootOf (unite R x y) y := by
  rw [rootOf_unite h, rootOf_unite h, if_pos rfl]
  split <;> rfl
theorem unite_keeps {R : List (α × α)} (h : RI R) (x y : α) {p q : α} (e : rootOf R p = rootOf R q) : rootOf (unite R x y) p = rootOf (unite R x y) q := by
  rw [rootOf_unite h, rootOf_unite h, e]
theorem SI.step {l : List (Tr α)} {R : List (α × α)} (h : SI l R) (t : Tr α) : SI (l ++ [t]) (shellStep R t) := by
  have h1 := h.ri.unite t.b t.a
  have h2 := h1.unite t.c t.a
  refine ⟨h2, fun z => ?_, fun g hg z => ?_, fun u hu => ?_⟩
  · unfold shellStep
    rw [mem_unite, mem_unite, h.keys, mem_tpts_iff, mem_tpts_iff]
    constructor
    · rintro ((⟨u, hu, e⟩ | e | e) | e | e)
      · exact ⟨u, by simp [hu], e⟩
      · exact ⟨t, by simp, .inr (.inl e)⟩
      · exact ⟨t, by simp, .inl e⟩
      · exact ⟨t, by simp, .inr (.inr e)⟩
      · exact ⟨t, by simp, .inl e⟩
    · rintro ⟨u, hu, e⟩
      rw [List.mem_append] at hu
      rcases hu with hu | hu
      · exact .inl (.inl ⟨u, hu, e⟩)
      · simp at hu
        subst hu
        rcases e with e | e | e
        · exact .inr (.inr e)
        · exact .inl (.inr (.inl e))
        · exact .inr (.inl e)
  · have ht := hg t (by simp)
    exact unite_sound h1 (unite_sound h.ri (h.sound g fun u hu => hg u (by simp [hu])) ht.1) ht.2 z
  · rw [List.mem_append] at hu
    unfold shellStep
    rcases hu with hu | hu
    · obtain ⟨e1, e2⟩ := h.comp u hu
      exact ⟨unite_keeps h1 _ _ (unite_keeps h.ri _ _ e1), unite_keeps h1 _ _ (unite_keeps h.ri _ _ e2)⟩
    · simp at hu
      subst hu
      exact ⟨unite_keeps h1 _ _ (unite_same h.ri _ _), unite_same h1 _ _⟩
theorem SI.all : ∀ (l done : List (Tr α)) (R : List (α × α)), SI done R → SI (done ++ l) (l.foldl shellStep R)
  | [], done, R, h => by rw [List.append_nil]; exact h
  | t :: l, done, R, h => by
    have := SI.all l (done ++ [t]) (shellStep R t) (h.step t)
    rw [List.append_assoc] at this
    exact this
theorem si_shellR (l : List (Tr α)) : SI l (shellR l) := SI.all l [] [] SI.nil
def rootsL (l : List (Tr α)) : List α := ((shellR l).map (·.1)).filter fun x => decide (rootOf (shellR l) x = x)
theorem shells_roots (l : List (Tr α)) : shellsL l = (rootsL l).length := by
  have h := (si_shellR l).ri
  unfold shellsL rootsL
  rw [← List.countP_eq_length_filter, List.countP_map]
  apply List.countP_congr
  intro p hp
  have : rootOf (shellR l) p.1 = p.2 := by
    unfold rootOf
    rw [(kget_iff h.nodup p.1 p.2).2 hp]
    rfl
  simp only [Function.comp, this, decide_eq_true_eq]
  exact ⟨fun e => e.symm, fun e => e.symm⟩
theorem shells_le {l m : List (Tr α)} (hp : ∀ z, z ∈ tpts l → z ∈ tpts m) (hc : ∀ g : α → α, (∀ t ∈ m, g t.b = g t.a ∧ g t.c = g t.a) → ∀ t ∈ l, g t.b = g t.a ∧ g t.c = g t.a)
    (hd : ∀ g : α → α, (∀ t ∈ l, g t.b = g t.a ∧ g t.c = g t.a) → ∀ t ∈ m, g t.b = g t.a ∧ g t.c = g t.a) : shellsL l ≤ shellsL m := by
  have h1 := si_shellR l
  have h2 := si_shellR m
  have e2 := h2.sound _ (hd _ h1.comp)
  rw [shells_roots, shells_roots]
  have : (rootsL l).length = ((rootsL l).map (rootOf (shellR m))).length := by rw [List.length_map]
  rw [this]
  have inj : ∀ x ∈ rootsL l, ∀ y ∈ rootsL l, rootOf (shellR m) x = rootOf (shellR m) y → x = y := by
    intro x hx y hy e
    have hx2 : rootOf (shellR l) x = x := by simpa using (List.mem_filter.1 hx).2
    have hy2 : rootOf (shellR l) y = y := by simpa using (List.mem_filter.1 hy).2
    rw [← hx2, ← hy2, ← e2 x, ← e2 y, e]
  have nd : (rootsL l).Nodup := h1.ri.nodup.sublist List.filter_sublist
  refine nodup_le _ _ ?_ fun x hx => ?_
  · have key : ∀ A : List α, A.Nodup → (∀ x ∈ A, ∀ y ∈ A, rootOf (shellR m) x = rootOf (shellR m) y → x = y) → (A.map (rootOf (shellR m))).Nodup := by
      intro A
      induction A with
      | nil => intro _ _; simp
      | cons a A ih =>
        intro hn hi
        rw [List.nodup_cons] at hn
        rw [List.map_cons, List.nodup_cons]
        refine ⟨fun hm => ?_, ih hn.2 fun x hx y hy => hi x (by simp [hx]) y (by simp [hy])⟩
        obtain ⟨y, hy, e⟩ := List.mem_map.1 hm
        exact hn.1 (hi a (by simp) y (by simp [hy]) e.symm ▸ hy)
    exact key _ nd inj
  · obtain ⟨y, hy, rfl⟩ := List.mem_map.1 hx
    have hk : y ∈ tpts l := (h1.keys y).1 (List.mem_filter.1 hy).1
    have hk2 := (h2.keys y).2 (hp y hk)
    refine List.mem_filter.2 ⟨(h2.ri.root y hk2).1, ?_⟩
    simpa using (h2.ri.root y hk2).2
/-- Solids whose triangles are alike: the same points, the same counts of edges, triangles that join the same points. -/
structure Alike (l m : List (Tr α)) : Prop where
  len : l.length = m.length
  cnt : ∀ x, cnt (edges l) x = cnt (edges m) x
  fwd : ∀ t ∈ l, t ∈ m ∨ t.rot ∈ m
  back : ∀ t ∈ m, t ∈ l ∨ t.rot.rot ∈ l
theorem rot_cnt (t : Tr α) (l : List (Tr α)) (x : α × α) : cnt (edges (t.rot :: l)) x = cnt (edges (t :: l)) x := by
  rw [cnt_edges_cons, cnt_edges_cons]
  show dl x t.b t.c + dl x t.c t.a + dl x t.a t.b + _ = _
  omega
theorem Alike.joined {l m : List (Tr α)} (h : Alike l m) (g : α → α) : (∀ t ∈ m, g t.b = g t.a ∧ g t.c = g t.a) → ∀ t ∈ l, g t.b = g t.a ∧ g t.c = g t.a := by
  intro hm t ht
  rcases h.fwd t ht with h1 | h1
  · exact hm t h1
  · have h2 : g t.c = g t.b ∧ g t.a = g t.b := hm _ h1
    exact ⟨h2.2.symm, h2.1.trans h2.2.symm⟩
theorem Alike.joined' {l m : List (Tr α)} (h : Alike l m) (g : α → α) : (∀ t ∈ l, g t.b = g t.a ∧ g t.c = g t.a) → ∀ t ∈ m, g t.b = g t.a ∧ g t.c = g t.a := by
  intro hl t ht
  rcases h.back t ht with h1 | h1
  · exact hl t h1
  · have h2 : g t.a = g t.c ∧ g t.b = g t.c := hl _ h1
    exact ⟨h2.2.trans h2.1.symm, h2.1.symm⟩
omit [DecidableEq α] in
theorem rot_mem {z : α} {t : Tr α} : (z = t.rot.a ∨ z = t.rot.b ∨ z = t.rot.c) ↔ (z = t.a ∨ z = t.b ∨ z = t.c) := by
  show (z = t.b ∨ z = t.c ∨ z = t.a) ↔ _
  constructor
  · rintro (h | h | h)
    · exact .inr (.inl h)
    · exact .inr (.inr h)
    · exact .inl h
  · rintro (h | h | h)
    · exact .inr (.inr h)
    · exact .inl h
    · exact .inr (.inl h)
theorem Alike.pts {l m : List (Tr α)} (h : Alike l m) (z : α) : z ∈ tpts l ↔ z ∈ tpts m := by
  rw [mem_tpts_iff, mem_tpts_iff]
  constructor
  · rintro ⟨t, ht, e⟩
    rcases h.fwd t ht with h1 | h1
    · exact ⟨t, h1, e⟩
    · exact ⟨_, h1, rot_mem.2 e⟩
  · rintro ⟨t, ht, e⟩
    rcases h.back t ht with h1 | h1
    · exact ⟨t, h1, e⟩
    · exact ⟨_, h1, rot_mem.2 (rot_mem.2 e)⟩
theorem Alike.shells {l m : List (Tr α)} (h : Alike l m) : shellsL l = shellsL m :=
  Nat.le_antisymm (shells_le (fun z => (h.pts z).1) h.joined h.joined') (shells_le (fun z => (h.pts z).2) h.joined' h.joined)
theorem Alike.open {l m : List (Tr α)} (h : Alike l m) : openT l = openT m := by
  have e : openT l = false ↔ openT m = false := by
    rw [closed_iff, closed_iff]
    exact ⟨fun h1 x => by rw [← h.cnt]; exact h1 x, fun h1 x => by rw [h.cnt]; exact h1 x⟩
  cases h1 : openT l <;> cases h2 : openT m
  · rfl
  · rw [e.1 h1] at h2; cases h2
  · rw [e.2 h2] at h1; cases h1
  · rfl

/-- The triangles in another order, some of them with another first point. -/
def turnedAt (q : Nat → Bool) : Nat → List (Tr α) → List (Tr α)
  | _, [] => []
  | i, t :: l => (if q i then t.rot else t) :: turnedAt q (i + 1) l
omit [DecidableEq α] in
theorem turnedAt_length (q : Nat → Bool) : ∀ (l : List (Tr α)) (i : Nat), (turnedAt q i l).length = l.length
  | [], _ => rfl
  | t :: l, i => by rw [turnedAt, List.length_cons, List.length_cons, turnedAt_length q l]
theorem turnedAt_cnt (q : Nat → Bool) (x : α × α) : ∀ (l : List (Tr α)) (i : Nat), cnt (edges (turnedAt q i l)) x = cnt (edges l) x
  | [], _ => rfl
  | t :: l, i => by
    have ih := turnedAt_cnt q x l (i + 1)
    rw [turnedAt]
    cases q i
    · rw [if_neg (by simp), cnt_edges_cons, cnt_edges_cons, ih]
    · rw [if_pos rfl, rot_cnt, cnt_edges_cons, cnt_edges_cons, ih]
omit [DecidableEq α] in
theorem turnedAt_to (q : Nat → Bool) : ∀ (l : List (Tr α)) (i : Nat) (t : Tr α), t ∈ l → t ∈ turnedAt q i l ∨ t.rot ∈ turnedAt q i l
  | [], _, _, h => by simp at h
  | u :: l, i, t, h => by
    rw [turnedAt]
    rcases List.mem_cons.1 h with rfl | h
    · cases q i
      · exact .inl (by simp)
      · exact .inr (by simp)
    · rcases turnedAt_to q l (i + 1) t h with h1 | h1
      · exact .inl (List.mem_cons_of_mem _ h1)
      · exact .inr (List.mem_cons_of_mem _ h1)
omit [DecidableEq α] in
theorem turnedAt_back (q : Nat → Bool) : ∀ (l : List (Tr α)) (i : Nat) (t : Tr α), t ∈ turnedAt q i l → t ∈ l ∨ t.rot.rot ∈ l
  | [], _, _, h => by simp [turnedAt] at h
  | u :: l, i, t, h => by
    rw [turnedAt] at h
    rcases List.mem_cons.1 h with rfl | h
    · cases q i
      · exact .inl (by simp)
      · refine .inr ?_
        rw [if_pos rfl]
        exact List.mem_cons_self
    · rcases turnedAt_back q l (i + 1) t h with h1 | h1
      · exact .inl (List.mem_cons_of_mem _ h1)
      · exact .inr (List.mem_cons_of_mem _ h1)
theorem alike_order (q : Nat → Bool) (k : Nat) (l : List (Tr α)) : Alike l (turnedAt q 0 (l.drop k ++ l.take k)) := by
  have hm : ∀ t, t ∈ l.drop k ++ l.take k ↔ t ∈ l := fun t => by
    rw [List.mem_append, or_comm, ← List.mem_append, List.take_append_drop]
  refine ⟨?_, fun x => ?_, fun t ht => turnedAt_to q _ 0 t ((hm t).2 ht), fun t ht => ?_⟩
  · rw [turnedAt_length, List.length_append, Nat.add_comm, ← List.length_append, List.take_append_drop]
  · rw [turnedAt_cnt, cnt_edges_append, Int.add_comm, ← cnt_edges_append, List.take_append_drop]
  · exact (turnedAt_back q _ 0 t ht).elim (fun h => .inl ((hm _).1 h)) fun h => .inr ((hm _).1 h)
end

theorem rot_thrN (t : Tr V3) : thrN t.rot.a t.rot.b t.rot.c = thrN t.a t.b t.c := by
  obtain ⟨⟨a1, a2, a3⟩, ⟨b1, b2, b3⟩, ⟨c1, c2, c3⟩⟩ := t
  simp only [Tr.rot, thrN, V3.sub, V3.cross, V3.mk.injEq]
  refine ⟨?_, ?_, ?_⟩ <;> grind
theorem rot_height (t : Tr V3) (p : V3) : (thrP t.rot.a t.rot.b t.rot.c).height p = (thrP t.a t.b t.c).height p := by
  unfold thrP
  rw [rot_thrN]
  obtain ⟨⟨a1, a2, a3⟩, ⟨b1, b2, b3⟩, ⟨c1, c2, c3⟩⟩ := t
  simp only [Tr.rot, Pl.height, V3.dot, thrN, V3.sub, V3.cross]
  grind
theorem Alike.convex {l m : List (Tr V3)} (h : Alike l m) : convexL l = convexL m := by
  have hp : ∀ z, z ∈ pointsL l ↔ z ∈ pointsL m := fun z => by rw [mem_pointsL, mem_pointsL]; exact h.pts z
  unfold convexL
  rw [Bool.eq_iff_iff, List.all_eq_true, List.all_eq_true]
  simp only [Bool.or_eq_true, decide_eq_true_eq, List.all_eq_true]
  constructor
  · intro hl t ht
    rcases h.back t ht with h1 | h1
    · exact (hl t h1).elim .inl fun h2 => .inr fun p hpm => h2 p ((hp p).2 hpm)
    · have h2 := hl _ h1
      rw [rot_thrN, rot_thrN] at h2
      refine h2.elim .inl fun h2 => .inr fun p hpm => ?_
      have h3 := h2 p ((hp p).2 hpm)
      rwa [rot_height, rot_height] at h3
  · intro hm t ht
    rcases h.fwd t ht with h1 | h1
    · exact (hm t h1).elim .inl fun h2 => .inr fun p hpm => h2 p ((hp p).1 hpm)
    · have h2 := hm _ h1
      rw [rot_thrN] at h2
      refine h2.elim .inl fun h2 => .inr fun p hpm => ?_
      have h3 := h2 p ((hp p).1 hpm)
      rwa [rot_height] at h3
end Go.Proofs.YtbnbaokamccmjaaGreatDoor

/- law of chapter 12: MeshOrder: its walk. -/
set_option linter.unusedVariables false
set_option linter.unusedSimpArgs false
namespace Go.Proofs.YtbnbaokamccmjaaGreatDoor
open Go Go.RowKit

theorem mConvex_bad (v : Value) (l : List TV) (z : Int) (w : World) (hB : Bw w) (hv : Ts w v l) (hs : tle l 40000000) (hz : chkC l = z) (h0 : z ≠ 0) :
    Calls Tryz.prog 30 #[v] w fun e w' => e = .returned (.tuple #[.bool false, .int .i64 z]) ∧ Below w.heap.size w w' := by
  have H := Lib.hid (fun w hB hv => check_walk v l w hB hv hs)
  rw [hz] at H
  obtain ⟨A, cap, rfl, hn, hc, hcell⟩ := hv.open
  clear hcell hn hc hs hz
  go_enter Tryz.func30, Tryz.ntmps30
  go_wp2_with fail
  refine (H.out _ (hB.below (by repeat (first | exact br _ | assumption | refine ba ?_ | refine bd ?_ | refine below_drewN ?_ _ | refine bs ?_ (by (try simp) <;> omega)))) (hv.below (by repeat (first | exact br _ | assumption | refine ba ?_ | refine bd ?_ | refine below_drewN ?_ _ | refine bs ?_ (by (try simp) <;> omega))))).mono ?_
  rintro e w1 ⟨rfl, g1⟩
  have B1 : Below w.heap.size w w1 := bn (by repeat (first | exact br _ | assumption | refine ba ?_ | refine bd ?_ | refine below_drewN ?_ _ | refine bs ?_ (by (try simp) <;> omega))) g1
  clear g1
  go_wp2
  go_ret2
  exact ⟨rfl, (by repeat (first | exact br _ | assumption | refine ba ?_ | refine bd ?_ | refine below_drewN ?_ _ | refine bs ?_ (by (try simp) <;> omega)))⟩

/-! ### Parts of a row -/
theorem tcs_drop (l : List TV) (k : Nat) : tcs (l.drop k) = (tcs l).drop (k * 9) := by
  induction k generalizing l with
  | zero => simp
  | succ k ih =>
    cases l with
    | nil => simp [tcs]
    | cons t l =>
      rw [List.drop_succ_cons, ih]
      have e : tcs (t :: l) = TV.cells t ++ tcs l := rfl
      have e9 : (TV.cells t).length = 9 := rfl
      have h0 : (TV.cells t).drop ((k + 1) * 9) = [] := List.drop_eq_nil_of_le (by rw [e9]; omega)
      rw [e, List.drop_append, e9, h0, List.nil_append, show (k + 1) * 9 - 9 = k * 9 by omega]
theorem tcs_take (l : List TV) (k : Nat) : tcs (l.take k) = (tcs l).take (k * 9) := by
  induction k generalizing l with
  | zero => simp [tcs]
  | succ k ih =>
    cases l with
    | nil => simp [tcs]
    | cons t l =>
      have e : ∀ m : List TV, tcs (t :: m) = TV.cells t ++ tcs m := fun _ => rfl
      have e9 : (TV.cells t).length = 9 := rfl
      have h0 : (TV.cells t).take ((k + 1) * 9) = TV.cells t := List.take_of_length_le (by rw [e9]; omega)
      rw [List.take_succ_cons, e, e, ih, List.take_append, e9, h0, show (k + 1) * 9 - 9 = k * 9 by omega]
theorem ts_drop {w : World} {b off n cap k : Nat} {l : List TV} (h : Ts w (.slice (some ⟨b, off, none⟩) n cap) l) (hn : l.length = n) (hk : k ≤ n) : Ts w (.slice (some ⟨b, off + k * 9, none⟩) (n - k) (cap - k)) (l.drop k) := by
  obtain ⟨hl, A, c, hv, hnc, hc, hcell⟩ := h
  rw [hn] at hl hv hnc hcell
  cases hv
  refine ⟨by rw [tcs_length], some ⟨b, off + k * 9, none⟩, cap - k, by rw [List.length_drop, hn], by rw [List.length_drop, hn]; omega, Nat.le_trans (Nat.sub_le _ _) hc, fun h0 => ⟨b, off + k * 9, rfl, fun j u hu => ?_⟩⟩
  rw [List.length_drop] at h0
  obtain ⟨b', off', he, hcl⟩ := hcell (by omega)
  cases he
  rw [tcs_drop, List.getElem?_drop] at hu
  have := hcl _ u hu
  rwa [← Nat.add_assoc] at this
theorem ts_take {w : World} {b off n cap k : Nat} {l : List TV} (h : Ts w (.slice (some ⟨b, off, none⟩) n cap) l) (hn : l.length = n) (hk : k ≤ n) : Ts w (.slice (some ⟨b, off, none⟩) k cap) (l.take k) := by
  obtain ⟨hl, A, c, hv, hnc, hc, hcell⟩ := h
  rw [hn] at hl hv hnc hcell
  cases hv
  have hkl : (l.take k).length = k := by rw [List.length_take]; omega
  refine ⟨by rw [tcs_length], some ⟨b, off, none⟩, cap, by rw [hkl], by rw [hkl]; omega, hc, fun h0 => ⟨b, off, rfl, fun j u hu => ?_⟩⟩
  rw [hkl] at h0
  obtain ⟨b', off', he, hcl⟩ := hcell (by omega)
  cases he
  rw [tcs_take, List.getElem?_take] at hu
  split at hu
  · exact hcl j u hu
  · cases hu

section
variable {P : Program} {ops : Array Oper} {o : Oper} {a : Act} {K : Act → World → Prop} {Q : Exit → Act → World → Prop} {E : Prop}
/-- append(v, u...), u a slice that is read, at a step of a region that draws its order. -/
theorem step_append_rd {w0 X : World} (base : Nat) (hgd : o.guard = none) (s x : Operand) (t e : TypeId) (z : Value) (size bytes : Nat)
    (ho : o.op = .call { callee := .builtin .append, args := #[s, x], argTypes := #[t, t] })
    (ht : P.underlying t = some (.slice e)) (hinfo : (P.info? e).map (fun i => (i.zero, i.size, i.bytes)) = some (some z, size, bytes)) (hz : z.cells.size = size) (hsz : 0 < size) (hb0 : 0 < bytes)
    (v : Value) (n m : Nat) (xs ys : List Value) (hs : a.eval s = v) (ad : Addr) (c : Nat) (hx : a.eval x = .slice (some ad) m c) (hr : Rd X size (.slice (some ad) m c) m ys) (h1 : ∀ y, y ∈ ys → y.oneCell' = true)
    (HO : X.ownsRow base e size v n xs) (HB : Below base w0 X) (hbase : base ≤ X.heap.size) (hbytes : (n + m) * bytes ≤ 140737488355328)
    (h : ∀ v1 w1, w1.ownsRow base e size v1 (n + m) (xs ++ ys) → Below base w0 w1 → X.grownBy w1 v.ownBlock → K (a.put o.dst v1) w1) :
    if Region.wanted o (yielded ops a.tmps) = true then Oper.wp P o a X K Q else E := by
  obtain ⟨i0, hi, hzz⟩ := Option.map_eq_some_iff.1 hinfo
  simp only [Prod.mk.injEq] at hzz
  obtain ⟨hz0, hz1, hz2⟩ := hzz
  have hlen : n + m ≤ 140737488355328 := Nat.le_trans (Nat.le_mul_of_pos_right _ hb0) hbytes
  obtain ⟨hl, A, cap, hv, hn, hc, hcell⟩ := hr
  have hw : Region.wanted o (yielded ops a.tmps) = true := by simp [Region.wanted, hgd]
  rw [if_pos hw]
  refine wp_append_own X s x t ho base e i0 z size bytes ht hi hz0 hz1 hz2 hz hsz v n xs hs HO ad m c ys hx hl ?_ h1 (by unfold maxLen; omega) hbytes hbase ?_
  · intro j y hy
    have h0 : 0 < m := by
      rcases Nat.eq_zero_or_pos m with h0 | h0
      · rw [h0, Nat.zero_mul] at hl
        rw [List.eq_nil_of_length_eq_zero hl] at hy
        simp at hy
      · exact h0
    obtain ⟨b, off, h2, h3⟩ := hcell h0
    cases hv
    cases h2
    have e : (⟨b, off, none⟩ : Addr).add j = ⟨b, off + j, none⟩ := by unfold Addr.add; split <;> simp_all
    rw [e]
    exact h3 j y hy
  · intro v1 w1 hown hg _
    exact h v1 w1 hown (HB.grown hg hbase (own_base_le HO)) hg
end

/-! ### A triangle stored into a row of triangles -/
theorem tcs_set : ∀ (l : List TV) (m : Nat) (t : TV), tcs (l.set m t) = (((((((((tcs l).set (m * 9) (.string t.a.x)).set (m * 9 + 1) (.string t.a.y)).set (m * 9 + 2) (.string t.a.z)).set (m * 9 + 3) (.string t.b.x)).set (m * 9 + 4) (.string t.b.y)).set (m * 9 + 5) (.string t.b.z)).set (m * 9 + 6) (.string t.c.x)).set (m * 9 + 7) (.string t.c.y)).set (m * 9 + 8) (.string t.c.z)
  | [], m, t => by simp [tcs]
  | a :: l, 0, t => rfl
  | a :: l, m + 1, t => by
    have ih := tcs_set l m t
    have e : ∀ (b : TV) (k : List TV), tcs (b :: k) = .string b.a.x :: .string b.a.y :: .string b.a.z :: .string b.b.x :: .string b.b.y :: .string b.b.z :: .string b.c.x :: .string b.c.y :: .string b.c.z :: tcs k := fun _ _ => rfl
    rw [List.set_cons_succ, e, e, ih, show (m + 1) * 9 = m * 9 + 1 + 1 + 1 + 1 + 1 + 1 + 1 + 1 + 1 by omega]
    rfl
/-- The nine stores. -/
def put9 (w : World) (g o : Nat) (t : TV) : World :=
  ((((((((w.setCell ⟨g, o, none⟩ (.string t.a.x)).setCell ⟨g, o + 1, none⟩ (.string t.a.y)).setCell ⟨g, o + 2, none⟩ (.string t.a.z)).setCell ⟨g, o + 3, none⟩ (.string t.b.x)).setCell ⟨g, o + 4, none⟩ (.string t.b.y)).setCell ⟨g, o + 5, none⟩ (.string t.b.z)).setCell ⟨g, o + 6, none⟩ (.string t.c.x)).setCell ⟨g, o + 7, none⟩ (.string t.c.y)).setCell ⟨g, o + 8, none⟩ (.string t.c.z)
theorem own_tri {w : World} {base g n cap m : Nat} {l : List TV} (t : TV) (h : w.ownsRow base 43 9 (.slice (some ⟨g, 0, none⟩) n cap) n (tcs l)) :
    (put9 w g (m * 9) t).ownsRow base 43 9 (.slice (some ⟨g, 0, none⟩) n cap) n (tcs (l.set m t)) := by
  rw [tcs_set]
  unfold put9
  exact (World.ownsRow.stored (World.ownsRow.stored (World.ownsRow.stored (World.ownsRow.stored (World.ownsRow.stored (World.ownsRow.stored (World.ownsRow.stored (World.ownsRow.stored (World.ownsRow.stored h _ _).1 _ _).1 _ _).1 _ _).1 _ _).1 _ _).1 _ _).1 _ _).1 _ _).1
theorem put9_below {w0 w : World} {g o : Nat} {t : TV} (h : Below w0.heap.size w0 w) (hg : w0.heap.size ≤ g) : Below w0.heap.size w0 (put9 w g o t) := by
  unfold put9
  exact (((((((((h.setCell hg _).setCell hg _).setCell hg _).setCell hg _).setCell hg _).setCell hg _).setCell hg _).setCell hg _).setCell hg _)
theorem own_nine {w : World} {base g n cap m : Nat} {l : List TV} {t : TV} (h : w.ownsRow base 43 9 (.slice (some ⟨g, 0, none⟩) n cap) n (tcs l)) (hp : l[m]? = some t) (hm : m < n) :
    ∀ i u, (TV.cells t)[i]? = some u → w.cell? ⟨g, m * 9 + i, none⟩ = some u := fun i u hu => by
  have hi : i < 9 := (List.getElem?_eq_some_iff.1 hu).1
  exact (h.cellAt _ (by omega)).trans (tcs_get l m t i u hp hu)

theorem turnedAt_snoc (q : Nat → Bool) (t : TV) : ∀ (l : List TV) (i : Nat), turnedAt q i (l ++ [t]) = turnedAt q i l ++ [if q (i + l.length) then t.rot else t]
  | [], i => rfl
  | u :: l, i => by
    rw [List.cons_append, turnedAt, turnedAt, turnedAt_snoc q t l (i + 1), List.length_cons, show i + 1 + l.length = i + (l.length + 1) by omega]
    rfl
/-- The first i triangles turned. -/
def mixT (q : Nat → Bool) (l : List TV) (i : Nat) : List TV := turnedAt q 0 (l.take i) ++ l.drop i
theorem mixT_zero (q : Nat → Bool) (l : List TV) : mixT q l 0 = l := by simp [mixT, turnedAt]
theorem mixT_end (q : Nat → Bool) (l : List TV) : mixT q l l.length = turnedAt q 0 l := by simp [mixT]
theorem mixT_get {q : Nat → Bool} {l : List TV} {i : Nat} {t : TV} (h : l[i]? = some t) : (mixT q l i)[i]? = some t := by
  have hlt := (List.getElem?_eq_some_iff.1 h).1
  have hl : (turnedAt q 0 (l.take i)).length = i := by rw [turnedAt_length, List.length_take]; omega
  unfold mixT
  rw [List.getElem?_append_right (by omega), hl, Nat.sub_self, List.getElem?_drop, Nat.add_zero, h]
theorem mixT_set {q : Nat → Bool} {l : List TV} {i : Nat} {t : TV} (h : l[i]? = some t) : (mixT q l i).set i (if q i then t.rot else t) = mixT q l (i + 1) := by
  have hlt := (List.getElem?_eq_some_iff.1 h).1
  have e : l[i] = t := (List.getElem?_eq_some_iff.1 h).2
  have hl : (turnedAt q 0 (l.take i)).length = i := by rw [turnedAt_length, List.length_take]; omega
  have hl2 : (l.take i).length = i := by rw [List.length_take]; omega
  unfold mixT
  rw [List.set_append_right _ _ (by omega), hl, Nat.sub_self, List.drop_eq_getElem_cons hlt, e, List.set_cons_zero, List.take_succ_eq_append_getElem hlt, e, turnedAt_snoc, hl2, Nat.zero_add, List.append_assoc]
  rfl
theorem mixT_keep {q : Nat → Bool} {l : List TV} {i : Nat} {t : TV} (h : l[i]? = some t) (hq : q i = false) : mixT q l (i + 1) = mixT q l i := by
  rw [← mixT_set h, if_neg (by simp [hq])]
  have h2 := mixT_get (q := q) h
  obtain ⟨h3, h4⟩ := List.getElem?_eq_some_iff.1 h2
  rw [← h4]
  exact List.set_getElem_self h3
end Go.Proofs.YtbnbaokamccmjaaGreatDoor
