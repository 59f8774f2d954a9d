/- law of chapter 12: vec, awake (the walk). -/
import Derived.Test.YtbnbaokamccmjaaGreatDoorKB
import Derived.Test.YtbnbaokamccmjaaGreatDoorKD
import Derived.Test.YtbnbaokamccmjaaGreatDoorCards
import Derived.Test.YtbnbaokamccmjaaGreatDoorTie
import Derived.ProofKit
import Derived.OpenShut
import Derived.Deep.DeepHandedRow
import Derived.Lib.LaidTab
import Derived.Lib.SmallJoins
import Derived.Shelf.Vars
import Derived.SevenTiedAt
set_option linter.unusedVariables false
set_option linter.unusedSimpArgs false
namespace Go.Proofs.YtbnbaokamccmjaaGreatDoor
open Go Go.RowKit

theorem vec_walk (x y z : ByteArray) (w : World) :
    Calls Tryz.prog 46 #[.string x, .string y, .string z] w fun e w' => e = .returned (.agg #[.string x, .string y, .string z]) ∧ Below w.heap.size w w' := by
  go_enter Tryz.func46, Tryz.ntmps46
  go_wp2
  refine bodyPost_ret (v := .agg #[.string x, .string y, .string z]) (by simp [results, Tryz.results46, go_sem, *]) rfl ⟨(by first | rfl | rw [hI]), (by repeat (first | exact br _ | assumption | refine ba ?_ | refine bd ?_ | refine below_drewN ?_ _ | refine bs ?_ (by (try simp) <;> omega)))⟩

/-- All but the first triangle. -/
theorem Ts.tail {w : World} {b off n cap : Nat} {l : List TV} (h : Ts w (.slice (some ⟨b, off, none⟩) (n + 1) cap) l) : Ts w (.slice (some ⟨b, off + 9, none⟩) n (cap - 1)) l.tail := by
  obtain ⟨A, cap', hv, hn, hc, hcell⟩ := h.open
  simp only [Value.slice.injEq] at hv
  obtain ⟨hA, hl, rfl⟩ := hv
  obtain ⟨b2, off2, hA2, hcl⟩ := hcell (by omega)
  rw [hA2] at hA
  simp only [Option.some.injEq, Addr.mk.injEq, and_true] at hA
  obtain ⟨rfl, rfl⟩ := hA
  have hlt : l.tail.length = n := by rw [List.length_tail]; omega
  refine ⟨tcs_length _, some ⟨b, off + 9, none⟩, cap - 1, by rw [hlt], by omega, by unfold maxLen; omega, fun h0 => ⟨b, off + 9, rfl, fun j u hu => ?_⟩⟩
  obtain ⟨_, A3, cap3, hv3, _, _, h3⟩ := h
  obtain ⟨b3, off3, hA3, hc3⟩ := h3 (by omega)
  simp only [Value.slice.injEq] at hv3
  rw [← hv3.1] at hA3
  simp only [Option.some.injEq, Addr.mk.injEq, and_true] at hA3
  obtain ⟨rfl, rfl⟩ := hA3
  have h4 := hc3 (j + 9) u (by
    cases l with
    | nil => simp at hl
    | cons t l =>
      have e : tcs (t :: l) = TV.cells t ++ tcs l := rfl
      have e9 : (TV.cells t).length = 9 := rfl
      rw [e, List.getElem?_append_right (by omega), e9, Nat.add_sub_cancel]
      exact hu)
  rw [show off + 9 + j = off + (j + 9) by omega]
  exact h4

set_option maxHeartbeats 4000000 in
set_option maxRecDepth 100000 in
theorem awake_at (b m j r t b1 f : List TV) (ps : List SV) (w : World) (hB : Bw w) (n12 : b.length = 12) (m12 : m.length = 12) (j24 : j.length = 24) (r12 : r.length = 12) (t12 : t.length = 12) (f1 : f.length = 1) (p8 : ps.length = 8) (hb1 : b1 = b.tail)
    (h1 : ∀ w, Bw w → Calls Tryz.prog 17 #[.agg #[.string ⟨#[48]⟩, .string ⟨#[48]⟩, .string ⟨#[48]⟩], .agg #[.string ⟨#[50]⟩, .string ⟨#[49]⟩, .string ⟨#[49]⟩]] w (Ret fun r w' => (∃ u, r = .tuple #[u, .int .i64 0] ∧ Ts w' u b) ∧ Below w.heap.size w w'))
    (h2 : ∀ v w, Bw w → Ts w v b → Calls Tryz.prog 35 #[v] w (Ret fun r w' => (∃ u, r = .tuple #[u, .int .i64 0] ∧ Vs w' u ps) ∧ Below w.heap.size w w'))
    (h3 : ∀ v w, Bw w → Ts w v b → Calls Tryz.prog 31 #[v] w fun e w' => e = .returned (.tuple #[.int .i64 1, .int .i64 0]) ∧ Below w.heap.size w w')
    (h4 : ∀ v w, Bw w → Ts w v b → Calls Tryz.prog 30 #[v] w fun e w' => e = .returned (.tuple #[.bool true, .int .i64 0]) ∧ Below w.heap.size w w')
    (h5 : ∀ v w, Bw w → Ts w v b → Calls Tryz.prog 21 #[v, .agg #[.string ⟨#[53]⟩, .string ⟨#[48]⟩, .string ⟨#[48]⟩]] w (Ret fun r w' => (∃ u, r = .tuple #[u, .int .i64 0] ∧ Ts w' u m) ∧ Below w.heap.size w w'))
    (h6 : ∀ v1 v2 w, Bw w → Ts w v1 b → Ts w v2 m → Calls Tryz.prog 28 #[v1, v2] w (Ret fun r w' => (∃ u, r = .tuple #[u, .int .i64 0] ∧ Ts w' u j) ∧ Below w.heap.size w w'))
    (h7 : ∀ v w, Bw w → Ts w v j → Calls Tryz.prog 31 #[v] w fun e w' => e = .returned (.tuple #[.int .i64 2, .int .i64 0]) ∧ Below w.heap.size w w')
    (h8 : ∀ v w, Bw w → Ts w v b → Calls Tryz.prog 24 #[v] w (Ret fun q w' => (∃ u, q = .tuple #[u, .int .i64 0] ∧ Ts w' u r) ∧ Below w.heap.size w w'))
    (h9 : ∀ v w, Bw w → Ts w v b → Calls Tryz.prog 26 #[v] w (Ret fun q w' => (∃ u, q = .tuple #[u, .int .i64 0] ∧ Ts w' u t) ∧ Below w.heap.size w w'))
    (h10 : ∀ p w, Bw w → Bk w p [.string ⟨#[48]⟩, .string ⟨#[48]⟩, .string ⟨#[48]⟩, .string ⟨#[49]⟩, .string ⟨#[48]⟩, .string ⟨#[48]⟩, .string ⟨#[48]⟩, .string ⟨#[49]⟩, .string ⟨#[48]⟩] → Calls Tryz.prog 12 #[.slice (some ⟨p, 0, none⟩) 3 3] w (Ret fun q w' => (∃ u, q = .tuple #[u, .int .i64 0] ∧ Ts w' u f) ∧ Below w.heap.size w w'))
    (h11 : ∀ v w, Bw w → Ts w v b → Calls Tryz.prog 32 #[v] w fun e w' => e = .returned (.int .i64 0) ∧ Below w.heap.size w w')
    (h12 : ∀ v w, Bw w → Ts w v b1 → Calls Tryz.prog 32 #[v] w fun e w' => e = .returned (.int .i64 17) ∧ Below w.heap.size w w') :
    Calls Tryz.prog 10 #[] w fun e w' => e = .returned (.bool true) ∧ Below w.heap.size w w' := by
  have H1 := Lib.hid h1
  have H2 := Lib.hid h2
  have H3 := Lib.hid h3
  have H4 := Lib.hid h4
  have H5 := Lib.hid h5
  have H6 := Lib.hid h6
  have H7 := Lib.hid h7
  have H8 := Lib.hid h8
  have H9 := Lib.hid h9
  have H10 := Lib.hid h10
  have H11 := Lib.hid h11
  have H12 := Lib.hid h12
  have HB1 := Lib.hid hb1
  have N12 := Lib.hid n12
  have M12 := Lib.hid m12
  have J24 := Lib.hid j24
  have R12 := Lib.hid r12
  have T12 := Lib.hid t12
  have F1 := Lib.hid f1
  have P8 := Lib.hid p8
  clear h1 h2 h3 h4 h5 h6 h7 h8 h9 h10 h11 h12 hb1 n12 m12 j24 r12 t12 f1 p8
  go_enter Tryz.func10, Tryz.ntmps10
  go_wp2_with fail
  refine (vec_walk _ _ _ _).mono ?_
  rintro e w1 ⟨rfl, g1⟩
  have B1 : Below w.heap.size w w1 := bn (by repeat (first | exact br _ | assumption | refine ba ?_ | refine bd ?_ | refine below_drewN ?_ _ | refine bs ?_ (by (try simp) <;> omega))) g1
  clear g1
  go_wp2_with fail
  refine (vec_walk _ _ _ _).mono ?_
  rintro e w2 ⟨rfl, g2⟩
  have B2 : Below w.heap.size w w2 := bn (by repeat (first | exact br _ | assumption | refine ba ?_ | refine bd ?_ | refine below_drewN ?_ _ | refine bs ?_ (by (try simp) <;> omega))) g2
  clear g2
  go_wp2_with fail
  refine (H1.out _ (hB.below (by repeat (first | exact br _ | assumption | refine ba ?_ | refine bd ?_ | refine below_drewN ?_ _ | refine bs ?_ (by (try simp) <;> omega))))).mono ?_
  rintro e w3 ⟨_, rfl, ⟨u, rfl, hu⟩, g3⟩
  have B3 : Below w.heap.size w w3 := bn (by repeat (first | exact br _ | assumption | refine ba ?_ | refine bd ?_ | refine below_drewN ?_ _ | refine bs ?_ (by (try simp) <;> omega))) g3
  clear g3
  obtain ⟨A, cap, rfl, hn, hc, hcell⟩ := hu.open
  obtain ⟨bb, off, rfl, -⟩ := hcell (by rw [N12.out]; omega)
  rw [N12.out] at hu hn ⊢
  have HU := Lib.hid hu
  have hn12 : 12 ≤ cap := hn
  clear hu hcell hn
  go_wp2_with fail
  refine (H2.out _ _ (hB.below (by repeat (first | exact br _ | assumption | refine ba ?_ | refine bd ?_ | refine below_drewN ?_ _ | refine bs ?_ (by (try simp) <;> omega)))) HU.out).mono ?_
  rintro e w4 ⟨_, rfl, ⟨u, rfl, hu⟩, g4⟩
  have G4 : Below w3.heap.size w3 w4 := g4
  have B4 : Below w.heap.size w w4 := bn (by repeat (first | exact br _ | assumption | refine ba ?_ | refine bd ?_ | refine below_drewN ?_ _ | refine bs ?_ (by (try simp) <;> omega))) g4
  clear g4
  obtain ⟨A4, cap4, rfl, -, -, -⟩ := hu.open
  rw [P8.out] at hu ⊢
  clear hu
  go_wp2_with fail
  refine (H3.out _ _ (hB.below (by repeat (first | exact br _ | assumption | refine ba ?_ | refine bd ?_ | refine below_drewN ?_ _ | refine bs ?_ (by (try simp) <;> omega)))) (HU.out.below G4)).mono ?_
  rintro e w5 ⟨rfl, g5⟩
  have G5 : Below w3.heap.size w3 w5 := bn G4 g5
  have B5 : Below w.heap.size w w5 := bn (by repeat (first | exact br _ | assumption | refine ba ?_ | refine bd ?_ | refine below_drewN ?_ _ | refine bs ?_ (by (try simp) <;> omega))) g5
  clear g5
  go_wp2_with fail
  refine (H4.out _ _ (hB.below (by repeat (first | exact br _ | assumption | refine ba ?_ | refine bd ?_ | refine below_drewN ?_ _ | refine bs ?_ (by (try simp) <;> omega)))) (HU.out.below G5)).mono ?_
  rintro e w6 ⟨rfl, g6⟩
  have G6 : Below w3.heap.size w3 w6 := bn G5 g6
  have B6 : Below w.heap.size w w6 := bn (by repeat (first | exact br _ | assumption | refine ba ?_ | refine bd ?_ | refine below_drewN ?_ _ | refine bs ?_ (by (try simp) <;> omega))) g6
  clear g6
  go_wp2_with fail
  refine (vec_walk _ _ _ _).mono ?_
  rintro e w7 ⟨rfl, g7⟩
  have G7 : Below w3.heap.size w3 w7 := bn G6 g7
  have B7 : Below w.heap.size w w7 := bn (by repeat (first | exact br _ | assumption | refine ba ?_ | refine bd ?_ | refine below_drewN ?_ _ | refine bs ?_ (by (try simp) <;> omega))) g7
  clear g7
  go_wp2_with fail
  refine (H5.out _ _ (hB.below (by repeat (first | exact br _ | assumption | refine ba ?_ | refine bd ?_ | refine below_drewN ?_ _ | refine bs ?_ (by (try simp) <;> omega)))) (HU.out.below G7)).mono ?_
  rintro e w8 ⟨_, rfl, ⟨u, rfl, hu⟩, g8⟩
  have G8 : Below w3.heap.size w3 w8 := bn G7 g8
  have B8 : Below w.heap.size w w8 := bn (by repeat (first | exact br _ | assumption | refine ba ?_ | refine bd ?_ | refine below_drewN ?_ _ | refine bs ?_ (by (try simp) <;> omega))) g8
  clear g8
  obtain ⟨A8, cap8, rfl, -, -, -⟩ := hu.open
  rw [M12.out] at hu ⊢
  have HM := Lib.hid hu
  clear hu
  go_wp2_with fail
  refine (H6.out _ _ _ (hB.below (by repeat (first | exact br _ | assumption | refine ba ?_ | refine bd ?_ | refine below_drewN ?_ _ | refine bs ?_ (by (try simp) <;> omega)))) (HU.out.below G8) HM.out).mono ?_
  rintro e w9 ⟨_, rfl, ⟨u, rfl, hu⟩, g9⟩
  have G9 : Below w3.heap.size w3 w9 := bn G8 g9
  have B9 : Below w.heap.size w w9 := bn (by repeat (first | exact br _ | assumption | refine ba ?_ | refine bd ?_ | refine below_drewN ?_ _ | refine bs ?_ (by (try simp) <;> omega))) g9
  clear g9
  obtain ⟨A9, cap9, rfl, -, -, -⟩ := hu.open
  rw [J24.out] at hu ⊢
  have HJ := Lib.hid hu
  clear hu HM
  go_wp2_with fail
  refine (H7.out _ _ (hB.below (by repeat (first | exact br _ | assumption | refine ba ?_ | refine bd ?_ | refine below_drewN ?_ _ | refine bs ?_ (by (try simp) <;> omega)))) HJ.out).mono ?_
  rintro e w10 ⟨rfl, g10⟩
  have G10 : Below w3.heap.size w3 w10 := bn G9 g10
  have B10 : Below w.heap.size w w10 := bn (by repeat (first | exact br _ | assumption | refine ba ?_ | refine bd ?_ | refine below_drewN ?_ _ | refine bs ?_ (by (try simp) <;> omega))) g10
  clear g10
  clear HJ
  go_wp2_with fail
  refine (H8.out _ _ (hB.below (by repeat (first | exact br _ | assumption | refine ba ?_ | refine bd ?_ | refine below_drewN ?_ _ | refine bs ?_ (by (try simp) <;> omega)))) (HU.out.below G10)).mono ?_
  rintro e w11 ⟨_, rfl, ⟨u, rfl, hu⟩, g11⟩
  have G11 : Below w3.heap.size w3 w11 := bn G10 g11
  have B11 : Below w.heap.size w w11 := bn (by repeat (first | exact br _ | assumption | refine ba ?_ | refine bd ?_ | refine below_drewN ?_ _ | refine bs ?_ (by (try simp) <;> omega))) g11
  clear g11
  obtain ⟨A11, cap11, rfl, -, -, -⟩ := hu.open
  rw [R12.out] at hu ⊢
  clear hu
  go_wp2_with fail
  refine (H9.out _ _ (hB.below (by repeat (first | exact br _ | assumption | refine ba ?_ | refine bd ?_ | refine below_drewN ?_ _ | refine bs ?_ (by (try simp) <;> omega)))) (HU.out.below G11)).mono ?_
  rintro e w12 ⟨_, rfl, ⟨u, rfl, hu⟩, g12⟩
  have G12 : Below w3.heap.size w3 w12 := bn G11 g12
  have B12 : Below w.heap.size w w12 := bn (by repeat (first | exact br _ | assumption | refine ba ?_ | refine bd ?_ | refine below_drewN ?_ _ | refine bs ?_ (by (try simp) <;> omega))) g12
  clear g12
  obtain ⟨A12, cap12, rfl, -, -, -⟩ := hu.open
  rw [T12.out] at hu ⊢
  clear hu
  go_wp2_with fail
  refine (vec_walk _ _ _ _).mono ?_
  rintro e w13 ⟨rfl, g13⟩
  have G13 : Below w3.heap.size w3 w13 := bn G12 g13
  have B13 : Below w.heap.size w w13 := bn (by repeat (first | exact br _ | assumption | refine ba ?_ | refine bd ?_ | refine below_drewN ?_ _ | refine bs ?_ (by (try simp) <;> omega))) g13
  clear g13
  go_wp2_with fail
  refine (vec_walk _ _ _ _).mono ?_
  rintro e w14 ⟨rfl, g14⟩
  have G14 : Below w3.heap.size w3 w14 := bn G13 g14
  have B14 : Below w.heap.size w w14 := bn (by repeat (first | exact br _ | assumption | refine ba ?_ | refine bd ?_ | refine below_drewN ?_ _ | refine bs ?_ (by (try simp) <;> omega))) g14
  clear g14
  go_wp2_with fail
  refine (vec_walk _ _ _ _).mono ?_
  rintro e w15 ⟨rfl, g15⟩
  have G15 : Below w3.heap.size w3 w15 := bn G14 g15
  have B15 : Below w.heap.size w w15 := bn (by repeat (first | exact br _ | assumption | refine ba ?_ | refine bd ?_ | refine below_drewN ?_ _ | refine bs ?_ (by (try simp) <;> omega))) g15
  clear g15
  go_wp2_with fail
  refine (H10.out _ _ (hB.below (by repeat (first | exact br _ | assumption | refine ba ?_ | refine bd ?_ | refine below_drewN ?_ _ | refine bs ?_ (by (try simp) <;> omega)))) (bk_at rfl)).mono ?_
  rintro e w16 ⟨_, rfl, ⟨u, rfl, hu⟩, g16⟩
  have G16 : Below w3.heap.size w3 w16 := bn (ba G15) g16
  have B16 : Below w.heap.size w w16 := bn (by repeat (first | exact br _ | assumption | refine ba ?_ | refine bd ?_ | refine below_drewN ?_ _ | refine bs ?_ (by (try simp) <;> omega))) g16
  clear g16
  obtain ⟨A16, cap16, rfl, -, -, -⟩ := hu.open
  rw [F1.out] at hu ⊢
  clear hu
  go_wp2_with fail
  refine (H11.out _ _ (hB.below (by repeat (first | exact br _ | assumption | refine ba ?_ | refine bd ?_ | refine below_drewN ?_ _ | refine bs ?_ (by (try simp) <;> omega)))) (HU.out.below G16)).mono ?_
  rintro e w17 ⟨rfl, g17⟩
  have G17 : Below w3.heap.size w3 w17 := bn G16 g17
  have B17 : Below w.heap.size w w17 := bn (by repeat (first | exact br _ | assumption | refine ba ?_ | refine bd ?_ | refine below_drewN ?_ _ | refine bs ?_ (by (try simp) <;> omega))) g17
  clear g17
  have hc12 : (12 : Int) ≤ (cap : Int) := by omega
  go_wp2_with fail
  refine (H12.out _ _ (hB.below (by repeat (first | exact br _ | assumption | refine ba ?_ | refine bd ?_ | refine below_drewN ?_ _ | refine bs ?_ (by (try simp) <;> omega)))) (by rw [HB1.out]; exact Ts.tail (HU.out.below G17))).mono ?_
  rintro e w18 ⟨rfl, g18⟩
  have B18 : Below w.heap.size w w18 := bn (by repeat (first | exact br _ | assumption | refine ba ?_ | refine bd ?_ | refine below_drewN ?_ _ | refine bs ?_ (by (try simp) <;> omega))) g18
  clear g18
  go_wp2
  go_ret
  exact ⟨rfl, (by repeat (first | exact br _ | assumption | refine ba ?_ | refine bd ?_ | refine below_drewN ?_ _ | refine bs ?_ (by (try simp) <;> omega)))⟩
end Go.Proofs.YtbnbaokamccmjaaGreatDoor

/- law of chapter 12: awake is true. -/
set_option linter.unusedVariables false
set_option linter.unusedSimpArgs false
namespace Go.Proofs.YtbnbaokamccmjaaGreatDoor
open Go Go.RowKit

theorem valid_txt (L : List (Tr V3)) : (L.map txt).all tvalid = true := by
  rw [List.all_eq_true]
  intro t ht
  obtain ⟨u, _, rfl⟩ := List.mem_map.1 ht
  simp [tvalid, txt, Tr.map, isVec_txv]
theorem open_txt (L : List (Tr V3)) : openT (L.map txt) = openT L := openT_map (f := txv) txv_apart L
theorem chk_ok {L : List (Tr V3)} (h : L.length ≤ 512) (ho : openT L = false) : chkC (L.map txt) = 0 :=
  chkC_ok (by rw [List.length_map]; omega) (valid_txt L) (by rw [open_txt]; exact ho)
theorem chk_op {L : List (Tr V3)} (h : L.length ≤ 512) (ho : openT L = true) : chkC (L.map txt) = 17 :=
  chkC_open (by rw [List.length_map]; omega) (valid_txt L) (by rw [open_txt]; exact ho)
theorem shells_txt (L : List (Tr V3)) : shellsL (L.map txt) = shellsL L := shellsL_map (f := txv) txv_apart L
theorem rtx_one : rtx 1 = ⟨#[49]⟩ := by decide +kernel
theorem rtx_two : rtx 2 = ⟨#[50]⟩ := by decide +kernel
theorem rtx_five : rtx 5 = ⟨#[53]⟩ := by decide +kernel

def lo0 : V3 := ⟨0, 0, 0⟩
def hi0 : V3 := ⟨2, 1, 1⟩
def five : V3 := ⟨5, 0, 0⟩
def box0 : List (Tr V3) := boxT lo0 hi0
def mov0 : List (Tr V3) := box0.map (Tr.map (V3.add · five))
theorem lo0_lt : lo0.lt3 hi0 := by unfold V3.lt3; decide +kernel
theorem box0_len : box0.length = 12 := by decide +kernel
theorem box0_closed : openT box0 = false := boxT_closed lo0_lt.1 lo0_lt.2.1 lo0_lt.2.2
theorem box0_tail : openT box0.tail = true := by decide +kernel
theorem mov0_closed : openT mov0 = false := by decide +kernel
theorem both_closed : openT (box0 ++ mov0) = false := by decide +kernel
theorem both_shells : shellsL (box0 ++ mov0) = 2 := by decide +kernel
theorem box0_shells : shellsL box0 = 1 := boxT_shells lo0_lt.1 lo0_lt.2.1 lo0_lt.2.2
theorem box0_convex : convexL box0 = true := boxT_convex lo0_lt.1 lo0_lt.2.1 lo0_lt.2.2
theorem box0_points : (pointsL box0).length = 8 := by
  unfold box0
  rw [boxT_points lo0_lt.1 lo0_lt.2.1 lo0_lt.2.2, List.length_map, boxI_points]
theorem box0_le : ∀ t ∈ box0, t.a.le 1 ∧ t.b.le 1 ∧ t.c.le 1 := by
  unfold V3.le
  decide +kernel
theorem mov0_le : ∀ t ∈ mov0, t.a.le 1 ∧ t.b.le 1 ∧ t.c.le 1 := by
  unfold V3.le
  decide +kernel
theorem le_up {L : List (Tr V3)} {k m : Nat} (h : ∀ t ∈ L, t.a.le k ∧ t.b.le k ∧ t.c.le k) (hm : k ≤ m) : ∀ t ∈ L, t.a.le m ∧ t.b.le m ∧ t.c.le m :=
  fun t ht => ⟨(h t ht).1.mono hm, (h t ht).2.1.mono hm, (h t ht).2.2.mono hm⟩
theorem VV_lo0 : VV lo0 = .agg #[.string ⟨#[48]⟩, .string ⟨#[48]⟩, .string ⟨#[48]⟩] := by
  rw [VV_eq]; simp only [lo0, rtx_zero]
theorem VV_hi0 : VV hi0 = .agg #[.string ⟨#[50]⟩, .string ⟨#[49]⟩, .string ⟨#[49]⟩] := by
  rw [VV_eq]; simp only [hi0, rtx_one, rtx_two]
theorem VV_five : VV five = .agg #[.string ⟨#[53]⟩, .string ⟨#[48]⟩, .string ⟨#[48]⟩] := by
  rw [VV_eq]; simp only [five, rtx_zero, rtx_five]
theorem five_le : five.le 1000000 := by unfold V3.le; decide +kernel
theorem lo0_le : lo0.le 100000 := by unfold V3.le; decide +kernel
theorem hi0_le : hi0.le 100000 := by unfold V3.le; decide +kernel
def tri0 : List V3 := [⟨0, 0, 0⟩, ⟨1, 0, 0⟩, ⟨0, 1, 0⟩]
theorem tri0_le : ∀ p ∈ tri0, p.le 1 := by unfold V3.le; decide +kernel
theorem tri0_cells : svs (tvs tri0) = [.string ⟨#[48]⟩, .string ⟨#[48]⟩, .string ⟨#[48]⟩, .string ⟨#[49]⟩, .string ⟨#[48]⟩, .string ⟨#[48]⟩, .string ⟨#[48]⟩, .string ⟨#[49]⟩, .string ⟨#[48]⟩] := by
  simp only [tri0, tvs, List.map_cons, List.map_nil, txv, svs, List.flatMap_cons, List.flatMap_nil, SV.cells, rtx_zero, rtx_one]
  rfl

theorem awake_walk (w : World) (hB : Bw w) :
    Calls Tryz.prog 10 #[] w fun e w' => e = .returned (.bool true) ∧ Below w.heap.size w w' := by
  have hb : chkC (box0.map txt) = 0 := chk_ok (by rw [box0_len]; omega) box0_closed
  have hml : mov0.length = 12 := by unfold mov0; rw [List.length_map, box0_len]
  have hm : chkC (mov0.map txt) = 0 := chk_ok (by rw [hml]; omega) mov0_closed
  have hj : chkC ((box0 ++ mov0).map txt) = 0 := chk_ok (by rw [List.length_append, hml, box0_len]; omega) both_closed
  have hbl : tle (box0.map txt) 40000000 := tle_txt (le_up box0_le (show 1 ≤ 1000000 by omega)) (by omega)
  have hmle : tle (mov0.map txt) 40000000 := tle_txt (le_up mov0_le (show 1 ≤ 1000000 by omega)) (by omega)
  have hjl : tle ((box0 ++ mov0).map txt) 40000000 := by
    intro t ht
    rw [List.map_append] at ht
    rcases List.mem_append.1 ht with h | h
    · exact hbl t h
    · exact hmle t h
  refine awake_at (box0.map txt) (mov0.map txt) ((box0 ++ mov0).map txt) ((box0.map txt).map Tr.turn) ((box0.map (fun t => (t.map V3.flip).turn)).map txt) (box0.map txt).tail (fanL (tvs tri0)) (tvs (pointsL box0)) w hB
    (by rw [List.length_map, box0_len]) (by rw [List.length_map, hml]) (by rw [List.length_map, List.length_append, hml, box0_len]) (by rw [List.length_map, List.length_map, box0_len]) (by rw [List.length_map, List.length_map, box0_len]) (by rw [fanL_length]; rfl) (by rw [tvs_length, box0_points]) rfl ?_ ?_ ?_ ?_ ?_ ?_ ?_ ?_ ?_ ?_ ?_ ?_
  · intro w hB
    have := mbox_ok lo0 hi0 lo0_le hi0_le lo0_lt w hB
    rw [VV_lo0, VV_hi0] at this
    exact this
  · intro v w hB hv
    have := mPoints_ok v (box0.map txt) w hB hv hbl hb
    rw [points_txt] at this
    exact this
  · intro v w hB hv
    have := mShells_ok v (box0.map txt) w hB hv hbl hb
    rw [shells_txt, box0_shells] at this
    exact this
  · intro v w hB hv
    have := convex_walk v box0 w hB hv (le_up box0_le (by omega)) hb
    rw [box0_convex] at this
    exact this
  · intro v w hB hv
    have := mMove_ok v box0 five w hB hv (le_up box0_le (by omega)) five_le hb
    rw [VV_five] at this
    exact this
  · intro v1 v2 w hB h1 h2
    have := mJoin_ok v1 v2 (box0.map txt) (mov0.map txt) w hB h1 h2 hbl hmle hb hm (by rw [List.length_map, List.length_map, hml, box0_len]; omega)
    rw [← List.map_append] at this
    exact this
  · intro v w hB hv
    have := mShells_ok v ((box0 ++ mov0).map txt) w hB hv hjl hj
    rw [shells_txt, both_shells] at this
    exact this
  · intro v w hB hv
    exact mReverse_ok v (box0.map txt) w hB hv hbl hb
  · intro v w hB hv
    exact mMirror_ok v box0 w hB hv (le_up box0_le (by omega)) hb
  · intro p w hB hk
    have hv : Vs w (.slice (some ⟨p, 0, none⟩) 3 3) (tvs tri0) := vs_of_bk (by rw [tri0_cells]; exact hk) rfl (by rw [tvs_length]; decide)
    exact mfan_ok (.slice (some ⟨p, 0, none⟩) 3 3) (tvs tri0) w hB hv (tvs_le tri0_le (by omega)) (polC_tvs (by decide) (by decide) (by omega))
  · intro v w hB hv
    have := check_walk v (box0.map txt) w hB hv hbl
    rw [hb] at this
    exact this
  · intro v w hB hv
    have ht : (box0.map txt).tail = box0.tail.map txt := by simp
    rw [ht] at hv
    have h17 : chkC (box0.tail.map txt) = 17 := chk_op (by rw [List.length_tail, box0_len]; omega) box0_tail
    have hle : tle (box0.tail.map txt) 40000000 := by
      rw [← ht]
      exact fun t h => hbl t (List.mem_of_mem_tail h)
    have := check_walk v (box0.tail.map txt) w hB hv hle
    rw [h17] at this
    exact this
end Go.Proofs.YtbnbaokamccmjaaGreatDoor

/- law of chapter 12: few, the closures of MeshBoxes, slices.Contains. -/
set_option linter.unusedVariables false
set_option linter.unusedSimpArgs false
namespace Go.Proofs.YtbnbaokamccmjaaGreatDoor
open Go Go.RowKit

def isFew (s : SV) : Bool := decide (s.x.size ≤ 20) && decide (s.y.size ≤ 20) && decide (s.z.size ≤ 20)
set_option maxHeartbeats 1000000 in
theorem Few_walk (v : Value) (l : List SV) (w : World) (hv : Vs w v l) (hm : l.length ≤ 1000000) :
    Calls Tryz.prog 47 #[v] w fun e w' => e = .returned (.bool (l.all isFew)) ∧ Below w.heap.size w w' := by
  obtain ⟨A, cap, rfl, hn, hc, hcell⟩ := hv.open
  have HCL := Lib.hid hcell
  have HTE := Lib.hid (show l.take l.length = l from List.take_length)
  obtain ⟨n, hn0⟩ : ∃ n, n = l.length := ⟨_, rfl⟩
  have HG := Lib.hid (fun k (hk : k < n) => (show ∃ s, l[k]? = some s from ⟨_, List.getElem?_eq_getElem (by rw [← hn0]; exact hk)⟩))
  rw [← hn0] at hn hm HCL HTE ⊢
  clear hn0 hv hcell
  go_enter Tryz.func47, Tryz.ntmps47
  go_wp2
  go_loopw [3] (fun ii wr => ∃ k : Nat, k ≤ n ∧ ii = .int .i64 k ∧ Hid ((l.take k).all isFew = true) ∧ wr = w) (fun ii _ => n - (intOf ii).toNat)
  case atStart => exact ⟨0, Nat.zero_le _, rfl, Lib.hid rfl, rfl⟩
  case round =>
    obtain ⟨k, hk, rfl, hd, rfl⟩ := hrel
    by_cases hlt : k < n
    · obtain ⟨s, hg⟩ := HG.out k hlt
      obtain ⟨b, off, rfl, hcl⟩ := HCL.out (by omega)
      obtain ⟨c0, c1, c2⟩ := hcl k _ hg
      have HT := Lib.hid (fun (h : isFew s = true) => take_all hg hd.out h)
      have HF : Hid (isFew s = false → l.all isFew = false) := Lib.hid (fun h => List.all_eq_false.2 ⟨s, List.mem_of_getElem? hg, by rw [h]; decide⟩)
      have hk0 : (0 : Int) ≤ (k : Int) := by omega
      have hkn : (k : Int) < (n : Int) := by omega
      clear hg hcl hd
      by_cases h0 : s.x.size ≤ 20
      · have i0 : (s.x.size : Int) ≤ 20 := by omega
        by_cases h1 : s.y.size ≤ 20
        · have i1 : (s.y.size : Int) ≤ 20 := by omega
          by_cases h2 : s.z.size ≤ 20
          · have i2 : (s.z.size : Int) ≤ 20 := by omega
            have E := Lib.hid (HT.out (by simp [isFew, h0, h1, h2]))
            clear HT HF
            go_wp2
            go_roundw
            case rel => exact ⟨k + 1, by omega, by go_num, E, trivial⟩
            case measure => simp [intOf]; omega
          · have i2 : (20 : Int) < (s.z.size : Int) := by omega
            have E := Lib.hid (HF.out (by simp [isFew, h2]))
            clear HT HF
            go_wp2
            go_ret
            exact ⟨by rw [E.out]; rfl, br _⟩
        · have i1 : (20 : Int) < (s.y.size : Int) := by omega
          have E := Lib.hid (HF.out (by simp [isFew, h1]))
          clear HT HF
          go_wp2
          go_ret
          exact ⟨by rw [E.out]; rfl, br _⟩
      · have i0 : (20 : Int) < (s.x.size : Int) := by omega
        have E := Lib.hid (HF.out (by simp [isFew, h0]))
        clear HT HF
        go_wp2
        go_ret
        exact ⟨by rw [E.out]; rfl, br _⟩
    · obtain rfl : k = n := by omega
      rw [HTE.out] at hd
      have E := Lib.hid hd.out
      clear hd
      go_wp2
      go_ret
      exact ⟨by rw [E.out]; rfl, br _⟩

set_option maxHeartbeats 1000000 in
theorem few_walk (v : Value) (l : List SV) (w : World) (hv : Vs w v l) (hm : l.length ≤ 1000000) :
    Calls Tryz.prog 11 #[v] w fun e w' => e = .returned (.bool (l.all isFew)) ∧ Below w.heap.size w w' := by
  have H := Lib.hid (Few_walk v l w hv hm)
  obtain ⟨A, cap, rfl, -, -, -⟩ := hv.open
  clear hv hm
  generalize l.all isFew = r at *
  go_enter Tryz.func11, Tryz.ntmps11
  go_wp2_with fail
  refine H.out.mono ?_
  rintro e w1 ⟨rfl, g1⟩
  go_wp2
  go_ret
  exact ⟨rfl, g1⟩

/-- One of two texts. -/
def oneOf (a b c : ByteArray) : Prop := a = b ∨ a = c
theorem oneOf_iff {a b c : ByteArray} (h : oneOf a b c) : (a.toList == b.toList) = true ∨ ((a.toList == b.toList) = false ∧ (a.toList == c.toList) = true) := by
  rw [toList_beq, toList_beq]
  by_cases h1 : a = b
  · exact .inl (by simp [h1])
  · rcases h with h | h
    · exact absurd h h1
    · exact .inr ⟨by simp [h1], by simp [h]⟩
set_option maxHeartbeats 4000000 in
theorem inside_walk (p1 p2 p3 x1 y1 z1 x2 y2 z2 : ByteArray) (lb hb : Nat) (w : World) (h1 : oneOf p1 x1 x2) (h2 : oneOf p2 y1 y2) (h3 : oneOf p3 z1 z2)
    (c0 : w.cell? ⟨lb, 0, none⟩ = some (.string x1)) (c1 : w.cell? ⟨lb, 1, none⟩ = some (.string y1)) (c2 : w.cell? ⟨lb, 2, none⟩ = some (.string z1))
    (d0 : w.cell? ⟨hb, 0, none⟩ = some (.string x2)) (d1 : w.cell? ⟨hb, 1, none⟩ = some (.string y2)) (d2 : w.cell? ⟨hb, 2, none⟩ = some (.string z2)) :
    Calls Tryz.prog 41 #[.agg #[.string p1, .string p2, .string p3], .pointer (some ⟨lb, 0, none⟩), .pointer (some ⟨hb, 0, none⟩)] w fun e w' => e = .returned (.bool true) ∧ Below w.heap.size w w' := by
  have l1 := World.block_lt_of_cell? w _ c0
  have l2 := World.block_lt_of_cell? w _ d0
  rcases oneOf_iff h1 with a1 | ⟨a1, a2⟩ <;> rcases oneOf_iff h2 with b1 | ⟨b1, b2⟩ <;> rcases oneOf_iff h3 with e1 | ⟨e1, e2⟩
  all_goals
    clear h1 h2 h3
    go_enter Tryz.func41, Tryz.ntmps41
    go_wp2
    go_ret
    exact ⟨rfl, (by repeat (first | exact br _ | assumption | refine ba ?_ | refine bd ?_ | refine below_drewN ?_ _ | refine bs ?_ (by (try simp) <;> omega)))⟩

def insV (lb hb : Nat) : Value := .func (.func 41) #[] #[.pointer (some ⟨lb, 0, none⟩), .pointer (some ⟨hb, 0, none⟩)]
/-- The memory that 'inside' reads. -/
structure IB (w : World) (ib lb hb : Nat) (a b : SV) : Prop where
  f : w.cell? ⟨ib, 0, none⟩ = some (insV lb hb)
  c0 : w.cell? ⟨lb, 0, none⟩ = some (.string a.x)
  c1 : w.cell? ⟨lb, 1, none⟩ = some (.string a.y)
  c2 : w.cell? ⟨lb, 2, none⟩ = some (.string a.z)
  d0 : w.cell? ⟨hb, 0, none⟩ = some (.string b.x)
  d1 : w.cell? ⟨hb, 1, none⟩ = some (.string b.y)
  d2 : w.cell? ⟨hb, 2, none⟩ = some (.string b.z)
theorem IB.below {w w1 : World} {ib lb hb : Nat} {a b : SV} (h : IB w ib lb hb a b) (g : Below w.heap.size w w1) : IB w1 ib lb hb a b :=
  ⟨bc g h.f, bc g h.c0, bc g h.c1, bc g h.c2, bc g h.d0, bc g h.d1, bc g h.d2⟩
def inBox (a b p : SV) : Prop := oneOf p.x a.x b.x ∧ oneOf p.y a.y b.y ∧ oneOf p.z a.z b.z
set_option maxHeartbeats 1000000 in
theorem outside_walk (a b p : SV) (ib lb hb : Nat) (w : World) (hp : inBox a b p) (hI : IB w ib lb hb a b) :
    Calls Tryz.prog 43 #[.agg #[.string p.x, .string p.y, .string p.z], .pointer (some ⟨ib, 0, none⟩)] w fun e w' => e = .returned (.bool false) ∧ Below w.heap.size w w' := by
  have c := hI.f
  have lt := World.block_lt_of_cell? w _ c
  unfold insV at c
  have H := Lib.hid (fun w1 (g : Below w.heap.size w w1) => inside_walk p.x p.y p.z a.x a.y a.z b.x b.y b.z lb hb w1 hp.1 hp.2.1 hp.2.2 (hI.below g).c0 (hI.below g).c1 (hI.below g).c2 (hI.below g).d0 (hI.below g).d1 (hI.below g).d2)
  clear hI hp
  generalize p.x = p1 at *
  generalize p.y = p2 at *
  generalize p.z = p3 at *
  go_enter Tryz.func43, Tryz.ntmps43
  go_wp2_with fail
  refine (H.out _ (by repeat (first | exact br _ | assumption | refine ba ?_ | refine bd ?_ | refine below_drewN ?_ _ | refine bs ?_ (by (try simp) <;> omega)))).mono ?_
  rintro e w1 ⟨rfl, g1⟩
  have B1 : Below w.heap.size w w1 := bn (by repeat (first | exact br _ | assumption | refine ba ?_ | refine bd ?_ | refine below_drewN ?_ _ | refine bs ?_ (by (try simp) <;> omega))) g1
  clear g1
  go_wp2
  go_ret
  exact ⟨rfl, (by repeat (first | exact br _ | assumption | refine ba ?_ | refine bd ?_ | refine below_drewN ?_ _ | refine bs ?_ (by (try simp) <;> omega)))⟩

set_option maxHeartbeats 1000000 in
theorem indexOut_walk (v : Value) (l : List SV) (a b : SV) (ib lb hb : Nat) (w : World) (hv : Vs w v l) (hs : ∀ s ∈ l, inBox a b s) (hI : IB w ib lb hb a b) :
    Calls Tryz.prog 85 #[v, .func (.func 43) #[] #[.pointer (some ⟨ib, 0, none⟩)]] w fun e w' => e = .returned (.int .i64 (-1)) ∧ Below w.heap.size w w' := by
  obtain ⟨A, cap, rfl, hn, hc, hcell⟩ := hv.open
  have HCL := Lib.hid hcell
  have HI := Lib.hid hI
  have HS := Lib.hid hs
  obtain ⟨n, hn0⟩ : ∃ n, n = l.length := ⟨_, rfl⟩
  have HG := Lib.hid (fun k (hk : k < n) => (show ∃ s, l[k]? = some s from ⟨_, List.getElem?_eq_getElem (by rw [← hn0]; exact hk)⟩))
  rw [← hn0] at hn HCL ⊢
  clear hn0 hv hcell hI hs
  go_enter Tryz.func85, Tryz.ntmps85
  go_wp2
  go_loopw [8] (fun ii wr => ∃ k : Nat, k ≤ n ∧ ii = .int .i64 k ∧ Below w.heap.size w wr) (fun ii _ => n - (intOf ii).toNat)
  case atStart => exact ⟨0, Nat.zero_le _, rfl, Below.refl _ _⟩
  case round =>
    obtain ⟨k, hk, rfl, hbw⟩ := hrel
    by_cases hlt : k < n
    · obtain ⟨s, hg⟩ := HG.out k hlt
      obtain ⟨bb, off, rfl, hcl⟩ := HCL.out (by omega)
      obtain ⟨c0, c1, c2⟩ := hcl k _ hg
      have e0 := cell_below hbw c0
      have e1 := cell_below hbw c1
      have e2 := cell_below hbw c2
      have HO := Lib.hid (fun w1 (g : Below w.heap.size w w1) => outside_walk a b s ib lb hb w1 (HS.out s (List.mem_of_getElem? hg)) (HI.out.below g))
      have hk0 : (0 : Int) ≤ (k : Int) := by omega
      have hkn : (k : Int) < (n : Int) := by omega
      clear hg hcl c0 c1 c2
      generalize s.x = p1 at *
      generalize s.y = p2 at *
      generalize s.z = p3 at *
      go_wp2_with fail
      refine (HO.out _ (by repeat (first | exact br _ | assumption | refine ba ?_ | refine bd ?_ | refine below_drewN ?_ _ | refine bs ?_ (by (try simp) <;> omega)))).mono ?_
      rintro e w1 ⟨rfl, g1⟩
      have B1 : Below w.heap.size w w1 := bn (by repeat (first | exact br _ | assumption | refine ba ?_ | refine bd ?_ | refine below_drewN ?_ _ | refine bs ?_ (by (try simp) <;> omega))) g1
      clear g1
      go_wp2
      go_roundw
      case rel => exact ⟨k + 1, by omega, by go_num, (by repeat (first | exact br _ | assumption | refine ba ?_ | refine bd ?_ | refine below_drewN ?_ _ | refine bs ?_ (by (try simp) <;> omega)))⟩
      case measure => simp [intOf]; omega
    · obtain rfl : k = n := by omega
      go_wp2
      go_ret
      exact ⟨rfl, (by repeat (first | exact br _ | assumption | refine ba ?_ | refine bd ?_ | refine below_drewN ?_ _ | refine bs ?_ (by (try simp) <;> omega)))⟩
set_option maxHeartbeats 1000000 in
theorem anyOut_walk (v : Value) (l : List SV) (a b : SV) (ib lb hb : Nat) (w : World) (hv : Vs w v l) (hs : ∀ s ∈ l, inBox a b s) (hI : IB w ib lb hb a b) :
    Calls Tryz.prog 42 #[v, .func (.func 43) #[] #[.pointer (some ⟨ib, 0, none⟩)]] w fun e w' => e = .returned (.bool false) ∧ Below w.heap.size w w' := by
  have H := Lib.hid (indexOut_walk v l a b ib lb hb w hv hs hI)
  obtain ⟨A, cap, rfl, -, -, -⟩ := hv.open
  clear hv hs hI
  go_enter Tryz.func42, Tryz.ntmps42
  go_wp2_with fail
  refine H.out.mono ?_
  rintro e w1 ⟨rfl, g1⟩
  go_wp2
  go_ret
  exact ⟨rfl, g1⟩

set_option maxHeartbeats 1000000 in
theorem indexVec_walk (v : Value) (l : List SV) (s : SV) (w : World) (hv : Vs w v l) (hs : s ∈ l) :
    Calls Tryz.prog 86 #[v, .agg #[.string s.x, .string s.y, .string s.z]] w (Ret fun r w' => (∃ k : Nat, r = .int .i64 k ∧ k ≤ 9223372036854775807) ∧ Below w.heap.size w w') := by
  obtain ⟨A, cap, rfl, hn, hc, hcell⟩ := hv.open
  have HCL := Lib.hid hcell
  have HS := Lib.hid hs
  obtain ⟨n, hn0⟩ : ∃ n, n = l.length := ⟨_, rfl⟩
  have HG := Lib.hid (fun k (hk : k < n) => (show ∃ s, l[k]? = some s from ⟨_, List.getElem?_eq_getElem (by rw [← hn0]; exact hk)⟩))
  have HTE := Lib.hid (show l.take n = l from by rw [hn0]; exact List.take_length)
  rw [← hn0] at hn HCL ⊢
  clear hn0 hv hcell hs
  go_enter Tryz.func86, Tryz.ntmps86
  go_wp2
  obtain ⟨W, hW⟩ : ∃ W, W = w.alloc (.cells #[.string s.x, .string s.y, .string s.z] 25) := ⟨_, rfl⟩
  have p0 : W.cell? ⟨w.heap.size, 0, none⟩ = some (.string s.x) := by rw [hW]; go_simp
  have p1 : W.cell? ⟨w.heap.size, 1, none⟩ = some (.string s.y) := by rw [hW]; go_simp
  have p2 : W.cell? ⟨w.heap.size, 2, none⟩ = some (.string s.z) := by rw [hW]; go_simp
  have bW : Below w.heap.size w W := by rw [hW]; exact ba (br w)
  rw [← hW]
  clear hW
  go_loopw [8] (fun ii wr => ∃ k : Nat, k ≤ n ∧ ii = .int .i64 k ∧ Hid (∀ x ∈ l.take k, x ≠ s) ∧ Below W.heap.size W wr) (fun ii _ => n - (intOf ii).toNat)
  case atStart => exact ⟨0, Nat.zero_le _, rfl, Lib.hid (by simp), Below.refl _ _⟩
  case round =>
    obtain ⟨k, hk, rfl, hd, hb2⟩ := hrel
    have hbw : Below w.heap.size w wr := bn bW hb2
    by_cases hlt : k < n
    · obtain ⟨t, hg⟩ := HG.out k hlt
      obtain ⟨bb, off, rfl, hcl⟩ := HCL.out (by omega)
      obtain ⟨c0, c1, c2⟩ := hcl k _ hg
      have e0 := cell_below hbw c0
      have e1 := cell_below hbw c1
      have e2 := cell_below hbw c2
      have z0 := cell_below hb2 p0
      have z1 := cell_below hb2 p1
      have z2 := cell_below hb2 p2
      have hk0 : (0 : Int) ≤ (k : Int) := by omega
      have hkn : (k : Int) < (n : Int) := by omega
      have HB2 := Lib.hid hb2
      have HD : Hid (t ≠ s → ∀ x ∈ l.take (k + 1), x ≠ s) := Lib.hid (fun hne x hx => by
        have hlt3 : k < l.length := (List.getElem?_eq_some_iff.1 hg).1
        have e : l[k] = t := (List.getElem?_eq_some_iff.1 hg).2
        rw [List.take_succ_eq_append_getElem hlt3, e] at hx
        rcases List.mem_append.1 hx with hx | hx
        · exact hd.out x hx
        · simp at hx
          rw [hx]
          exact hne)
      have nq : ∀ w, (binOp .eql 25 (.agg #[.string s.x, .string s.y, .string s.z]) (.agg #[.string t.x, .string t.y, .string t.z])).run Tryz.prog w = .ok (.bool (decide (s = t))) w := fun w => by
        have := eql_vec s.x s.y s.z t.x t.y t.z w
        rw [sv_eq] at this
        exact this
      clear hg hcl c0 c1 c2 hd
      by_cases hst : s = t
      · rw [decide_eq_true hst] at nq
        clear HD hst
        go_wp2
        go_region_held3 (fun w' => w'.cell? ⟨w.heap.size, 0, none⟩ = some (.string s.x) ∧ w'.cell? ⟨w.heap.size, 1, none⟩ = some (.string s.y) ∧ w'.cell? ⟨w.heap.size, 2, none⟩ = some (.string s.z) ∧ w'.cell? ⟨bb, off + k * 3, none⟩ = some (.string t.x) ∧ w'.cell? ⟨bb, off + k * 3 + 1, none⟩ = some (.string t.y) ∧ w'.cell? ⟨bb, off + k * 3 + 2, none⟩ = some (.string t.z)) (go_keep) (fail)
        go_wp2
        go_ret
        exact ⟨_, rfl, ⟨k, rfl, by omega⟩, (by repeat (first | exact br _ | assumption | refine ba ?_ | refine bd ?_ | refine below_drewN ?_ _ | refine bs ?_ (by (try simp) <;> omega)))⟩
      · rw [decide_eq_false hst] at nq
        have E := Lib.hid (HD.out (fun e => hst e.symm))
        clear HD hst
        go_wp2
        go_region_held3 (fun w' => w'.cell? ⟨w.heap.size, 0, none⟩ = some (.string s.x) ∧ w'.cell? ⟨w.heap.size, 1, none⟩ = some (.string s.y) ∧ w'.cell? ⟨w.heap.size, 2, none⟩ = some (.string s.z) ∧ w'.cell? ⟨bb, off + k * 3, none⟩ = some (.string t.x) ∧ w'.cell? ⟨bb, off + k * 3 + 1, none⟩ = some (.string t.y) ∧ w'.cell? ⟨bb, off + k * 3 + 2, none⟩ = some (.string t.z)) (go_keep) (fail)
        go_wp2
        go_roundw
        case rel => exact ⟨k + 1, by omega, by go_num, E, (by repeat (first | exact br _ | assumption | refine ba ?_ | refine bd ?_ | refine below_drewN ?_ _ | refine bs ?_ (by (try simp) <;> omega)))⟩
        case measure => simp [intOf]; omega
    · obtain rfl : k = n := by omega
      rw [HTE.out] at hd
      exact absurd rfl (hd.out s HS.out)
set_option maxHeartbeats 1000000 in
theorem hasVec_walk (v : Value) (l : List SV) (s : SV) (w : World) (hv : Vs w v l) (hs : s ∈ l) :
    Calls Tryz.prog 44 #[v, .agg #[.string s.x, .string s.y, .string s.z]] w fun e w' => e = .returned (.bool true) ∧ Below w.heap.size w w' := by
  have H := Lib.hid (fun w hv => indexVec_walk v l s w hv hs)
  obtain ⟨A, cap, rfl, -, -, -⟩ := hv.open
  clear hs
  generalize s.x = p1 at *
  generalize s.y = p2 at *
  generalize s.z = p3 at *
  go_enter Tryz.func44, Tryz.ntmps44
  go_wp2_with fail
  refine (H.out _ (hv.below (by repeat (first | exact br _ | assumption | refine ba ?_ | refine bd ?_ | refine below_drewN ?_ _ | refine bs ?_ (by (try simp) <;> omega))))).mono ?_
  rintro e w1 ⟨_, rfl, ⟨k, rfl, hk⟩, g1⟩
  have B1 : Below w.heap.size w w1 := bn (by repeat (first | exact br _ | assumption | refine ba ?_ | refine bd ?_ | refine below_drewN ?_ _ | refine bs ?_ (by (try simp) <;> omega))) g1
  clear g1
  have hk0 : (0 : Int) ≤ (k : Int) := by omega
  go_wp2
  go_ret
  exact ⟨by simp, (by repeat (first | exact br _ | assumption | refine ba ?_ | refine bd ?_ | refine below_drewN ?_ _ | refine bs ?_ (by (try simp) <;> omega)))⟩
end Go.Proofs.YtbnbaokamccmjaaGreatDoor

/- law of chapter 12: MeshBoxes is true. -/
set_option linter.unusedVariables false
set_option linter.unusedSimpArgs false
namespace Go.Proofs.YtbnbaokamccmjaaGreatDoor
open Go Go.RowKit

set_option maxHeartbeats 1000000 in
theorem boxes_many (x1 y1 z1 x2 y2 z2 : ByteArray) (w : World) (hB : Bw w)
    (h1 : ∀ p w, Bk w p [.string x1, .string y1, .string z1, .string x2, .string y2, .string z2] → Calls Tryz.prog 11 #[.slice (some ⟨p, 0, none⟩) 2 2] w fun e w' => e = .returned (.bool false) ∧ Below w.heap.size w w') :
    Calls Tryz.prog 8 #[.agg #[.string x1, .string y1, .string z1], .agg #[.string x2, .string y2, .string z2]] w fun e w' => e = .returned (.bool true) ∧ Below w.heap.size w w' := by
  have H0 := Lib.hid (fun w hB => awake_walk w hB)
  have H1 := Lib.hid h1
  clear h1
  go_enter Tryz.func8, Tryz.ntmps8
  go_wp2_with fail
  refine (H0.out _ (hB.below (by repeat (first | exact br _ | assumption | refine ba ?_ | refine bd ?_ | refine below_drewN ?_ _ | refine bs ?_ (by (try simp) <;> omega))))).mono ?_
  rintro e w1 ⟨rfl, g1⟩
  have hz1 : w.heap.size + 1 < w1.heap.size := by have := g1.size; (try simp at this); omega
  have hz1_0 : w.heap.size < w1.heap.size := by omega
  have B1 : Below w.heap.size w w1 := bn (by repeat (first | exact br _ | assumption | refine ba ?_ | refine bd ?_ | refine below_drewN ?_ _ | refine bs ?_ (by (try simp) <;> omega))) g1
  have c1_0_0 : w1.cell? ⟨w.heap.size, 0, none⟩ = some (.string x1) := bc g1 (by first | with_reducible assumption | go_simp)
  have f1_0_0 : w1.frozen? ⟨w.heap.size, 0, none⟩ = false := bfz g1 (by (try simp) <;> omega) (by first | with_reducible assumption | go_simp)
  have c1_0_1 : w1.cell? ⟨w.heap.size, 1, none⟩ = some (.string y1) := bc g1 (by first | with_reducible assumption | go_simp)
  have f1_0_1 : w1.frozen? ⟨w.heap.size, 1, none⟩ = false := bfz g1 (by (try simp) <;> omega) (by first | with_reducible assumption | go_simp)
  have c1_0_2 : w1.cell? ⟨w.heap.size, 2, none⟩ = some (.string z1) := bc g1 (by first | with_reducible assumption | go_simp)
  have f1_0_2 : w1.frozen? ⟨w.heap.size, 2, none⟩ = false := bfz g1 (by (try simp) <;> omega) (by first | with_reducible assumption | go_simp)
  have c1_1_0 : w1.cell? ⟨w.heap.size + 1, 0, none⟩ = some (.string x2) := bc g1 (by first | with_reducible assumption | go_simp)
  have f1_1_0 : w1.frozen? ⟨w.heap.size + 1, 0, none⟩ = false := bfz g1 (by (try simp) <;> omega) (by first | with_reducible assumption | go_simp)
  have c1_1_1 : w1.cell? ⟨w.heap.size + 1, 1, none⟩ = some (.string y2) := bc g1 (by first | with_reducible assumption | go_simp)
  have f1_1_1 : w1.frozen? ⟨w.heap.size + 1, 1, none⟩ = false := bfz g1 (by (try simp) <;> omega) (by first | with_reducible assumption | go_simp)
  have c1_1_2 : w1.cell? ⟨w.heap.size + 1, 2, none⟩ = some (.string z2) := bc g1 (by first | with_reducible assumption | go_simp)
  have f1_1_2 : w1.frozen? ⟨w.heap.size + 1, 2, none⟩ = false := bfz g1 (by (try simp) <;> omega) (by first | with_reducible assumption | go_simp)
  clear g1
  go_wp2_with fail
  refine (H1.out _ _ (bk_at rfl)).mono ?_
  rintro e w2 ⟨rfl, g2⟩
  have B2 : Below w.heap.size w w2 := bn (by repeat (first | exact br _ | assumption | refine ba ?_ | refine bd ?_ | refine below_drewN ?_ _ | refine bs ?_ (by (try simp) <;> omega))) g2
  clear g2
  go_wp2_with fail
  refine (H0.out _ (hB.below (by repeat (first | exact br _ | assumption | refine ba ?_ | refine bd ?_ | refine below_drewN ?_ _ | refine bs ?_ (by (try simp) <;> omega))))).mono ?_
  rintro e w3 ⟨rfl, g3⟩
  have B3 : Below w.heap.size w w3 := bn (by repeat (first | exact br _ | assumption | refine ba ?_ | refine bd ?_ | refine below_drewN ?_ _ | refine bs ?_ (by (try simp) <;> omega))) g3
  clear g3
  go_wp2
  go_ret
  exact ⟨rfl, (by repeat (first | exact br _ | assumption | refine ba ?_ | refine bd ?_ | refine below_drewN ?_ _ | refine bs ?_ (by (try simp) <;> omega)))⟩

set_option maxHeartbeats 1000000 in
theorem boxes_none (x1 y1 z1 x2 y2 z2 : ByteArray) (r1 r2 : Bool) (z : Int) (w : World) (hB : Bw w) (hz : z = if (r1 && r2) then 2 else 1)
    (h1 : ∀ p w, Bk w p [.string x1, .string y1, .string z1, .string x2, .string y2, .string z2] → Calls Tryz.prog 11 #[.slice (some ⟨p, 0, none⟩) 2 2] w fun e w' => e = .returned (.bool true) ∧ Below w.heap.size w w')
    (h2 : ∀ w, Bw w → Calls Tryz.prog 17 #[.agg #[.string x1, .string y1, .string z1], .agg #[.string x2, .string y2, .string z2]] w fun e w' => e = .returned (.tuple #[.slice none 0 0, .int .i64 z]) ∧ Below w.heap.size w w')
    (h3 : ∀ w, Bw w → Calls Tryz.prog 33 #[.agg #[.string x1, .string y1, .string z1]] w fun e w' => e = .returned (.bool r1) ∧ Below w.heap.size w w')
    (h4 : ∀ w, Bw w → Calls Tryz.prog 33 #[.agg #[.string x2, .string y2, .string z2]] w fun e w' => e = .returned (.bool r2) ∧ Below w.heap.size w w') :
    Calls Tryz.prog 8 #[.agg #[.string x1, .string y1, .string z1], .agg #[.string x2, .string y2, .string z2]] w fun e w' => e = .returned (.bool true) ∧ Below w.heap.size w w' := by
  have H0 := Lib.hid (fun w hB => awake_walk w hB)
  have H1 := Lib.hid h1
  have H2 := Lib.hid h2
  have H3 := Lib.hid h3
  have H4 := Lib.hid h4
  clear h1 h2 h3 h4
  cases r1 <;> cases r2 <;> simp only [Bool.and_true, Bool.and_false, Bool.false_eq_true, if_false, if_true] at hz <;> subst hz
  all_goals
    go_enter Tryz.func8, Tryz.ntmps8
    go_wp2_with fail
    refine (H0.out _ (hB.below (by repeat (first | exact br _ | assumption | refine ba ?_ | refine bd ?_ | refine below_drewN ?_ _ | refine bs ?_ (by (try simp) <;> omega))))).mono ?_
    rintro e w1 ⟨rfl, g1⟩
    have hz1 : w.heap.size + 1 < w1.heap.size := by have := g1.size; (try simp at this); omega
    have hz1_0 : w.heap.size < w1.heap.size := by omega
    have B1 : Below w.heap.size w w1 := bn (by repeat (first | exact br _ | assumption | refine ba ?_ | refine bd ?_ | refine below_drewN ?_ _ | refine bs ?_ (by (try simp) <;> omega))) g1
    have c1_0_0 : w1.cell? ⟨w.heap.size, 0, none⟩ = some (.string x1) := bc g1 (by first | with_reducible assumption | go_simp)
    have f1_0_0 : w1.frozen? ⟨w.heap.size, 0, none⟩ = false := bfz g1 (by (try simp) <;> omega) (by first | with_reducible assumption | go_simp)
    have c1_0_1 : w1.cell? ⟨w.heap.size, 1, none⟩ = some (.string y1) := bc g1 (by first | with_reducible assumption | go_simp)
    have f1_0_1 : w1.frozen? ⟨w.heap.size, 1, none⟩ = false := bfz g1 (by (try simp) <;> omega) (by first | with_reducible assumption | go_simp)
    have c1_0_2 : w1.cell? ⟨w.heap.size, 2, none⟩ = some (.string z1) := bc g1 (by first | with_reducible assumption | go_simp)
    have f1_0_2 : w1.frozen? ⟨w.heap.size, 2, none⟩ = false := bfz g1 (by (try simp) <;> omega) (by first | with_reducible assumption | go_simp)
    have c1_1_0 : w1.cell? ⟨w.heap.size + 1, 0, none⟩ = some (.string x2) := bc g1 (by first | with_reducible assumption | go_simp)
    have f1_1_0 : w1.frozen? ⟨w.heap.size + 1, 0, none⟩ = false := bfz g1 (by (try simp) <;> omega) (by first | with_reducible assumption | go_simp)
    have c1_1_1 : w1.cell? ⟨w.heap.size + 1, 1, none⟩ = some (.string y2) := bc g1 (by first | with_reducible assumption | go_simp)
    have f1_1_1 : w1.frozen? ⟨w.heap.size + 1, 1, none⟩ = false := bfz g1 (by (try simp) <;> omega) (by first | with_reducible assumption | go_simp)
    have c1_1_2 : w1.cell? ⟨w.heap.size + 1, 2, none⟩ = some (.string z2) := bc g1 (by first | with_reducible assumption | go_simp)
    have f1_1_2 : w1.frozen? ⟨w.heap.size + 1, 2, none⟩ = false := bfz g1 (by (try simp) <;> omega) (by first | with_reducible assumption | go_simp)
    clear g1
    go_wp2_with fail
    refine (H1.out _ _ (bk_at rfl)).mono ?_
    rintro e w2 ⟨rfl, g2⟩
    have hz2 : w.heap.size + 1 < w2.heap.size := by have := g2.size; (try simp at this); omega
    have hz2_0 : w.heap.size < w2.heap.size := by omega
    have B2 : Below w.heap.size w w2 := bn (by repeat (first | exact br _ | assumption | refine ba ?_ | refine bd ?_ | refine below_drewN ?_ _ | refine bs ?_ (by (try simp) <;> omega))) g2
    have c2_0_0 : w2.cell? ⟨w.heap.size, 0, none⟩ = some (.string x1) := bc g2 (by first | with_reducible assumption | go_simp)
    have f2_0_0 : w2.frozen? ⟨w.heap.size, 0, none⟩ = false := bfz g2 (by (try simp) <;> omega) (by first | with_reducible assumption | go_simp)
    have c2_0_1 : w2.cell? ⟨w.heap.size, 1, none⟩ = some (.string y1) := bc g2 (by first | with_reducible assumption | go_simp)
    have f2_0_1 : w2.frozen? ⟨w.heap.size, 1, none⟩ = false := bfz g2 (by (try simp) <;> omega) (by first | with_reducible assumption | go_simp)
    have c2_0_2 : w2.cell? ⟨w.heap.size, 2, none⟩ = some (.string z1) := bc g2 (by first | with_reducible assumption | go_simp)
    have f2_0_2 : w2.frozen? ⟨w.heap.size, 2, none⟩ = false := bfz g2 (by (try simp) <;> omega) (by first | with_reducible assumption | go_simp)
    have c2_1_0 : w2.cell? ⟨w.heap.size + 1, 0, none⟩ = some (.string x2) := bc g2 (by first | with_reducible assumption | go_simp)
    have f2_1_0 : w2.frozen? ⟨w.heap.size + 1, 0, none⟩ = false := bfz g2 (by (try simp) <;> omega) (by first | with_reducible assumption | go_simp)
    have c2_1_1 : w2.cell? ⟨w.heap.size + 1, 1, none⟩ = some (.string y2) := bc g2 (by first | with_reducible assumption | go_simp)
    have f2_1_1 : w2.frozen? ⟨w.heap.size + 1, 1, none⟩ = false := bfz g2 (by (try simp) <;> omega) (by first | with_reducible assumption | go_simp)
    have c2_1_2 : w2.cell? ⟨w.heap.size + 1, 2, none⟩ = some (.string z2) := bc g2 (by first | with_reducible assumption | go_simp)
    have f2_1_2 : w2.frozen? ⟨w.heap.size + 1, 2, none⟩ = false := bfz g2 (by (try simp) <;> omega) (by first | with_reducible assumption | go_simp)
    clear g2
    go_wp2_with fail
    refine (H2.out _ (hB.below (by repeat (first | exact br _ | assumption | refine ba ?_ | refine bd ?_ | refine below_drewN ?_ _ | refine bs ?_ (by (try simp) <;> omega))))).mono ?_
    rintro e w3 ⟨rfl, g3⟩
    have hz3 : w.heap.size + 1 < w3.heap.size := by have := g3.size; (try simp at this); omega
    have hz3_0 : w.heap.size < w3.heap.size := by omega
    have B3 : Below w.heap.size w w3 := bn (by repeat (first | exact br _ | assumption | refine ba ?_ | refine bd ?_ | refine below_drewN ?_ _ | refine bs ?_ (by (try simp) <;> omega))) g3
    have c3_0_0 : w3.cell? ⟨w.heap.size, 0, none⟩ = some (.string x1) := bc g3 (by first | with_reducible assumption | go_simp)
    have f3_0_0 : w3.frozen? ⟨w.heap.size, 0, none⟩ = false := bfz g3 (by (try simp) <;> omega) (by first | with_reducible assumption | go_simp)
    have c3_0_1 : w3.cell? ⟨w.heap.size, 1, none⟩ = some (.string y1) := bc g3 (by first | with_reducible assumption | go_simp)
    have f3_0_1 : w3.frozen? ⟨w.heap.size, 1, none⟩ = false := bfz g3 (by (try simp) <;> omega) (by first | with_reducible assumption | go_simp)
    have c3_0_2 : w3.cell? ⟨w.heap.size, 2, none⟩ = some (.string z1) := bc g3 (by first | with_reducible assumption | go_simp)
    have f3_0_2 : w3.frozen? ⟨w.heap.size, 2, none⟩ = false := bfz g3 (by (try simp) <;> omega) (by first | with_reducible assumption | go_simp)
    have c3_1_0 : w3.cell? ⟨w.heap.size + 1, 0, none⟩ = some (.string x2) := bc g3 (by first | with_reducible assumption | go_simp)
    have f3_1_0 : w3.frozen? ⟨w.heap.size + 1, 0, none⟩ = false := bfz g3 (by (try simp) <;> omega) (by first | with_reducible assumption | go_simp)
    have c3_1_1 : w3.cell? ⟨w.heap.size + 1, 1, none⟩ = some (.string y2) := bc g3 (by first | with_reducible assumption | go_simp)
    have f3_1_1 : w3.frozen? ⟨w.heap.size + 1, 1, none⟩ = false := bfz g3 (by (try simp) <;> omega) (by first | with_reducible assumption | go_simp)
    have c3_1_2 : w3.cell? ⟨w.heap.size + 1, 2, none⟩ = some (.string z2) := bc g3 (by first | with_reducible assumption | go_simp)
    have f3_1_2 : w3.frozen? ⟨w.heap.size + 1, 2, none⟩ = false := bfz g3 (by (try simp) <;> omega) (by first | with_reducible assumption | go_simp)
    clear g3
    go_wp2_with fail
    refine (H3.out _ (hB.below (by repeat (first | exact br _ | assumption | refine ba ?_ | refine bd ?_ | refine below_drewN ?_ _ | refine bs ?_ (by (try simp) <;> omega))))).mono ?_
    rintro e w4 ⟨rfl, g4⟩
    have hz4 : w.heap.size + 1 < w4.heap.size := by have := g4.size; (try simp at this); omega
    have hz4_0 : w.heap.size < w4.heap.size := by omega
    have B4 : Below w.heap.size w w4 := bn (by repeat (first | exact br _ | assumption | refine ba ?_ | refine bd ?_ | refine below_drewN ?_ _ | refine bs ?_ (by (try simp) <;> omega))) g4
    have c4_0_0 : w4.cell? ⟨w.heap.size, 0, none⟩ = some (.string x1) := bc g4 (by first | with_reducible assumption | go_simp)
    have f4_0_0 : w4.frozen? ⟨w.heap.size, 0, none⟩ = false := bfz g4 (by (try simp) <;> omega) (by first | with_reducible assumption | go_simp)
    have c4_0_1 : w4.cell? ⟨w.heap.size, 1, none⟩ = some (.string y1) := bc g4 (by first | with_reducible assumption | go_simp)
    have f4_0_1 : w4.frozen? ⟨w.heap.size, 1, none⟩ = false := bfz g4 (by (try simp) <;> omega) (by first | with_reducible assumption | go_simp)
    have c4_0_2 : w4.cell? ⟨w.heap.size, 2, none⟩ = some (.string z1) := bc g4 (by first | with_reducible assumption | go_simp)
    have f4_0_2 : w4.frozen? ⟨w.heap.size, 2, none⟩ = false := bfz g4 (by (try simp) <;> omega) (by first | with_reducible assumption | go_simp)
    have c4_1_0 : w4.cell? ⟨w.heap.size + 1, 0, none⟩ = some (.string x2) := bc g4 (by first | with_reducible assumption | go_simp)
    have f4_1_0 : w4.frozen? ⟨w.heap.size + 1, 0, none⟩ = false := bfz g4 (by (try simp) <;> omega) (by first | with_reducible assumption | go_simp)
    have c4_1_1 : w4.cell? ⟨w.heap.size + 1, 1, none⟩ = some (.string y2) := bc g4 (by first | with_reducible assumption | go_simp)
    have f4_1_1 : w4.frozen? ⟨w.heap.size + 1, 1, none⟩ = false := bfz g4 (by (try simp) <;> omega) (by first | with_reducible assumption | go_simp)
    have c4_1_2 : w4.cell? ⟨w.heap.size + 1, 2, none⟩ = some (.string z2) := bc g4 (by first | with_reducible assumption | go_simp)
    have f4_1_2 : w4.frozen? ⟨w.heap.size + 1, 2, none⟩ = false := bfz g4 (by (try simp) <;> omega) (by first | with_reducible assumption | go_simp)
    clear g4
    first
      | (go_wp2
         go_ret
         exact ⟨rfl, (by repeat (first | exact br _ | assumption | refine ba ?_ | refine bd ?_ | refine below_drewN ?_ _ | refine bs ?_ (by (try simp) <;> omega)))⟩)
      | (go_wp2_with fail
         refine (H4.out _ (hB.below (by repeat (first | exact br _ | assumption | refine ba ?_ | refine bd ?_ | refine below_drewN ?_ _ | refine bs ?_ (by (try simp) <;> omega))))).mono ?_
         rintro e w5 ⟨rfl, g5⟩
         have B5 : Below w.heap.size w w5 := bn B4 g5
         go_wp2
         go_ret
         exact ⟨rfl, B5⟩)

set_option maxHeartbeats 4000000 in
set_option maxRecDepth 100000 in
theorem boxes_some (x1 y1 z1 x2 y2 z2 : ByteArray) (l : List TV) (ps : List SV) (w : World) (hB : Bw w) (n12 : l.length = 12) (p8 : ps.length = 8)
    (h1 : ∀ p w, Bk w p [.string x1, .string y1, .string z1, .string x2, .string y2, .string z2] → Calls Tryz.prog 11 #[.slice (some ⟨p, 0, none⟩) 2 2] w fun e w' => e = .returned (.bool true) ∧ Below w.heap.size w w')
    (h2 : ∀ w, Bw w → Calls Tryz.prog 17 #[.agg #[.string x1, .string y1, .string z1], .agg #[.string x2, .string y2, .string z2]] w (Ret fun r w' => (∃ u, r = .tuple #[u, .int .i64 0] ∧ Ts w' u l) ∧ Below w.heap.size w w'))
    (h3 : ∀ v w, Bw w → Ts w v l → Calls Tryz.prog 35 #[v] w (Ret fun r w' => (∃ u, r = .tuple #[u, .int .i64 0] ∧ Vs w' u ps) ∧ Below w.heap.size w w'))
    (h4 : ∀ v w, Bw w → Ts w v l → Calls Tryz.prog 30 #[v] w fun e w' => e = .returned (.tuple #[.bool true, .int .i64 0]) ∧ Below w.heap.size w w')
    (h5 : ∀ v w, Bw w → Ts w v l → Calls Tryz.prog 32 #[v] w fun e w' => e = .returned (.int .i64 0) ∧ Below w.heap.size w w')
    (h6 : ∀ v ib lb hb w, Vs w v ps → IB w ib lb hb ⟨x1, y1, z1⟩ ⟨x2, y2, z2⟩ → Calls Tryz.prog 42 #[v, .func (.func 43) #[] #[.pointer (some ⟨ib, 0, none⟩)]] w fun e w' => e = .returned (.bool false) ∧ Below w.heap.size w w')
    (h7 : ∀ v w, Vs w v ps → Calls Tryz.prog 44 #[v, .agg #[.string x1, .string y1, .string z1]] w fun e w' => e = .returned (.bool true) ∧ Below w.heap.size w w')
    (h8 : ∀ v w, Vs w v ps → Calls Tryz.prog 44 #[v, .agg #[.string x2, .string y2, .string z2]] w fun e w' => e = .returned (.bool true) ∧ Below w.heap.size w w') :
    Calls Tryz.prog 8 #[.agg #[.string x1, .string y1, .string z1], .agg #[.string x2, .string y2, .string z2]] w fun e w' => e = .returned (.bool true) ∧ Below w.heap.size w w' := by
  have H0 := Lib.hid (fun w hB => awake_walk w hB)
  have H1 := Lib.hid h1
  have H2 := Lib.hid h2
  have H3 := Lib.hid h3
  have H4 := Lib.hid h4
  have H5 := Lib.hid h5
  have H6 := Lib.hid h6
  have H7 := Lib.hid h7
  have H8 := Lib.hid h8
  have N12 := Lib.hid n12
  have P8 := Lib.hid p8
  clear h1 h2 h3 h4 h5 h6 h7 h8 n12 p8
  go_enter Tryz.func8, Tryz.ntmps8
  go_wp2_with fail
  refine (H0.out _ (hB.below (by repeat (first | exact br _ | assumption | refine ba ?_ | refine bd ?_ | refine below_drewN ?_ _ | refine bs ?_ (by (try simp) <;> omega))))).mono ?_
  rintro e w1 ⟨rfl, g1⟩
  have hz1 : w.heap.size + 1 < w1.heap.size := by have := g1.size; (try simp at this); omega
  have hz1_0 : w.heap.size < w1.heap.size := by omega
  have B1 : Below w.heap.size w w1 := bn (by repeat (first | exact br _ | assumption | refine ba ?_ | refine bd ?_ | refine below_drewN ?_ _ | refine bs ?_ (by (try simp) <;> omega))) g1
  have c1_0_0 : w1.cell? ⟨w.heap.size, 0, none⟩ = some (.string x1) := bc g1 (by first | with_reducible assumption | go_simp)
  have f1_0_0 : w1.frozen? ⟨w.heap.size, 0, none⟩ = false := bfz g1 (by (try simp) <;> omega) (by first | with_reducible assumption | go_simp)
  have c1_0_1 : w1.cell? ⟨w.heap.size, 1, none⟩ = some (.string y1) := bc g1 (by first | with_reducible assumption | go_simp)
  have f1_0_1 : w1.frozen? ⟨w.heap.size, 1, none⟩ = false := bfz g1 (by (try simp) <;> omega) (by first | with_reducible assumption | go_simp)
  have c1_0_2 : w1.cell? ⟨w.heap.size, 2, none⟩ = some (.string z1) := bc g1 (by first | with_reducible assumption | go_simp)
  have f1_0_2 : w1.frozen? ⟨w.heap.size, 2, none⟩ = false := bfz g1 (by (try simp) <;> omega) (by first | with_reducible assumption | go_simp)
  have c1_1_0 : w1.cell? ⟨w.heap.size + 1, 0, none⟩ = some (.string x2) := bc g1 (by first | with_reducible assumption | go_simp)
  have f1_1_0 : w1.frozen? ⟨w.heap.size + 1, 0, none⟩ = false := bfz g1 (by (try simp) <;> omega) (by first | with_reducible assumption | go_simp)
  have c1_1_1 : w1.cell? ⟨w.heap.size + 1, 1, none⟩ = some (.string y2) := bc g1 (by first | with_reducible assumption | go_simp)
  have f1_1_1 : w1.frozen? ⟨w.heap.size + 1, 1, none⟩ = false := bfz g1 (by (try simp) <;> omega) (by first | with_reducible assumption | go_simp)
  have c1_1_2 : w1.cell? ⟨w.heap.size + 1, 2, none⟩ = some (.string z2) := bc g1 (by first | with_reducible assumption | go_simp)
  have f1_1_2 : w1.frozen? ⟨w.heap.size + 1, 2, none⟩ = false := bfz g1 (by (try simp) <;> omega) (by first | with_reducible assumption | go_simp)
  clear g1
  go_wp2_with fail
  refine (H1.out _ _ (bk_at rfl)).mono ?_
  rintro e w2 ⟨rfl, g2⟩
  have hz2 : w.heap.size + 1 < w2.heap.size := by have := g2.size; (try simp at this); omega
  have hz2_0 : w.heap.size < w2.heap.size := by omega
  have B2 : Below w.heap.size w w2 := bn (by repeat (first | exact br _ | assumption | refine ba ?_ | refine bd ?_ | refine below_drewN ?_ _ | refine bs ?_ (by (try simp) <;> omega))) g2
  have c2_0_0 : w2.cell? ⟨w.heap.size, 0, none⟩ = some (.string x1) := bc g2 (by first | with_reducible assumption | go_simp)
  have f2_0_0 : w2.frozen? ⟨w.heap.size, 0, none⟩ = false := bfz g2 (by (try simp) <;> omega) (by first | with_reducible assumption | go_simp)
  have c2_0_1 : w2.cell? ⟨w.heap.size, 1, none⟩ = some (.string y1) := bc g2 (by first | with_reducible assumption | go_simp)
  have f2_0_1 : w2.frozen? ⟨w.heap.size, 1, none⟩ = false := bfz g2 (by (try simp) <;> omega) (by first | with_reducible assumption | go_simp)
  have c2_0_2 : w2.cell? ⟨w.heap.size, 2, none⟩ = some (.string z1) := bc g2 (by first | with_reducible assumption | go_simp)
  have f2_0_2 : w2.frozen? ⟨w.heap.size, 2, none⟩ = false := bfz g2 (by (try simp) <;> omega) (by first | with_reducible assumption | go_simp)
  have c2_1_0 : w2.cell? ⟨w.heap.size + 1, 0, none⟩ = some (.string x2) := bc g2 (by first | with_reducible assumption | go_simp)
  have f2_1_0 : w2.frozen? ⟨w.heap.size + 1, 0, none⟩ = false := bfz g2 (by (try simp) <;> omega) (by first | with_reducible assumption | go_simp)
  have c2_1_1 : w2.cell? ⟨w.heap.size + 1, 1, none⟩ = some (.string y2) := bc g2 (by first | with_reducible assumption | go_simp)
  have f2_1_1 : w2.frozen? ⟨w.heap.size + 1, 1, none⟩ = false := bfz g2 (by (try simp) <;> omega) (by first | with_reducible assumption | go_simp)
  have c2_1_2 : w2.cell? ⟨w.heap.size + 1, 2, none⟩ = some (.string z2) := bc g2 (by first | with_reducible assumption | go_simp)
  have f2_1_2 : w2.frozen? ⟨w.heap.size + 1, 2, none⟩ = false := bfz g2 (by (try simp) <;> omega) (by first | with_reducible assumption | go_simp)
  clear g2
  go_wp2_with fail
  refine (H2.out _ (hB.below (by repeat (first | exact br _ | assumption | refine ba ?_ | refine bd ?_ | refine below_drewN ?_ _ | refine bs ?_ (by (try simp) <;> omega))))).mono ?_
  rintro e w3 ⟨_, rfl, ⟨u, rfl, hu⟩, g3⟩
  have hz3 : w.heap.size + 1 < w3.heap.size := by have := g3.size; (try simp at this); omega
  have hz3_0 : w.heap.size < w3.heap.size := by omega
  have B3 : Below w.heap.size w w3 := bn (by repeat (first | exact br _ | assumption | refine ba ?_ | refine bd ?_ | refine below_drewN ?_ _ | refine bs ?_ (by (try simp) <;> omega))) g3
  have c3_0_0 : w3.cell? ⟨w.heap.size, 0, none⟩ = some (.string x1) := bc g3 (by first | with_reducible assumption | go_simp)
  have f3_0_0 : w3.frozen? ⟨w.heap.size, 0, none⟩ = false := bfz g3 (by (try simp) <;> omega) (by first | with_reducible assumption | go_simp)
  have c3_0_1 : w3.cell? ⟨w.heap.size, 1, none⟩ = some (.string y1) := bc g3 (by first | with_reducible assumption | go_simp)
  have f3_0_1 : w3.frozen? ⟨w.heap.size, 1, none⟩ = false := bfz g3 (by (try simp) <;> omega) (by first | with_reducible assumption | go_simp)
  have c3_0_2 : w3.cell? ⟨w.heap.size, 2, none⟩ = some (.string z1) := bc g3 (by first | with_reducible assumption | go_simp)
  have f3_0_2 : w3.frozen? ⟨w.heap.size, 2, none⟩ = false := bfz g3 (by (try simp) <;> omega) (by first | with_reducible assumption | go_simp)
  have c3_1_0 : w3.cell? ⟨w.heap.size + 1, 0, none⟩ = some (.string x2) := bc g3 (by first | with_reducible assumption | go_simp)
  have f3_1_0 : w3.frozen? ⟨w.heap.size + 1, 0, none⟩ = false := bfz g3 (by (try simp) <;> omega) (by first | with_reducible assumption | go_simp)
  have c3_1_1 : w3.cell? ⟨w.heap.size + 1, 1, none⟩ = some (.string y2) := bc g3 (by first | with_reducible assumption | go_simp)
  have f3_1_1 : w3.frozen? ⟨w.heap.size + 1, 1, none⟩ = false := bfz g3 (by (try simp) <;> omega) (by first | with_reducible assumption | go_simp)
  have c3_1_2 : w3.cell? ⟨w.heap.size + 1, 2, none⟩ = some (.string z2) := bc g3 (by first | with_reducible assumption | go_simp)
  have f3_1_2 : w3.frozen? ⟨w.heap.size + 1, 2, none⟩ = false := bfz g3 (by (try simp) <;> omega) (by first | with_reducible assumption | go_simp)
  clear g3
  obtain ⟨A, cap, rfl, -, -, -⟩ := hu.open
  rw [N12.out] at hu ⊢
  have HU := Lib.hid hu
  clear hu
  go_wp2_with fail
  refine (H3.out _ _ (hB.below (by repeat (first | exact br _ | assumption | refine ba ?_ | refine bd ?_ | refine below_drewN ?_ _ | refine bs ?_ (by (try simp) <;> omega)))) HU.out).mono ?_
  rintro e w4 ⟨_, rfl, ⟨u, rfl, hu⟩, g4⟩
  have G4 : Below w3.heap.size w3 w4 := g4
  have hz4 : w.heap.size + 1 < w4.heap.size := by have := g4.size; (try simp at this); omega
  have hz4_0 : w.heap.size < w4.heap.size := by omega
  have B4 : Below w.heap.size w w4 := bn (by repeat (first | exact br _ | assumption | refine ba ?_ | refine bd ?_ | refine below_drewN ?_ _ | refine bs ?_ (by (try simp) <;> omega))) g4
  have c4_0_0 : w4.cell? ⟨w.heap.size, 0, none⟩ = some (.string x1) := bc g4 (by first | with_reducible assumption | go_simp)
  have f4_0_0 : w4.frozen? ⟨w.heap.size, 0, none⟩ = false := bfz g4 (by (try simp) <;> omega) (by first | with_reducible assumption | go_simp)
  have c4_0_1 : w4.cell? ⟨w.heap.size, 1, none⟩ = some (.string y1) := bc g4 (by first | with_reducible assumption | go_simp)
  have f4_0_1 : w4.frozen? ⟨w.heap.size, 1, none⟩ = false := bfz g4 (by (try simp) <;> omega) (by first | with_reducible assumption | go_simp)
  have c4_0_2 : w4.cell? ⟨w.heap.size, 2, none⟩ = some (.string z1) := bc g4 (by first | with_reducible assumption | go_simp)
  have f4_0_2 : w4.frozen? ⟨w.heap.size, 2, none⟩ = false := bfz g4 (by (try simp) <;> omega) (by first | with_reducible assumption | go_simp)
  have c4_1_0 : w4.cell? ⟨w.heap.size + 1, 0, none⟩ = some (.string x2) := bc g4 (by first | with_reducible assumption | go_simp)
  have f4_1_0 : w4.frozen? ⟨w.heap.size + 1, 0, none⟩ = false := bfz g4 (by (try simp) <;> omega) (by first | with_reducible assumption | go_simp)
  have c4_1_1 : w4.cell? ⟨w.heap.size + 1, 1, none⟩ = some (.string y2) := bc g4 (by first | with_reducible assumption | go_simp)
  have f4_1_1 : w4.frozen? ⟨w.heap.size + 1, 1, none⟩ = false := bfz g4 (by (try simp) <;> omega) (by first | with_reducible assumption | go_simp)
  have c4_1_2 : w4.cell? ⟨w.heap.size + 1, 2, none⟩ = some (.string z2) := bc g4 (by first | with_reducible assumption | go_simp)
  have f4_1_2 : w4.frozen? ⟨w.heap.size + 1, 2, none⟩ = false := bfz g4 (by (try simp) <;> omega) (by first | with_reducible assumption | go_simp)
  clear g4
  obtain ⟨A4, cap4, rfl, -, -, -⟩ := hu.open
  rw [P8.out] at hu ⊢
  have HP := Lib.hid hu
  clear hu
  go_wp2_with fail
  refine (H4.out _ _ (hB.below (by repeat (first | exact br _ | assumption | refine ba ?_ | refine bd ?_ | refine below_drewN ?_ _ | refine bs ?_ (by (try simp) <;> omega)))) (HU.out.below G4)).mono ?_
  rintro e w5 ⟨rfl, g5⟩
  have G5 : Below w3.heap.size w3 w5 := bn G4 g5
  have Q5 : Below w4.heap.size w4 w5 := g5
  have hz5 : w.heap.size + 1 < w5.heap.size := by have := g5.size; (try simp at this); omega
  have hz5_0 : w.heap.size < w5.heap.size := by omega
  have B5 : Below w.heap.size w w5 := bn (by repeat (first | exact br _ | assumption | refine ba ?_ | refine bd ?_ | refine below_drewN ?_ _ | refine bs ?_ (by (try simp) <;> omega))) g5
  have c5_0_0 : w5.cell? ⟨w.heap.size, 0, none⟩ = some (.string x1) := bc g5 (by first | with_reducible assumption | go_simp)
  have f5_0_0 : w5.frozen? ⟨w.heap.size, 0, none⟩ = false := bfz g5 (by (try simp) <;> omega) (by first | with_reducible assumption | go_simp)
  have c5_0_1 : w5.cell? ⟨w.heap.size, 1, none⟩ = some (.string y1) := bc g5 (by first | with_reducible assumption | go_simp)
  have f5_0_1 : w5.frozen? ⟨w.heap.size, 1, none⟩ = false := bfz g5 (by (try simp) <;> omega) (by first | with_reducible assumption | go_simp)
  have c5_0_2 : w5.cell? ⟨w.heap.size, 2, none⟩ = some (.string z1) := bc g5 (by first | with_reducible assumption | go_simp)
  have f5_0_2 : w5.frozen? ⟨w.heap.size, 2, none⟩ = false := bfz g5 (by (try simp) <;> omega) (by first | with_reducible assumption | go_simp)
  have c5_1_0 : w5.cell? ⟨w.heap.size + 1, 0, none⟩ = some (.string x2) := bc g5 (by first | with_reducible assumption | go_simp)
  have f5_1_0 : w5.frozen? ⟨w.heap.size + 1, 0, none⟩ = false := bfz g5 (by (try simp) <;> omega) (by first | with_reducible assumption | go_simp)
  have c5_1_1 : w5.cell? ⟨w.heap.size + 1, 1, none⟩ = some (.string y2) := bc g5 (by first | with_reducible assumption | go_simp)
  have f5_1_1 : w5.frozen? ⟨w.heap.size + 1, 1, none⟩ = false := bfz g5 (by (try simp) <;> omega) (by first | with_reducible assumption | go_simp)
  have c5_1_2 : w5.cell? ⟨w.heap.size + 1, 2, none⟩ = some (.string z2) := bc g5 (by first | with_reducible assumption | go_simp)
  have f5_1_2 : w5.frozen? ⟨w.heap.size + 1, 2, none⟩ = false := bfz g5 (by (try simp) <;> omega) (by first | with_reducible assumption | go_simp)
  clear g5
  go_wp2_with fail
  refine (H5.out _ _ (hB.below (by repeat (first | exact br _ | assumption | refine ba ?_ | refine bd ?_ | refine below_drewN ?_ _ | refine bs ?_ (by (try simp) <;> omega)))) (HU.out.below (ba G5))).mono ?_
  rintro e w6 ⟨rfl, g6⟩
  have Q6 : Below w4.heap.size w4 w6 := bn (ba Q5) g6
  have i0 := bc (b := w5.heap.size) (o := 0) (v := insV w.heap.size (w.heap.size + 1)) g6 (by unfold insV; go_simp)
  have hz6 : w.heap.size + 1 < w6.heap.size := by have := g6.size; (try simp at this); omega
  have hz6_0 : w.heap.size < w6.heap.size := by omega
  have B6 : Below w.heap.size w w6 := bn (by repeat (first | exact br _ | assumption | refine ba ?_ | refine bd ?_ | refine below_drewN ?_ _ | refine bs ?_ (by (try simp) <;> omega))) g6
  have c6_0_0 : w6.cell? ⟨w.heap.size, 0, none⟩ = some (.string x1) := bc g6 (by first | with_reducible assumption | go_simp)
  have f6_0_0 : w6.frozen? ⟨w.heap.size, 0, none⟩ = false := bfz g6 (by (try simp) <;> omega) (by first | with_reducible assumption | go_simp)
  have c6_0_1 : w6.cell? ⟨w.heap.size, 1, none⟩ = some (.string y1) := bc g6 (by first | with_reducible assumption | go_simp)
  have f6_0_1 : w6.frozen? ⟨w.heap.size, 1, none⟩ = false := bfz g6 (by (try simp) <;> omega) (by first | with_reducible assumption | go_simp)
  have c6_0_2 : w6.cell? ⟨w.heap.size, 2, none⟩ = some (.string z1) := bc g6 (by first | with_reducible assumption | go_simp)
  have f6_0_2 : w6.frozen? ⟨w.heap.size, 2, none⟩ = false := bfz g6 (by (try simp) <;> omega) (by first | with_reducible assumption | go_simp)
  have c6_1_0 : w6.cell? ⟨w.heap.size + 1, 0, none⟩ = some (.string x2) := bc g6 (by first | with_reducible assumption | go_simp)
  have f6_1_0 : w6.frozen? ⟨w.heap.size + 1, 0, none⟩ = false := bfz g6 (by (try simp) <;> omega) (by first | with_reducible assumption | go_simp)
  have c6_1_1 : w6.cell? ⟨w.heap.size + 1, 1, none⟩ = some (.string y2) := bc g6 (by first | with_reducible assumption | go_simp)
  have f6_1_1 : w6.frozen? ⟨w.heap.size + 1, 1, none⟩ = false := bfz g6 (by (try simp) <;> omega) (by first | with_reducible assumption | go_simp)
  have c6_1_2 : w6.cell? ⟨w.heap.size + 1, 2, none⟩ = some (.string z2) := bc g6 (by first | with_reducible assumption | go_simp)
  have f6_1_2 : w6.frozen? ⟨w.heap.size + 1, 2, none⟩ = false := bfz g6 (by (try simp) <;> omega) (by first | with_reducible assumption | go_simp)
  clear g6
  go_wp2_with fail
  refine (H6.out _ w5.heap.size w.heap.size (w.heap.size + 1) _ (HP.out.below Q6) ⟨i0, c6_0_0, c6_0_1, c6_0_2, c6_1_0, c6_1_1, c6_1_2⟩).mono ?_
  rintro e w7 ⟨rfl, g7⟩
  have Q7 : Below w4.heap.size w4 w7 := bn Q6 g7
  have hz7 : w.heap.size + 1 < w7.heap.size := by have := g7.size; (try simp at this); omega
  have hz7_0 : w.heap.size < w7.heap.size := by omega
  have B7 : Below w.heap.size w w7 := bn (by repeat (first | exact br _ | assumption | refine ba ?_ | refine bd ?_ | refine below_drewN ?_ _ | refine bs ?_ (by (try simp) <;> omega))) g7
  have c7_0_0 : w7.cell? ⟨w.heap.size, 0, none⟩ = some (.string x1) := bc g7 (by first | with_reducible assumption | go_simp)
  have f7_0_0 : w7.frozen? ⟨w.heap.size, 0, none⟩ = false := bfz g7 (by (try simp) <;> omega) (by first | with_reducible assumption | go_simp)
  have c7_0_1 : w7.cell? ⟨w.heap.size, 1, none⟩ = some (.string y1) := bc g7 (by first | with_reducible assumption | go_simp)
  have f7_0_1 : w7.frozen? ⟨w.heap.size, 1, none⟩ = false := bfz g7 (by (try simp) <;> omega) (by first | with_reducible assumption | go_simp)
  have c7_0_2 : w7.cell? ⟨w.heap.size, 2, none⟩ = some (.string z1) := bc g7 (by first | with_reducible assumption | go_simp)
  have f7_0_2 : w7.frozen? ⟨w.heap.size, 2, none⟩ = false := bfz g7 (by (try simp) <;> omega) (by first | with_reducible assumption | go_simp)
  have c7_1_0 : w7.cell? ⟨w.heap.size + 1, 0, none⟩ = some (.string x2) := bc g7 (by first | with_reducible assumption | go_simp)
  have f7_1_0 : w7.frozen? ⟨w.heap.size + 1, 0, none⟩ = false := bfz g7 (by (try simp) <;> omega) (by first | with_reducible assumption | go_simp)
  have c7_1_1 : w7.cell? ⟨w.heap.size + 1, 1, none⟩ = some (.string y2) := bc g7 (by first | with_reducible assumption | go_simp)
  have f7_1_1 : w7.frozen? ⟨w.heap.size + 1, 1, none⟩ = false := bfz g7 (by (try simp) <;> omega) (by first | with_reducible assumption | go_simp)
  have c7_1_2 : w7.cell? ⟨w.heap.size + 1, 2, none⟩ = some (.string z2) := bc g7 (by first | with_reducible assumption | go_simp)
  have f7_1_2 : w7.frozen? ⟨w.heap.size + 1, 2, none⟩ = false := bfz g7 (by (try simp) <;> omega) (by first | with_reducible assumption | go_simp)
  clear g7
  go_wp2_with fail
  refine (H7.out _ _ (HP.out.below Q7)).mono ?_
  rintro e w8 ⟨rfl, g8⟩
  have Q8 : Below w4.heap.size w4 w8 := bn Q7 g8
  have hz8 : w.heap.size + 1 < w8.heap.size := by have := g8.size; (try simp at this); omega
  have hz8_0 : w.heap.size < w8.heap.size := by omega
  have B8 : Below w.heap.size w w8 := bn (by repeat (first | exact br _ | assumption | refine ba ?_ | refine bd ?_ | refine below_drewN ?_ _ | refine bs ?_ (by (try simp) <;> omega))) g8
  have c8_0_0 : w8.cell? ⟨w.heap.size, 0, none⟩ = some (.string x1) := bc g8 (by first | with_reducible assumption | go_simp)
  have f8_0_0 : w8.frozen? ⟨w.heap.size, 0, none⟩ = false := bfz g8 (by (try simp) <;> omega) (by first | with_reducible assumption | go_simp)
  have c8_0_1 : w8.cell? ⟨w.heap.size, 1, none⟩ = some (.string y1) := bc g8 (by first | with_reducible assumption | go_simp)
  have f8_0_1 : w8.frozen? ⟨w.heap.size, 1, none⟩ = false := bfz g8 (by (try simp) <;> omega) (by first | with_reducible assumption | go_simp)
  have c8_0_2 : w8.cell? ⟨w.heap.size, 2, none⟩ = some (.string z1) := bc g8 (by first | with_reducible assumption | go_simp)
  have f8_0_2 : w8.frozen? ⟨w.heap.size, 2, none⟩ = false := bfz g8 (by (try simp) <;> omega) (by first | with_reducible assumption | go_simp)
  have c8_1_0 : w8.cell? ⟨w.heap.size + 1, 0, none⟩ = some (.string x2) := bc g8 (by first | with_reducible assumption | go_simp)
  have f8_1_0 : w8.frozen? ⟨w.heap.size + 1, 0, none⟩ = false := bfz g8 (by (try simp) <;> omega) (by first | with_reducible assumption | go_simp)
  have c8_1_1 : w8.cell? ⟨w.heap.size + 1, 1, none⟩ = some (.string y2) := bc g8 (by first | with_reducible assumption | go_simp)
  have f8_1_1 : w8.frozen? ⟨w.heap.size + 1, 1, none⟩ = false := bfz g8 (by (try simp) <;> omega) (by first | with_reducible assumption | go_simp)
  have c8_1_2 : w8.cell? ⟨w.heap.size + 1, 2, none⟩ = some (.string z2) := bc g8 (by first | with_reducible assumption | go_simp)
  have f8_1_2 : w8.frozen? ⟨w.heap.size + 1, 2, none⟩ = false := bfz g8 (by (try simp) <;> omega) (by first | with_reducible assumption | go_simp)
  clear g8
  go_wp2_with fail
  refine (H8.out _ _ (HP.out.below Q8)).mono ?_
  rintro e w9 ⟨rfl, g9⟩
  have B9 : Below w.heap.size w w9 := bn (by repeat (first | exact br _ | assumption | refine ba ?_ | refine bd ?_ | refine below_drewN ?_ _ | refine bs ?_ (by (try simp) <;> omega))) g9
  clear g9
  go_wp2
  go_ret
  exact ⟨rfl, (by repeat (first | exact br _ | assumption | refine ba ?_ | refine bd ?_ | refine below_drewN ?_ _ | refine bs ?_ (by (try simp) <;> omega)))⟩
end Go.Proofs.YtbnbaokamccmjaaGreatDoor

/- law of chapter 12: MeshBoxes: the row and the card. -/
set_option linter.unusedVariables false
set_option linter.unusedSimpArgs false
namespace Go.Proofs.YtbnbaokamccmjaaGreatDoor
open Go Go.ChangeShapes Go.WideShapes Go.ChangeAt Go.RowKit Go.Joins
open Go.ChangeMaps (open_string shut_string)

theorem rz_few {x : Rat} (h : (rtx x).size ≤ 20) : rz x ≤ 20 := Nat.le_trans (rz_le_size x) h
theorem few_le {A : V3} (h : isFew (txv A) = true) : A.le 20 := by
  simp only [isFew, Bool.and_eq_true, decide_eq_true_eq] at h
  exact ⟨rz_few h.1.1, rz_few h.1.2, rz_few h.2⟩
theorem few_sv {s : SV} (h : isFew s = true) : s.le 40000000 := by
  simp only [isFew, Bool.and_eq_true, decide_eq_true_eq] at h
  exact ⟨Nat.le_trans h.1.1 (by omega), Nat.le_trans h.1.2 (by omega), Nat.le_trans h.2 (by omega)⟩
theorem corner_le {a b : V3} {k : Nat} (ha : a.le k) (hb : b.le k) (i : Fin 8) : (corner a b i).le k := by
  unfold corner V3.le
  refine ⟨?_, ?_, ?_⟩ <;> dsimp only <;> split
  · exact hb.1
  · exact ha.1
  · exact hb.2.1
  · exact ha.2.1
  · exact hb.2.2
  · exact ha.2.2
theorem boxT_le {a b : V3} {k : Nat} (ha : a.le k) (hb : b.le k) : ∀ t ∈ boxT a b, t.a.le k ∧ t.b.le k ∧ t.c.le k := by
  intro t ht
  obtain ⟨u, _, rfl⟩ := List.mem_map.1 ht
  exact ⟨corner_le ha hb _, corner_le ha hb _, corner_le ha hb _⟩
theorem corner_lo (a b : V3) : corner a b 0 = a := rfl
theorem corner_hi (a b : V3) : corner a b 6 = b := rfl
theorem corner_in (a b : V3) (i : Fin 8) : inBox (txv a) (txv b) (txv (corner a b i)) := by
  unfold inBox oneOf corner txv
  dsimp only
  refine ⟨?_, ?_, ?_⟩ <;> split
  · exact .inr rfl
  · exact .inl rfl
  · exact .inr rfl
  · exact .inl rfl
  · exact .inr rfl
  · exact .inl rfl

/-- THE LAW's WALK, WHATEVER THE TWO VECTORS ARE. -/
theorem meshBoxes_walk (a b : SV) (w : World) (hB : Bw w) :
    Calls Tryz.prog 8 #[a.val, b.val] w fun e w' => e = .returned (.bool true) ∧ Below w.heap.size w w' := by
  have hvs : ∀ p w, Bk w p [.string a.x, .string a.y, .string a.z, .string b.x, .string b.y, .string b.z] → Vs w (.slice (some ⟨p, 0, none⟩) 2 2) [a, b] := fun p w h => vs_of_bk h rfl (by simp)
  cases hf : [a, b].all isFew with
  | false =>
    refine boxes_many a.x a.y a.z b.x b.y b.z w hB ?_
    intro p w h
    have := few_walk _ [a, b] w (hvs p w h) (by simp)
    rw [hf] at this
    exact this
  | true =>
    have hfew : ∀ p w, Bk w p [.string a.x, .string a.y, .string a.z, .string b.x, .string b.y, .string b.z] → Calls Tryz.prog 11 #[.slice (some ⟨p, 0, none⟩) 2 2] w fun e w' => e = .returned (.bool true) ∧ Below w.heap.size w w' := by
      intro p w h
      have := few_walk _ [a, b] w (hvs p w h) (by simp)
      rw [hf] at this
      exact this
    simp only [List.all_cons, List.all_nil, Bool.and_true, Bool.and_eq_true] at hf
    obtain ⟨fa, fb⟩ := hf
    have la := few_sv fa
    have lb := few_sv fb
    cases hv : isVec a && isVec b with
    | false =>
      exact boxes_none a.x a.y a.z b.x b.y b.z (isVec a) (isVec b) 1 w hB (by rw [hv]; rfl) hfew (fun w hB => box_bad a b la lb hv w hB) (fun w hB => vValid_walk a la w hB) (fun w hB => vValid_walk b lb w hB)
    | true =>
      have hv2 := hv
      rw [Bool.and_eq_true] at hv2
      obtain ⟨A, rfl⟩ := isVec_iff.1 hv2.1
      obtain ⟨B, rfl⟩ := isVec_iff.1 hv2.2
      have lA := few_le fa
      have lB := few_le fb
      by_cases hlt : A.lt3 B
      · have hle := boxT_le lA lB
        have hlen : (boxT A B).length = 12 := by unfold boxT; rw [List.length_map, boxI_len]
        have hck : chkC ((boxT A B).map txt) = 0 := chk_ok (by rw [hlen]; omega) (boxT_closed hlt.1 hlt.2.1 hlt.2.2)
        have hpt := boxT_points hlt.1 hlt.2.1 hlt.2.2
        have htl : tle ((boxT A B).map txt) 40000000 := tle_txt hle (by omega)
        have hps : ∀ i : Fin 8, txv (corner A B i) ∈ tvs (pointsL (boxT A B)) := fun i => by
          unfold tvs
          rw [hpt]
          exact List.mem_map_of_mem (List.mem_map_of_mem (boxI_all i))
        refine boxes_some (txv A).x (txv A).y (txv A).z (txv B).x (txv B).y (txv B).z ((boxT A B).map txt) (tvs (pointsL (boxT A B))) w hB (by rw [List.length_map, hlen]) (by rw [tvs_length, hpt, List.length_map, boxI_points]) hfew ?_ ?_ ?_ ?_ ?_ ?_ ?_
        · intro w hB
          exact mbox_ok A B (lA.mono (by omega)) (lB.mono (by omega)) hlt w hB
        · intro v w hB hvv
          have := mPoints_ok v ((boxT A B).map txt) w hB hvv htl hck
          rw [points_txt] at this
          exact this
        · intro v w hB hvv
          have := convex_walk v (boxT A B) w hB hvv (le_up hle (by omega)) hck
          rw [boxT_convex hlt.1 hlt.2.1 hlt.2.2] at this
          exact this
        · intro v w hB hvv
          have := check_walk v ((boxT A B).map txt) w hB hvv htl
          rw [hck] at this
          exact this
        · intro v ib l0 h0 w hvv hI
          refine anyOut_walk v (tvs (pointsL (boxT A B))) (txv A) (txv B) ib l0 h0 w hvv ?_ hI
          intro s hs
          unfold tvs at hs
          rw [hpt] at hs
          obtain ⟨p, hp, rfl⟩ := List.mem_map.1 hs
          obtain ⟨i, _, rfl⟩ := List.mem_map.1 hp
          exact corner_in A B i
        · intro v w hvv
          exact hasVec_walk v _ (txv A) w hvv (by have := hps 0; rwa [corner_lo] at this)
        · intro v w hvv
          exact hasVec_walk v _ (txv B) w hvv (by have := hps 6; rwa [corner_hi] at this)
      · exact boxes_none (txv A).x (txv A).y (txv A).z (txv B).x (txv B).y (txv B).z true true 2 w hB rfl hfew (fun w hB => mbox_range A B (lA.mono (by omega)) (lB.mono (by omega)) hlt w hB)
          (fun w hB => by have := vValid_walk (txv A) la w hB; rw [isVec_txv] at this; exact this) (fun w hB => by have := vValid_walk (txv B) lb w hB; rw [isVec_txv] at this; exact this)

/-! ### The row -/
theorem own : ownKnob Tryz.prog.godebug = none := by kernel_rfl
theorem gPow : Tryz.prog.globalNamed "internal/strconv.uint64pow10" = some 3 := by kernel_rfl
/-- The listed variables' cells, as data. -/
def laidVals (d : DataW Unit) : Array Value := match d with
  | .agg ds => (ds.map fun x => match x with | .lit (.int k z) => Value.int k z | _ => Value.bool false).toArray
  | _ => #[]
/-- What the row's list gives: the table of the powers of ten. -/
theorem tab_of {W : World} (h : laidMetH Tryz.prog Rows.meshBoxesRow.laid W) : Lib.TabIs Tryz.prog W "internal/strconv.uint64pow10" .u64 Lib.pow10Tab := by
  have h2 : laidMet Tryz.prog Rows.meshBoxesRow.laid W := h
  obtain ⟨ps, ⟨_, _, _, _, _, _, _, _, _, _, ⟨_, _, _, _, _, _, _, _, _, _, h3, _⟩, _⟩, _, _⟩ := h2
  obtain ⟨g', t', cs, fuel, p, q, hg', ht', hvar, hd, _, _⟩ := h3
  obtain rfl := Option.some.inj (gPow.symm.trans hg')
  have hty : (Tryz.prog.globals[3]?).map (·.type) = some 293 := by kernel_rfl
  obtain rfl := Option.some.inj (hty.symm.trans ht')
  unfold Lib.TabIs
  have hd2 : DataW.trod (fun _ => ()) Tryz.prog W 0 (fun _ => true) false fuel 293 cs.toList = some (Lib.tabData .u64 Lib.pow10Tab, p) := hd
  rw [hvar, ← Lib.cells_of_tab (n := 20) Tryz.underlying293 Tryz.underlying204 (by kernel_rfl) (by kernel_rfl) hd2]
theorem bw_of {W : World} (h : laidMetH Tryz.prog Rows.meshBoxesRow.laid W) (hs : W.ShapedOpen Tryz.prog) : Bw W :=
  ⟨tab_of h, cell_of_shapedOpen_int (zero := #[.int .i64 0]) (t := 3) hs (of_decide_eq_true (by kernel_rfl)) (by kernel_rfl) rfl (by kernel_rfl) (by kernel_rfl) Tryz.underlying3⟩

theorem bytes_eta (s : ByteArray) : (⟨s.data.toList.toArray⟩ : ByteArray) = s := by cases s; simp
/-- A vector's reading. -/
theorem vec_reads {H : Type} {enc : TypeId × Value → H} (W' : World) (b : Nat) (sp : Nat → Bool) (hd : Bool) (x y z : ByteArray) (hx : x.size ≤ maxLen) (hy : y.size ≤ maxLen) (hz : z.size ≤ maxLen) :
    DataW.Trod enc Tryz.prog W' b sp hd 25 (.agg #[.string x, .string y, .string z]) (.agg [.lit (.string x.data.toList), .lit (.string y.data.toList), .lit (.string z.data.toList)]) [] := by
  simpa using shut_agg3 (enc := enc) (w := W') (base := b) (spare := sp) (held := hd) (y0 := (.lit (.string x.data.toList), [])) (y1 := (.lit (.string y.data.toList), [])) (y2 := (.lit (.string z.data.toList), [])) Tryz.underlying25 (by kernel_rfl) (by kernel_rfl)
    ⟨1, by simp [DataW.trod, Value.cells, Tryz.underlying23, hx]⟩ ⟨1, by simp [DataW.trod, Value.cells, Tryz.underlying23, hy]⟩ ⟨1, by simp [DataW.trod, Value.cells, Tryz.underlying23, hz]⟩

set_option maxRecDepth 100000 in
theorem boxes_contract (H : Type) (enc : TypeId × Value → H) (W : World) (base : Nat) (args : Array Value) (ds gs : List (DataW H)) (before : List MemPlace)
    (hval : ∀ (j : Nat) t v, Tryz.f8.params[j]? = some t → args[j]? = some v → Value.okWide Tryz.prog W .any base t v)
    (hW : DataW.Whole enc Tryz.prog Tryz.f8.params.toList Rows.meshBoxesSpec.vars false W args.toList ds gs before) (hL : laidMetH Tryz.prog Rows.meshBoxesRow.laid W) (hS : W.ShapedOpen Tryz.prog) :
    Calls Tryz.prog 8 args W fun e W' => ∃ v, e = .returned v ∧ Rows.meshBoxesSpec.post enc Tryz.prog Tryz.f8 false true false false W args v W' := by
  have hW' := hW
  obtain ⟨p, q, hA0, hV, rfl, hfz, hnd⟩ := hW
  have hA : DataW.TrodAll enc Tryz.prog W 0 (fun _ => true) true Tryz.f8.params.toList args.toList ds p := hA0
  rw [Tryz.params8] at hA hval
  obtain ⟨v0, v1, d0, d1, p0, p1, rfl, rfl, rfl, h0, h1⟩ := trodAll_two hA
  obtain ⟨rfl, rfl⟩ := trodVars_none hV
  obtain ⟨a0, a1, a2, y0, y1, y2, m, rfl, rfl, rfl, hy0, hy1, hy2⟩ := open_agg3 Tryz.underlying25 (by kernel_rfl) (by kernel_rfl) (hval 0 25 v0 rfl rfl) h0
  obtain ⟨b0, b1, b2, z0, z1, z2, k, rfl, rfl, rfl, hz0, hz1, hz2⟩ := open_agg3 Tryz.underlying25 (by kernel_rfl) (by kernel_rfl) (hval 1 25 v1 rfl rfl) h1
  obtain ⟨s0, e0, rfl, w0⟩ := DataW.trod_string Tryz.underlying23 hy0
  obtain ⟨s1, e1, rfl, w1⟩ := DataW.trod_string Tryz.underlying23 hy1
  obtain ⟨s2, e2, rfl, w2⟩ := DataW.trod_string Tryz.underlying23 hy2
  obtain ⟨r0, f0, rfl, x0⟩ := DataW.trod_string Tryz.underlying23 hz0
  obtain ⟨r1, f1, rfl, x1⟩ := DataW.trod_string Tryz.underlying23 hz1
  obtain ⟨r2, f2, rfl, x2⟩ := DataW.trod_string Tryz.underlying23 hz2
  simp at e0 e1 e2 f0 f1 f2
  subst e0 e1 e2 f0 f1 f2
  clear hA0
  simp only [List.append_nil] at hW'
  refine (meshBoxes_walk ⟨s0, s1, s2⟩ ⟨r0, r1, r2⟩ W (bw_of hL hS)).mono fun e W' ⟨he, hg⟩ => ?_
  subst he
  refine ⟨_, rfl, _, _, _, [], [], [], hW', ?_, ?_, rfl, hg.frame _, fun h => by cases h⟩
  · exact trodAll_cons_mk (shut_bool Tryz.underlying4 _) trodAll_mk0
  · exact trodAll_mk2 (vec_reads W' _ _ _ s0 s1 s2 w0 w1 w2) (vec_reads W' _ _ _ r0 r1 r2 x0 x1 x2)

/-! ### One input that fits -/
def putCells (cs : Array Value) : Obj → Obj
  | .cells _ t fr => .cells cs t fr
  | o => o
noncomputable def wlow : Nat := (World.holding Tryz.prog default ⟨#[], #[], []⟩).heap.size
abbrev rangeS : ByteArray := { data := #[118, 97, 108, 117, 101, 32, 111, 117, 116, 32, 111, 102, 32, 114, 97, 110, 103, 101] }
abbrev syntaxS : ByteArray := { data := #[105, 110, 118, 97, 108, 105, 100, 32, 115, 121, 110, 116, 97, 120] }
noncomputable def laidWorld (os : Os) : World :=
  let w0 := World.holding Tryz.prog os ⟨#[.cells #[.string rangeS] 299, .cells #[.string syntaxS] 299], #[], []⟩
  { w0 with heap := ((((w0.heap.modify 4 (putCells (laidVals Rows.laid_math_bits_deBruijn32tab))).modify 5 (putCells (laidVals Rows.laid_math_bits_deBruijn64tab))).modify 3 (putCells (laidVals Rows.laid_internal_strconv_uint64pow10))).modify 2 (putCells #[.iface 297 (.pointer (some ⟨wlow, 0, none⟩))])).modify 1 (putCells #[.iface 297 (.pointer (some ⟨wlow + 1, 0, none⟩))]) }
def noVec : Value := .agg #[.string ⟨#[]⟩, .string ⟨#[]⟩, .string ⟨#[]⟩]
theorem laid_met (os : Os) : laidMet Tryz.prog Rows.meshBoxesRow.laid ((laidWorld os).forCall (fun _ _ => 0) ⟨#[], #[noVec, noVec], []⟩).memory :=
  laidMet_of_run' 8 (by kernel_rfl) (by kernel_rfl)
theorem reads0 (os : Os) {H : Type} (enc : TypeId × Value → H) : ∃ places, DataW.whole enc Tryz.prog ((laidWorld os).forCall (fun _ _ => 0) ⟨#[], #[noVec, noVec], []⟩).memory Tryz.f8.params.toList Rows.meshBoxesSpec.vars false #[noVec, noVec].toList 8 = some ([.agg [.lit (.string []), .lit (.string []), .lit (.string [])], .agg [.lit (.string []), .lit (.string []), .lit (.string [])]], [], places) :=
  ⟨[], by kernel_rfl⟩

set_option maxRecDepth 100000 in
theorem lifted (os : Os) (started : os.Started) (H : Type) (enc : TypeId × Value → H) (F : Stop.Interp) :
    ReturnsInHanded {} Tryz.checked os 8 .any ((OpenSpec.ofChange Rows.meshBoxesSpec).preRow enc Tryz.prog Tryz.f8 Rows.meshBoxesRow.domain false Rows.meshBoxesRow.laid) (((OpenSpec.ofChange Rows.meshBoxesSpec).at F).post enc Tryz.prog Tryz.f8 false true false false) := by
  obtain ⟨places, hx⟩ := reads0 os enc
  refine returnsInHanded_of_row (C := Tryz.checked) (s := OpenSpec.ofChange Rows.meshBoxesSpec) own started (by kernel_rfl) Tryz.func8
    (witness_row_at (enc := enc) (C := Tryz.checked) false (laidWorld os) #[noVec, noVec] rfl (by kernel_rfl) (by kernel_rfl) (by kernel_rfl)
      (OpenSpec.preRow_of_cond 8 hx (by kernel_rfl) (fun k hk => by cases hk) (by kernel_rfl) (laid_met os))) ?_
  intro W base args ds gs before hval hW _ _ _ hL hS _
  exact boxes_contract H enc W base args ds gs before hval hW hL hS

theorem said : Rows.MeshBoxesSaid :=
  OpenClaim.holds_of_cond 8 Tryz.f8 rfl rfl rfl rfl rfl rfl rfl ⟨rfl, rfl, rfl, rfl, rfl⟩ rfl rfl rfl rfl rfl (by kernel_rfl) Tryz.func8 (by kernel_rfl)
    (of_decide_eq_true (by kernel_rfl)) (by unfold Func.isWrapper; first | (rw [if_pos (by decide +kernel)]; kernel_rfl) | (rw [if_neg (by decide +kernel)]; exact ⟨rfl, rfl⟩))
    (fun os started H enc _ F => by rw [OpenClaim.pre_eq_preRow]; exact lifted os started H enc F)

theorem plain (f : FuncId) (fn : Func) (hf : Tryz.pinned.checked.prog.funcNamed "garboard/garboardlaw12.MeshBoxes" = some f) (hfn : Tryz.pinned.checked.prog.funcs[f]? = some fn) :
    true = Tryz.pinned.checked.prog.looks [] ∧ ∀ (j : Nat) t, fn.params[j]? = some t → Tryz.pinned.checked.prog.wantsStandIn t = false := by
  obtain rfl : f = 8 := Option.some.inj ((show Tryz.prog.funcNamed "garboard/garboardlaw12.MeshBoxes" = some 8 by kernel_rfl).symm.trans hf) |>.symm
  obtain rfl : fn = Tryz.f8 := (Option.some.inj (Tryz.func8.symm.trans hfn)).symm
  refine ⟨by kernel_rfl, fun j t ht => ?_⟩
  rw [Tryz.params8] at ht
  obtain rfl : t = 25 := by simpa using Array.mem_of_getElem? ht
  exact (show Tryz.prog.wantsStandIn 25 = false by kernel_rfl)

/-- THE CARD. -/
theorem meshBoxes_holds : Rows.MeshBoxesCardSaid :=
  Claim7.holds_tied_plain_at .later [] _ _ _ _ said (fun _ h => by cases h) (by kernel_rfl) (fun _ h => by cases h) meshBoxes_row_tie rfl ⟨rfl, rfl⟩ (by kernel_rfl) rfl plain (by kernel_rfl)
#print axioms meshBoxes_holds
end Go.Proofs.YtbnbaokamccmjaaGreatDoor
