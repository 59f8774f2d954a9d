/- vector: zip. -/
import Derived.Test.YtbnbaokamccmjaaGreatDoorVa1
import Derived.Test.YtbnbaokamccmjaaGreatDoorBb2
set_option linter.unusedVariables false
set_option linter.unusedSimpArgs false
namespace Go.Proofs.YtbnbaokamccmjaaGreatDoor
open Go Go.RowKit

set_option maxHeartbeats 400000 in
theorem coord_exact (a b c : ByteArray) (w : World) :
    Calls Tryz.prog 77 #[.agg #[.string a, .string b, .string c]] w fun e w' => e = .returned (.agg #[.string a, .string b, .string c]) ∧ w' = (w.alloc (.cells #[.string a, .string b, .string c] 115)).alloc (.cells #[.string a, .string b, .string c] 113) := by
  go_enter Tryz.func77, Tryz.ntmps77
  go_wp2
  refine bodyPost_ret (v := .agg #[.string a, .string b, .string c]) (by simp [results, Tryz.results77, go_sem, *]) rfl ⟨rfl, ?_⟩
  go_simp

set_option maxHeartbeats 4000000 in
theorem zip_add (a1 a2 a3 b1 b2 b3 r1 r2 r3 : ByteArray) (w : World) (hB : Bw w)
    (h1 : ∀ w, Bw w → Calls Tryz.prog 124 #[.string a1, .string b1] w fun e w' => e = .returned (.string r1) ∧ Below w.heap.size w w')
    (h2 : ∀ w, Bw w → Calls Tryz.prog 124 #[.string a2, .string b2] w fun e w' => e = .returned (.string r2) ∧ Below w.heap.size w w')
    (h3 : ∀ w, Bw w → Calls Tryz.prog 124 #[.string a3, .string b3] w fun e w' => e = .returned (.string r3) ∧ Below w.heap.size w w') :
    Calls Tryz.prog 107 #[.func (.func 124) #[] #[], .agg #[.string a1, .string a2, .string a3], .agg #[.string b1, .string b2, .string b3]] w fun e w' => e = .returned (.agg #[.string r1, .string r2, .string r3]) ∧ Below w.heap.size w w' := by
  have H1 := Lib.hid h1
  have H2 := Lib.hid h2
  have H3 := Lib.hid h3
  have K1 := Lib.hid (fun w => coord_exact a1 a2 a3 w)
  have K2 := Lib.hid (fun w => coord_exact b1 b2 b3 w)
  clear h1 h2 h3
  go_enter Tryz.func107, Tryz.ntmps107
  go_upto_region 1 with fail
  go_cut [7, 8] (fun s7 s8 wx => ∃ p q : Nat, s7 = .pointer (some ⟨p, 0, none⟩) ∧ s8 = .pointer (some ⟨q, 0, none⟩) ∧ w.heap.size + 2 < p ∧ w.heap.size + 2 < q ∧ Hid (Bk wx p [.string a1, .string a2, .string a3]) ∧ Hid (Bk wx q [.string b1, .string b2, .string b3]) ∧ Hid (Bk wx (w.heap.size + 1 + 1) [.string ⟨#[]⟩, .string ⟨#[]⟩, .string ⟨#[]⟩]) ∧ Below w.heap.size w wx)
  case first =>
    go_region_held3 (fun w' => w'.cell? ⟨w.heap.size, 0, none⟩ = some (.string a1) ∧ w'.cell? ⟨w.heap.size, 1, none⟩ = some (.string a2) ∧ w'.cell? ⟨w.heap.size, 2, none⟩ = some (.string a3) ∧ w'.cell? ⟨w.heap.size + 1, 0, none⟩ = some (.string b1) ∧ w'.cell? ⟨w.heap.size + 1, 1, none⟩ = some (.string b2) ∧ w'.cell? ⟨w.heap.size + 1, 2, none⟩ = some (.string b3))
      (refine ⟨?_, ?_, ?_, ?_, ?_, ?_⟩ <;> first | with_reducible assumption | (go_simp; done))
      (first | (go_at_call_of 77 (Value.agg #[.string a1, .string a2, .string a3]); refine (K1.out _).mono ?_; rintro e w1 ⟨rfl, rfl⟩) | (go_at_call_of 77 (Value.agg #[.string b1, .string b2, .string b3]); refine (K2.out _).mono ?_; rintro e w1 ⟨rfl, rfl⟩))
    all_goals
      go_wp2_with fail
      go_meet
      exact ⟨_, _, rfl, rfl, by omega, by omega, Lib.hid (by repeat (first | with_reducible assumption | (refine Bk.drew ?_) | (refine bk_at ?_; (try simp); done) | (refine Bk.alloc ?_ _) | (refine Bk.far ?_ ?_ _; rotate_left; ((try simp) <;> omega)))), Lib.hid (by repeat (first | with_reducible assumption | (refine Bk.drew ?_) | (refine bk_at ?_; (try simp); done) | (refine Bk.alloc ?_ _) | (refine Bk.far ?_ ?_ _; rotate_left; ((try simp) <;> omega)))), Lib.hid (by repeat (first | with_reducible assumption | (refine Bk.drew ?_) | (refine bk_at ?_; (try simp); done) | (refine Bk.alloc ?_ _) | (refine Bk.far ?_ ?_ _; rotate_left; ((try simp) <;> omega)))), (by repeat (first | exact br _ | assumption | refine ba ?_ | refine bd ?_ | refine below_drewN ?_ _ | refine bs ?_ (by (try simp) <;> omega)))⟩
  case rest =>
    obtain ⟨p, q, rfl, rfl, hp, hq, HP, HQ, HR, HW⟩ := hcut
    have hpl := HP.out.lt
    have hql := HQ.out.lt
    have hrl := HR.out.lt
    have HO0 : Hid (Bk (wc.alloc (.cells #[.string ⟨#[]⟩, .string ⟨#[]⟩, .string ⟨#[]⟩] 113)) wc.heap.size [.string ⟨#[]⟩, .string ⟨#[]⟩, .string ⟨#[]⟩]) := Lib.hid (bk_new _ _ _)
    have HP0 := Lib.hid (HP.out.alloc (.cells #[.string ⟨#[]⟩, .string ⟨#[]⟩, .string ⟨#[]⟩] 113))
    have HQ0 := Lib.hid (HQ.out.alloc (.cells #[.string ⟨#[]⟩, .string ⟨#[]⟩, .string ⟨#[]⟩] 113))
    have HR0 := Lib.hid (HR.out.alloc (.cells #[.string ⟨#[]⟩, .string ⟨#[]⟩, .string ⟨#[]⟩] 113))
    have B0 : Below w.heap.size w (wc.alloc (.cells #[.string ⟨#[]⟩, .string ⟨#[]⟩, .string ⟨#[]⟩] 113)) := ba HW
    clear HP HQ HR HW
    go_wp2
    refine wp_loop_rounds 4 ?_
    rw [rounds_succ]
    obtain ⟨x0, x1, x2, -, -, -⟩ := HP0.out.c3
    obtain ⟨y0, y1, y2, -, -, -⟩ := HQ0.out.c3
    go_wp2
    go_region_held3 (fun w' => w'.cell? ⟨p, 0, none⟩ = some (.string a1) ∧ w'.cell? ⟨q, 0, none⟩ = some (.string b1) ∧ Below w.heap.size w w')
      ((go_split_ands; refine ⟨?_, ?_, ?_⟩ <;> first | (refine bc g1 ?_; with_reducible assumption) | (refine bn ?_ g1; with_reducible assumption) | (refine cset ?_ ?_ <;> first | with_reducible assumption | ((try simp) <;> omega)) | (go_simp; done) | exact (by repeat (first | exact br _ | assumption | refine ba ?_ | refine bd ?_ | refine below_drewN ?_ _ | refine bs ?_ (by (try simp) <;> omega)))))
      (first | (go_at_call 124; refine (H1.out _ (hB.below (by go_split_ands; assumption))).mono ?_; rintro e w1 ⟨rfl, g1⟩; obtain ⟨o0, o1, o2, f0, f1, f2⟩ := (HO0.out.drew.below g1).c3; have hz1 : wc.heap.size < w1.heap.size := (HO0.out.drew.below g1).lt))
    have HO1 := Lib.hid ((HO0.out.drew.below g1).set 0 (by simp) (.string r1))
    have HP1 := Lib.hid ((HP0.out.drew.below g1).far (p := ⟨wc.heap.size, 0, none⟩) (by dsimp only; omega) (.string r1))
    have HQ1 := Lib.hid ((HQ0.out.drew.below g1).far (p := ⟨wc.heap.size, 0, none⟩) (by dsimp only; omega) (.string r1))
    have HR1 := Lib.hid ((HR0.out.drew.below g1).far (p := ⟨wc.heap.size, 0, none⟩) (by dsimp only; omega) (.string r1))
    have B1 : Below w.heap.size w (w1.setCell ⟨wc.heap.size, 0, none⟩ (.string r1)) := bs (bn (bd B0) g1) (by dsimp only; omega)
    clear g1 HO0 HP0 HQ0 HR0 x0 x1 x2 y0 y1 y2 o0 o1 o2 f0 f1 f2 B0
    go_wp2
    rw [rounds_succ]
    obtain ⟨x0, x1, x2, -, -, -⟩ := HP1.out.c3
    obtain ⟨y0, y1, y2, -, -, -⟩ := HQ1.out.c3
    go_wp2
    go_region_held3 (fun w' => w'.cell? ⟨p, 1, none⟩ = some (.string a2) ∧ w'.cell? ⟨q, 1, none⟩ = some (.string b2) ∧ Below w.heap.size w w')
      ((go_split_ands; refine ⟨?_, ?_, ?_⟩ <;> first | (refine bc g2 ?_; with_reducible assumption) | (refine bn ?_ g2; with_reducible assumption) | (refine cset ?_ ?_ <;> first | with_reducible assumption | ((try simp) <;> omega)) | (go_simp; done) | exact (by repeat (first | exact br _ | assumption | refine ba ?_ | refine bd ?_ | refine below_drewN ?_ _ | refine bs ?_ (by (try simp) <;> omega)))))
      (first | (go_at_call 124; refine (H2.out _ (hB.below (by go_split_ands; assumption))).mono ?_; rintro e w2 ⟨rfl, g2⟩; obtain ⟨o0, o1, o2, f0, f1, f2⟩ := (HO1.out.drew.below g2).c3; have hz2 : wc.heap.size < w2.heap.size := (HO1.out.drew.below g2).lt))
    have HO2 := Lib.hid ((HO1.out.drew.below g2).set 1 (by simp) (.string r2))
    have HP2 := Lib.hid ((HP1.out.drew.below g2).far (p := ⟨wc.heap.size, 1, none⟩) (by dsimp only; omega) (.string r2))
    have HQ2 := Lib.hid ((HQ1.out.drew.below g2).far (p := ⟨wc.heap.size, 1, none⟩) (by dsimp only; omega) (.string r2))
    have HR2 := Lib.hid ((HR1.out.drew.below g2).far (p := ⟨wc.heap.size, 1, none⟩) (by dsimp only; omega) (.string r2))
    have B2 : Below w.heap.size w (w2.setCell ⟨wc.heap.size, 1, none⟩ (.string r2)) := bs (bn (bd B1) g2) (by dsimp only; omega)
    clear g2 HO1 HP1 HQ1 HR1 x0 x1 x2 y0 y1 y2 o0 o1 o2 f0 f1 f2 B1
    go_wp2
    rw [rounds_succ]
    obtain ⟨x0, x1, x2, -, -, -⟩ := HP2.out.c3
    obtain ⟨y0, y1, y2, -, -, -⟩ := HQ2.out.c3
    go_wp2
    go_region_held3 (fun w' => w'.cell? ⟨p, 2, none⟩ = some (.string a3) ∧ w'.cell? ⟨q, 2, none⟩ = some (.string b3) ∧ Below w.heap.size w w')
      ((go_split_ands; refine ⟨?_, ?_, ?_⟩ <;> first | (refine bc g3 ?_; with_reducible assumption) | (refine bn ?_ g3; with_reducible assumption) | (refine cset ?_ ?_ <;> first | with_reducible assumption | ((try simp) <;> omega)) | (go_simp; done) | exact (by repeat (first | exact br _ | assumption | refine ba ?_ | refine bd ?_ | refine below_drewN ?_ _ | refine bs ?_ (by (try simp) <;> omega)))))
      (first | (go_at_call 124; refine (H3.out _ (hB.below (by go_split_ands; assumption))).mono ?_; rintro e w3 ⟨rfl, g3⟩; obtain ⟨o0, o1, o2, f0, f1, f2⟩ := (HO2.out.drew.below g3).c3; have hz3 : wc.heap.size < w3.heap.size := (HO2.out.drew.below g3).lt))
    have HO3 := Lib.hid ((HO2.out.drew.below g3).set 2 (by simp) (.string r3))
    have HP3 := Lib.hid ((HP2.out.drew.below g3).far (p := ⟨wc.heap.size, 2, none⟩) (by dsimp only; omega) (.string r3))
    have HQ3 := Lib.hid ((HQ2.out.drew.below g3).far (p := ⟨wc.heap.size, 2, none⟩) (by dsimp only; omega) (.string r3))
    have HR3 := Lib.hid ((HR2.out.drew.below g3).far (p := ⟨wc.heap.size, 2, none⟩) (by dsimp only; omega) (.string r3))
    have B3 : Below w.heap.size w (w3.setCell ⟨wc.heap.size, 2, none⟩ (.string r3)) := bs (bn (bd B2) g3) (by dsimp only; omega)
    clear g3 HO2 HP2 HQ2 HR2 x0 x1 x2 y0 y1 y2 o0 o1 o2 f0 f1 f2 B2
    go_wp2
    rw [rounds_succ]
    obtain ⟨o0, o1, o2, -, -, -⟩ := HO3.out.c3
    go_wp2_with fail
    refine (vof_walk _ _ _ _).mono ?_
    rintro e w9 ⟨rfl, g9⟩
    obtain ⟨q0, q1, q2, f0, f1, f2⟩ := (HR3.out.below g9).c3
    have hz9 : w.heap.size + 2 < w9.heap.size := by have := g9.size; (try simp at this); omega
    have B9 : Below w.heap.size w w9 := bn (by repeat (first | exact br _ | assumption | refine ba ?_ | refine bd ?_ | refine below_drewN ?_ _ | refine bs ?_ (by (try simp) <;> omega))) g9
    clear g9 HO3 HP3 HQ3 HR3 o0 o1 o2
    go_wp2
    refine bodyPost_ret (v := .agg #[.string r1, .string r2, .string r3]) (by simp [results, Tryz.results107, go_sem, *]) rfl ⟨(by first | rfl | rw [hI]), (by repeat (first | exact br _ | assumption | refine ba ?_ | refine bd ?_ | refine below_drewN ?_ _ | refine bs ?_ (by (try simp) <;> omega)))⟩

set_option maxHeartbeats 4000000 in
theorem zip_sub (a1 a2 a3 b1 b2 b3 r1 r2 r3 : ByteArray) (w : World) (hB : Bw w)
    (h1 : ∀ w, Bw w → Calls Tryz.prog 108 #[.string a1, .string b1] w fun e w' => e = .returned (.string r1) ∧ Below w.heap.size w w')
    (h2 : ∀ w, Bw w → Calls Tryz.prog 108 #[.string a2, .string b2] w fun e w' => e = .returned (.string r2) ∧ Below w.heap.size w w')
    (h3 : ∀ w, Bw w → Calls Tryz.prog 108 #[.string a3, .string b3] w fun e w' => e = .returned (.string r3) ∧ Below w.heap.size w w') :
    Calls Tryz.prog 107 #[.func (.func 108) #[] #[], .agg #[.string a1, .string a2, .string a3], .agg #[.string b1, .string b2, .string b3]] w fun e w' => e = .returned (.agg #[.string r1, .string r2, .string r3]) ∧ Below w.heap.size w w' := by
  have H1 := Lib.hid h1
  have H2 := Lib.hid h2
  have H3 := Lib.hid h3
  have K1 := Lib.hid (fun w => coord_exact a1 a2 a3 w)
  have K2 := Lib.hid (fun w => coord_exact b1 b2 b3 w)
  clear h1 h2 h3
  go_enter Tryz.func107, Tryz.ntmps107
  go_upto_region 1 with fail
  go_cut [7, 8] (fun s7 s8 wx => ∃ p q : Nat, s7 = .pointer (some ⟨p, 0, none⟩) ∧ s8 = .pointer (some ⟨q, 0, none⟩) ∧ w.heap.size + 2 < p ∧ w.heap.size + 2 < q ∧ Hid (Bk wx p [.string a1, .string a2, .string a3]) ∧ Hid (Bk wx q [.string b1, .string b2, .string b3]) ∧ Hid (Bk wx (w.heap.size + 1 + 1) [.string ⟨#[]⟩, .string ⟨#[]⟩, .string ⟨#[]⟩]) ∧ Below w.heap.size w wx)
  case first =>
    go_region_held3 (fun w' => w'.cell? ⟨w.heap.size, 0, none⟩ = some (.string a1) ∧ w'.cell? ⟨w.heap.size, 1, none⟩ = some (.string a2) ∧ w'.cell? ⟨w.heap.size, 2, none⟩ = some (.string a3) ∧ w'.cell? ⟨w.heap.size + 1, 0, none⟩ = some (.string b1) ∧ w'.cell? ⟨w.heap.size + 1, 1, none⟩ = some (.string b2) ∧ w'.cell? ⟨w.heap.size + 1, 2, none⟩ = some (.string b3))
      (refine ⟨?_, ?_, ?_, ?_, ?_, ?_⟩ <;> first | with_reducible assumption | (go_simp; done))
      (first | (go_at_call_of 77 (Value.agg #[.string a1, .string a2, .string a3]); refine (K1.out _).mono ?_; rintro e w1 ⟨rfl, rfl⟩) | (go_at_call_of 77 (Value.agg #[.string b1, .string b2, .string b3]); refine (K2.out _).mono ?_; rintro e w1 ⟨rfl, rfl⟩))
    all_goals
      go_wp2_with fail
      go_meet
      exact ⟨_, _, rfl, rfl, by omega, by omega, Lib.hid (by repeat (first | with_reducible assumption | (refine Bk.drew ?_) | (refine bk_at ?_; (try simp); done) | (refine Bk.alloc ?_ _) | (refine Bk.far ?_ ?_ _; rotate_left; ((try simp) <;> omega)))), Lib.hid (by repeat (first | with_reducible assumption | (refine Bk.drew ?_) | (refine bk_at ?_; (try simp); done) | (refine Bk.alloc ?_ _) | (refine Bk.far ?_ ?_ _; rotate_left; ((try simp) <;> omega)))), Lib.hid (by repeat (first | with_reducible assumption | (refine Bk.drew ?_) | (refine bk_at ?_; (try simp); done) | (refine Bk.alloc ?_ _) | (refine Bk.far ?_ ?_ _; rotate_left; ((try simp) <;> omega)))), (by repeat (first | exact br _ | assumption | refine ba ?_ | refine bd ?_ | refine below_drewN ?_ _ | refine bs ?_ (by (try simp) <;> omega)))⟩
  case rest =>
    obtain ⟨p, q, rfl, rfl, hp, hq, HP, HQ, HR, HW⟩ := hcut
    have hpl := HP.out.lt
    have hql := HQ.out.lt
    have hrl := HR.out.lt
    have HO0 : Hid (Bk (wc.alloc (.cells #[.string ⟨#[]⟩, .string ⟨#[]⟩, .string ⟨#[]⟩] 113)) wc.heap.size [.string ⟨#[]⟩, .string ⟨#[]⟩, .string ⟨#[]⟩]) := Lib.hid (bk_new _ _ _)
    have HP0 := Lib.hid (HP.out.alloc (.cells #[.string ⟨#[]⟩, .string ⟨#[]⟩, .string ⟨#[]⟩] 113))
    have HQ0 := Lib.hid (HQ.out.alloc (.cells #[.string ⟨#[]⟩, .string ⟨#[]⟩, .string ⟨#[]⟩] 113))
    have HR0 := Lib.hid (HR.out.alloc (.cells #[.string ⟨#[]⟩, .string ⟨#[]⟩, .string ⟨#[]⟩] 113))
    have B0 : Below w.heap.size w (wc.alloc (.cells #[.string ⟨#[]⟩, .string ⟨#[]⟩, .string ⟨#[]⟩] 113)) := ba HW
    clear HP HQ HR HW
    go_wp2
    refine wp_loop_rounds 4 ?_
    rw [rounds_succ]
    obtain ⟨x0, x1, x2, -, -, -⟩ := HP0.out.c3
    obtain ⟨y0, y1, y2, -, -, -⟩ := HQ0.out.c3
    go_wp2
    go_region_held3 (fun w' => w'.cell? ⟨p, 0, none⟩ = some (.string a1) ∧ w'.cell? ⟨q, 0, none⟩ = some (.string b1) ∧ Below w.heap.size w w')
      ((go_split_ands; refine ⟨?_, ?_, ?_⟩ <;> first | (refine bc g1 ?_; with_reducible assumption) | (refine bn ?_ g1; with_reducible assumption) | (refine cset ?_ ?_ <;> first | with_reducible assumption | ((try simp) <;> omega)) | (go_simp; done) | exact (by repeat (first | exact br _ | assumption | refine ba ?_ | refine bd ?_ | refine below_drewN ?_ _ | refine bs ?_ (by (try simp) <;> omega)))))
      (first | (go_at_call 108; refine (H1.out _ (hB.below (by go_split_ands; assumption))).mono ?_; rintro e w1 ⟨rfl, g1⟩; obtain ⟨o0, o1, o2, f0, f1, f2⟩ := (HO0.out.drew.below g1).c3; have hz1 : wc.heap.size < w1.heap.size := (HO0.out.drew.below g1).lt))
    have HO1 := Lib.hid ((HO0.out.drew.below g1).set 0 (by simp) (.string r1))
    have HP1 := Lib.hid ((HP0.out.drew.below g1).far (p := ⟨wc.heap.size, 0, none⟩) (by dsimp only; omega) (.string r1))
    have HQ1 := Lib.hid ((HQ0.out.drew.below g1).far (p := ⟨wc.heap.size, 0, none⟩) (by dsimp only; omega) (.string r1))
    have HR1 := Lib.hid ((HR0.out.drew.below g1).far (p := ⟨wc.heap.size, 0, none⟩) (by dsimp only; omega) (.string r1))
    have B1 : Below w.heap.size w (w1.setCell ⟨wc.heap.size, 0, none⟩ (.string r1)) := bs (bn (bd B0) g1) (by dsimp only; omega)
    clear g1 HO0 HP0 HQ0 HR0 x0 x1 x2 y0 y1 y2 o0 o1 o2 f0 f1 f2 B0
    go_wp2
    rw [rounds_succ]
    obtain ⟨x0, x1, x2, -, -, -⟩ := HP1.out.c3
    obtain ⟨y0, y1, y2, -, -, -⟩ := HQ1.out.c3
    go_wp2
    go_region_held3 (fun w' => w'.cell? ⟨p, 1, none⟩ = some (.string a2) ∧ w'.cell? ⟨q, 1, none⟩ = some (.string b2) ∧ Below w.heap.size w w')
      ((go_split_ands; refine ⟨?_, ?_, ?_⟩ <;> first | (refine bc g2 ?_; with_reducible assumption) | (refine bn ?_ g2; with_reducible assumption) | (refine cset ?_ ?_ <;> first | with_reducible assumption | ((try simp) <;> omega)) | (go_simp; done) | exact (by repeat (first | exact br _ | assumption | refine ba ?_ | refine bd ?_ | refine below_drewN ?_ _ | refine bs ?_ (by (try simp) <;> omega)))))
      (first | (go_at_call 108; refine (H2.out _ (hB.below (by go_split_ands; assumption))).mono ?_; rintro e w2 ⟨rfl, g2⟩; obtain ⟨o0, o1, o2, f0, f1, f2⟩ := (HO1.out.drew.below g2).c3; have hz2 : wc.heap.size < w2.heap.size := (HO1.out.drew.below g2).lt))
    have HO2 := Lib.hid ((HO1.out.drew.below g2).set 1 (by simp) (.string r2))
    have HP2 := Lib.hid ((HP1.out.drew.below g2).far (p := ⟨wc.heap.size, 1, none⟩) (by dsimp only; omega) (.string r2))
    have HQ2 := Lib.hid ((HQ1.out.drew.below g2).far (p := ⟨wc.heap.size, 1, none⟩) (by dsimp only; omega) (.string r2))
    have HR2 := Lib.hid ((HR1.out.drew.below g2).far (p := ⟨wc.heap.size, 1, none⟩) (by dsimp only; omega) (.string r2))
    have B2 : Below w.heap.size w (w2.setCell ⟨wc.heap.size, 1, none⟩ (.string r2)) := bs (bn (bd B1) g2) (by dsimp only; omega)
    clear g2 HO1 HP1 HQ1 HR1 x0 x1 x2 y0 y1 y2 o0 o1 o2 f0 f1 f2 B1
    go_wp2
    rw [rounds_succ]
    obtain ⟨x0, x1, x2, -, -, -⟩ := HP2.out.c3
    obtain ⟨y0, y1, y2, -, -, -⟩ := HQ2.out.c3
    go_wp2
    go_region_held3 (fun w' => w'.cell? ⟨p, 2, none⟩ = some (.string a3) ∧ w'.cell? ⟨q, 2, none⟩ = some (.string b3) ∧ Below w.heap.size w w')
      ((go_split_ands; refine ⟨?_, ?_, ?_⟩ <;> first | (refine bc g3 ?_; with_reducible assumption) | (refine bn ?_ g3; with_reducible assumption) | (refine cset ?_ ?_ <;> first | with_reducible assumption | ((try simp) <;> omega)) | (go_simp; done) | exact (by repeat (first | exact br _ | assumption | refine ba ?_ | refine bd ?_ | refine below_drewN ?_ _ | refine bs ?_ (by (try simp) <;> omega)))))
      (first | (go_at_call 108; refine (H3.out _ (hB.below (by go_split_ands; assumption))).mono ?_; rintro e w3 ⟨rfl, g3⟩; obtain ⟨o0, o1, o2, f0, f1, f2⟩ := (HO2.out.drew.below g3).c3; have hz3 : wc.heap.size < w3.heap.size := (HO2.out.drew.below g3).lt))
    have HO3 := Lib.hid ((HO2.out.drew.below g3).set 2 (by simp) (.string r3))
    have HP3 := Lib.hid ((HP2.out.drew.below g3).far (p := ⟨wc.heap.size, 2, none⟩) (by dsimp only; omega) (.string r3))
    have HQ3 := Lib.hid ((HQ2.out.drew.below g3).far (p := ⟨wc.heap.size, 2, none⟩) (by dsimp only; omega) (.string r3))
    have HR3 := Lib.hid ((HR2.out.drew.below g3).far (p := ⟨wc.heap.size, 2, none⟩) (by dsimp only; omega) (.string r3))
    have B3 : Below w.heap.size w (w3.setCell ⟨wc.heap.size, 2, none⟩ (.string r3)) := bs (bn (bd B2) g3) (by dsimp only; omega)
    clear g3 HO2 HP2 HQ2 HR2 x0 x1 x2 y0 y1 y2 o0 o1 o2 f0 f1 f2 B2
    go_wp2
    rw [rounds_succ]
    obtain ⟨o0, o1, o2, -, -, -⟩ := HO3.out.c3
    go_wp2_with fail
    refine (vof_walk _ _ _ _).mono ?_
    rintro e w9 ⟨rfl, g9⟩
    obtain ⟨q0, q1, q2, f0, f1, f2⟩ := (HR3.out.below g9).c3
    have hz9 : w.heap.size + 2 < w9.heap.size := by have := g9.size; (try simp at this); omega
    have B9 : Below w.heap.size w w9 := bn (by repeat (first | exact br _ | assumption | refine ba ?_ | refine bd ?_ | refine below_drewN ?_ _ | refine bs ?_ (by (try simp) <;> omega))) g9
    clear g9 HO3 HP3 HQ3 HR3 o0 o1 o2
    go_wp2
    refine bodyPost_ret (v := .agg #[.string r1, .string r2, .string r3]) (by simp [results, Tryz.results107, go_sem, *]) rfl ⟨(by first | rfl | rw [hI]), (by repeat (first | exact br _ | assumption | refine ba ?_ | refine bd ?_ | refine below_drewN ?_ _ | refine bs ?_ (by (try simp) <;> omega)))⟩

set_option maxHeartbeats 4000000 in
theorem zip_mul (a1 a2 a3 b1 b2 b3 r1 r2 r3 : ByteArray) (w : World) (hB : Bw w)
    (h1 : ∀ w, Bw w → Calls Tryz.prog 114 #[.string a1, .string b1] w fun e w' => e = .returned (.string r1) ∧ Below w.heap.size w w')
    (h2 : ∀ w, Bw w → Calls Tryz.prog 114 #[.string a2, .string b2] w fun e w' => e = .returned (.string r2) ∧ Below w.heap.size w w')
    (h3 : ∀ w, Bw w → Calls Tryz.prog 114 #[.string a3, .string b3] w fun e w' => e = .returned (.string r3) ∧ Below w.heap.size w w') :
    Calls Tryz.prog 107 #[.func (.func 114) #[] #[], .agg #[.string a1, .string a2, .string a3], .agg #[.string b1, .string b2, .string b3]] w fun e w' => e = .returned (.agg #[.string r1, .string r2, .string r3]) ∧ Below w.heap.size w w' := by
  have H1 := Lib.hid h1
  have H2 := Lib.hid h2
  have H3 := Lib.hid h3
  have K1 := Lib.hid (fun w => coord_exact a1 a2 a3 w)
  have K2 := Lib.hid (fun w => coord_exact b1 b2 b3 w)
  clear h1 h2 h3
  go_enter Tryz.func107, Tryz.ntmps107
  go_upto_region 1 with fail
  go_cut [7, 8] (fun s7 s8 wx => ∃ p q : Nat, s7 = .pointer (some ⟨p, 0, none⟩) ∧ s8 = .pointer (some ⟨q, 0, none⟩) ∧ w.heap.size + 2 < p ∧ w.heap.size + 2 < q ∧ Hid (Bk wx p [.string a1, .string a2, .string a3]) ∧ Hid (Bk wx q [.string b1, .string b2, .string b3]) ∧ Hid (Bk wx (w.heap.size + 1 + 1) [.string ⟨#[]⟩, .string ⟨#[]⟩, .string ⟨#[]⟩]) ∧ Below w.heap.size w wx)
  case first =>
    go_region_held3 (fun w' => w'.cell? ⟨w.heap.size, 0, none⟩ = some (.string a1) ∧ w'.cell? ⟨w.heap.size, 1, none⟩ = some (.string a2) ∧ w'.cell? ⟨w.heap.size, 2, none⟩ = some (.string a3) ∧ w'.cell? ⟨w.heap.size + 1, 0, none⟩ = some (.string b1) ∧ w'.cell? ⟨w.heap.size + 1, 1, none⟩ = some (.string b2) ∧ w'.cell? ⟨w.heap.size + 1, 2, none⟩ = some (.string b3))
      (refine ⟨?_, ?_, ?_, ?_, ?_, ?_⟩ <;> first | with_reducible assumption | (go_simp; done))
      (first | (go_at_call_of 77 (Value.agg #[.string a1, .string a2, .string a3]); refine (K1.out _).mono ?_; rintro e w1 ⟨rfl, rfl⟩) | (go_at_call_of 77 (Value.agg #[.string b1, .string b2, .string b3]); refine (K2.out _).mono ?_; rintro e w1 ⟨rfl, rfl⟩))
    all_goals
      go_wp2_with fail
      go_meet
      exact ⟨_, _, rfl, rfl, by omega, by omega, Lib.hid (by repeat (first | with_reducible assumption | (refine Bk.drew ?_) | (refine bk_at ?_; (try simp); done) | (refine Bk.alloc ?_ _) | (refine Bk.far ?_ ?_ _; rotate_left; ((try simp) <;> omega)))), Lib.hid (by repeat (first | with_reducible assumption | (refine Bk.drew ?_) | (refine bk_at ?_; (try simp); done) | (refine Bk.alloc ?_ _) | (refine Bk.far ?_ ?_ _; rotate_left; ((try simp) <;> omega)))), Lib.hid (by repeat (first | with_reducible assumption | (refine Bk.drew ?_) | (refine bk_at ?_; (try simp); done) | (refine Bk.alloc ?_ _) | (refine Bk.far ?_ ?_ _; rotate_left; ((try simp) <;> omega)))), (by repeat (first | exact br _ | assumption | refine ba ?_ | refine bd ?_ | refine below_drewN ?_ _ | refine bs ?_ (by (try simp) <;> omega)))⟩
  case rest =>
    obtain ⟨p, q, rfl, rfl, hp, hq, HP, HQ, HR, HW⟩ := hcut
    have hpl := HP.out.lt
    have hql := HQ.out.lt
    have hrl := HR.out.lt
    have HO0 : Hid (Bk (wc.alloc (.cells #[.string ⟨#[]⟩, .string ⟨#[]⟩, .string ⟨#[]⟩] 113)) wc.heap.size [.string ⟨#[]⟩, .string ⟨#[]⟩, .string ⟨#[]⟩]) := Lib.hid (bk_new _ _ _)
    have HP0 := Lib.hid (HP.out.alloc (.cells #[.string ⟨#[]⟩, .string ⟨#[]⟩, .string ⟨#[]⟩] 113))
    have HQ0 := Lib.hid (HQ.out.alloc (.cells #[.string ⟨#[]⟩, .string ⟨#[]⟩, .string ⟨#[]⟩] 113))
    have HR0 := Lib.hid (HR.out.alloc (.cells #[.string ⟨#[]⟩, .string ⟨#[]⟩, .string ⟨#[]⟩] 113))
    have B0 : Below w.heap.size w (wc.alloc (.cells #[.string ⟨#[]⟩, .string ⟨#[]⟩, .string ⟨#[]⟩] 113)) := ba HW
    clear HP HQ HR HW
    go_wp2
    refine wp_loop_rounds 4 ?_
    rw [rounds_succ]
    obtain ⟨x0, x1, x2, -, -, -⟩ := HP0.out.c3
    obtain ⟨y0, y1, y2, -, -, -⟩ := HQ0.out.c3
    go_wp2
    go_region_held3 (fun w' => w'.cell? ⟨p, 0, none⟩ = some (.string a1) ∧ w'.cell? ⟨q, 0, none⟩ = some (.string b1) ∧ Below w.heap.size w w')
      ((go_split_ands; refine ⟨?_, ?_, ?_⟩ <;> first | (refine bc g1 ?_; with_reducible assumption) | (refine bn ?_ g1; with_reducible assumption) | (refine cset ?_ ?_ <;> first | with_reducible assumption | ((try simp) <;> omega)) | (go_simp; done) | exact (by repeat (first | exact br _ | assumption | refine ba ?_ | refine bd ?_ | refine below_drewN ?_ _ | refine bs ?_ (by (try simp) <;> omega)))))
      (first | (go_at_call 114; refine (H1.out _ (hB.below (by go_split_ands; assumption))).mono ?_; rintro e w1 ⟨rfl, g1⟩; obtain ⟨o0, o1, o2, f0, f1, f2⟩ := (HO0.out.drew.below g1).c3; have hz1 : wc.heap.size < w1.heap.size := (HO0.out.drew.below g1).lt))
    have HO1 := Lib.hid ((HO0.out.drew.below g1).set 0 (by simp) (.string r1))
    have HP1 := Lib.hid ((HP0.out.drew.below g1).far (p := ⟨wc.heap.size, 0, none⟩) (by dsimp only; omega) (.string r1))
    have HQ1 := Lib.hid ((HQ0.out.drew.below g1).far (p := ⟨wc.heap.size, 0, none⟩) (by dsimp only; omega) (.string r1))
    have HR1 := Lib.hid ((HR0.out.drew.below g1).far (p := ⟨wc.heap.size, 0, none⟩) (by dsimp only; omega) (.string r1))
    have B1 : Below w.heap.size w (w1.setCell ⟨wc.heap.size, 0, none⟩ (.string r1)) := bs (bn (bd B0) g1) (by dsimp only; omega)
    clear g1 HO0 HP0 HQ0 HR0 x0 x1 x2 y0 y1 y2 o0 o1 o2 f0 f1 f2 B0
    go_wp2
    rw [rounds_succ]
    obtain ⟨x0, x1, x2, -, -, -⟩ := HP1.out.c3
    obtain ⟨y0, y1, y2, -, -, -⟩ := HQ1.out.c3
    go_wp2
    go_region_held3 (fun w' => w'.cell? ⟨p, 1, none⟩ = some (.string a2) ∧ w'.cell? ⟨q, 1, none⟩ = some (.string b2) ∧ Below w.heap.size w w')
      ((go_split_ands; refine ⟨?_, ?_, ?_⟩ <;> first | (refine bc g2 ?_; with_reducible assumption) | (refine bn ?_ g2; with_reducible assumption) | (refine cset ?_ ?_ <;> first | with_reducible assumption | ((try simp) <;> omega)) | (go_simp; done) | exact (by repeat (first | exact br _ | assumption | refine ba ?_ | refine bd ?_ | refine below_drewN ?_ _ | refine bs ?_ (by (try simp) <;> omega)))))
      (first | (go_at_call 114; refine (H2.out _ (hB.below (by go_split_ands; assumption))).mono ?_; rintro e w2 ⟨rfl, g2⟩; obtain ⟨o0, o1, o2, f0, f1, f2⟩ := (HO1.out.drew.below g2).c3; have hz2 : wc.heap.size < w2.heap.size := (HO1.out.drew.below g2).lt))
    have HO2 := Lib.hid ((HO1.out.drew.below g2).set 1 (by simp) (.string r2))
    have HP2 := Lib.hid ((HP1.out.drew.below g2).far (p := ⟨wc.heap.size, 1, none⟩) (by dsimp only; omega) (.string r2))
    have HQ2 := Lib.hid ((HQ1.out.drew.below g2).far (p := ⟨wc.heap.size, 1, none⟩) (by dsimp only; omega) (.string r2))
    have HR2 := Lib.hid ((HR1.out.drew.below g2).far (p := ⟨wc.heap.size, 1, none⟩) (by dsimp only; omega) (.string r2))
    have B2 : Below w.heap.size w (w2.setCell ⟨wc.heap.size, 1, none⟩ (.string r2)) := bs (bn (bd B1) g2) (by dsimp only; omega)
    clear g2 HO1 HP1 HQ1 HR1 x0 x1 x2 y0 y1 y2 o0 o1 o2 f0 f1 f2 B1
    go_wp2
    rw [rounds_succ]
    obtain ⟨x0, x1, x2, -, -, -⟩ := HP2.out.c3
    obtain ⟨y0, y1, y2, -, -, -⟩ := HQ2.out.c3
    go_wp2
    go_region_held3 (fun w' => w'.cell? ⟨p, 2, none⟩ = some (.string a3) ∧ w'.cell? ⟨q, 2, none⟩ = some (.string b3) ∧ Below w.heap.size w w')
      ((go_split_ands; refine ⟨?_, ?_, ?_⟩ <;> first | (refine bc g3 ?_; with_reducible assumption) | (refine bn ?_ g3; with_reducible assumption) | (refine cset ?_ ?_ <;> first | with_reducible assumption | ((try simp) <;> omega)) | (go_simp; done) | exact (by repeat (first | exact br _ | assumption | refine ba ?_ | refine bd ?_ | refine below_drewN ?_ _ | refine bs ?_ (by (try simp) <;> omega)))))
      (first | (go_at_call 114; refine (H3.out _ (hB.below (by go_split_ands; assumption))).mono ?_; rintro e w3 ⟨rfl, g3⟩; obtain ⟨o0, o1, o2, f0, f1, f2⟩ := (HO2.out.drew.below g3).c3; have hz3 : wc.heap.size < w3.heap.size := (HO2.out.drew.below g3).lt))
    have HO3 := Lib.hid ((HO2.out.drew.below g3).set 2 (by simp) (.string r3))
    have HP3 := Lib.hid ((HP2.out.drew.below g3).far (p := ⟨wc.heap.size, 2, none⟩) (by dsimp only; omega) (.string r3))
    have HQ3 := Lib.hid ((HQ2.out.drew.below g3).far (p := ⟨wc.heap.size, 2, none⟩) (by dsimp only; omega) (.string r3))
    have HR3 := Lib.hid ((HR2.out.drew.below g3).far (p := ⟨wc.heap.size, 2, none⟩) (by dsimp only; omega) (.string r3))
    have B3 : Below w.heap.size w (w3.setCell ⟨wc.heap.size, 2, none⟩ (.string r3)) := bs (bn (bd B2) g3) (by dsimp only; omega)
    clear g3 HO2 HP2 HQ2 HR2 x0 x1 x2 y0 y1 y2 o0 o1 o2 f0 f1 f2 B2
    go_wp2
    rw [rounds_succ]
    obtain ⟨o0, o1, o2, -, -, -⟩ := HO3.out.c3
    go_wp2_with fail
    refine (vof_walk _ _ _ _).mono ?_
    rintro e w9 ⟨rfl, g9⟩
    obtain ⟨q0, q1, q2, f0, f1, f2⟩ := (HR3.out.below g9).c3
    have hz9 : w.heap.size + 2 < w9.heap.size := by have := g9.size; (try simp at this); omega
    have B9 : Below w.heap.size w w9 := bn (by repeat (first | exact br _ | assumption | refine ba ?_ | refine bd ?_ | refine below_drewN ?_ _ | refine bs ?_ (by (try simp) <;> omega))) g9
    clear g9 HO3 HP3 HQ3 HR3 o0 o1 o2
    go_wp2
    refine bodyPost_ret (v := .agg #[.string r1, .string r2, .string r3]) (by simp [results, Tryz.results107, go_sem, *]) rfl ⟨(by first | rfl | rw [hI]), (by repeat (first | exact br _ | assumption | refine ba ?_ | refine bd ?_ | refine below_drewN ?_ _ | refine bs ?_ (by (try simp) <;> omega)))⟩
end Go.Proofs.YtbnbaokamccmjaaGreatDoor
